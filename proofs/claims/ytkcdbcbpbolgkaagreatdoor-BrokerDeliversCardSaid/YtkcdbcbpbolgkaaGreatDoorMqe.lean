/- Texts Anb, Ao, Ap. -/
import Derived.Test.YtkcdbcbpbolgkaaGreatDoorMqd
import Derived.MapKept
import Derived.Maps.RangeRun
set_option linter.unusedSimpArgs false
set_option linter.unusedVariables false
namespace Go.Abs
open Go.MapKept
section
variable {P : Program} {N tb : Nat} {T : Nat → Prop} {g : Ghost} {w : World} {st : St} {a : Act} {oper : Oper} {live live' : List Nat}
def KD.desc : KD → TypeDesc
 | .int k => .int k
 | .bool => .bool
 | _ => .string
theorem qpl {t : TypeId} {kd : KD} (h : kdOf P t = some kd) : (P.underlying t = some kd.desc ∧ ∀ ks, kd ≠ .agg ks) ∨ ∃ fs ks, kd = .agg ks ∧ P.underlying t = some (.struct fs) ∧ P.stoodInHeld t = false ∧ qh5 P fs.toList = some ks := by
 unfold kdOf at h
 split at h
 ·cases h; exact .inl ⟨by assumption, by simp⟩
 ·cases h; exact .inl ⟨by assumption, by simp⟩
 ·cases h; exact .inl ⟨by assumption, by simp⟩
 ·split at h
  ·obtain ⟨ks, hk, rfl⟩ := Option.map_eq_some_iff.1 h
   exact .inr ⟨_, _, rfl, by assumption, by assumption, hk⟩
  ·cases h
 ·cases h
theorem qj9 {kd : KD} {v : Value} {k e : D} (h : RV g w v k) (hk : kd.fit e k = true ∨ kd.fit k e = true) (hn : ∀ ks, kd ≠ .agg ks) : IsKey kd.desc v := by
 cases kd with
 | agg ks => exact (hn _ rfl).elim
 | int q =>
  cases k <;> cases e <;> simp [KD.fit] at hk
  have := vg h; grind [KD.desc, IsKey]
 | bool =>
  cases k <;> cases e <;> simp [KD.fit] at hk
  have := y9 h; subst this; trivial
 | str =>
  cases k <;> cases e <;> simp [KD.fit] at hk
  have := qcm h; subst this; trivial
theorem qd7 : ∀ {ks : List CK} {as bs : List D}, eqOk ks as bs = true → as.length = bs.length ∧ (x8 as bs = true ↔ as = bs) ∧ ∀ d ∈ as, d.noPtr = true
 | [], [], [], _ => by simp [x8]
 | k :: ks, as, bs, h => by
  cases k <;> cases as <;> cases bs <;> try (simp [eqOk] at h; done)
  all_goals
   rename_i x l y r
   cases x <;> cases y <;> first | (simp [eqOk] at h; done) | skip
  ·simp only [eqOk, Bool.and_eq_true, beq_iff_eq] at h
   obtain ⟨rfl, h⟩ := h
   obtain ⟨i1, i2, i3⟩ := qd7 h
   refine ⟨by simp [i1], by simp [x8, qg5, i2], fun d hd => ?_⟩
   rcases List.mem_cons.1 hd with rfl | hd
   ·rfl
   ·exact i3 d hd
  ·obtain ⟨i1, i2, i3⟩ := qd7 (show eqOk ks l r = true from h)
   refine ⟨by simp [i1], by simp [x8, qg5, i2], fun d hd => ?_⟩
   rcases List.mem_cons.1 hd with rfl | hd
   ·rfl
   ·exact i3 d hd
  ·obtain ⟨i1, i2, i3⟩ := qd7 (show eqOk ks l r = true from h)
   refine ⟨by simp [i1], by simp [x8, qg5, i2], fun d hd => ?_⟩
   rcases List.mem_cons.1 hd with rfl | hd
   ·rfl
   ·exact i3 d hd
theorem q2n : ∀ {ks : List CK} {as bs : List D}, eqOk ks as bs = true → ∀ {j : Nat} {a b : D}, as[j]? = some a → bs[j]? = some b →
  (∃ k x y, a = .int k x ∧ b = .int k y) ∨ (∃ x y, a = .bool x ∧ b = .bool y) ∨ ∃ x y, a = .str x ∧ b = .str y
 | [], as, bs, h, j, a, b, ha, hb => by cases as <;> cases bs <;> simp [eqOk] at h; simp at ha
 | k :: ks, as, bs, h, j, a, b, ha, hb => by
  cases k <;> cases as <;> cases bs <;> try (simp [eqOk] at h; done)
  all_goals
   rename_i x l y r
   cases x <;> cases y <;> first | (simp [eqOk] at h; done) | skip
  all_goals
   cases j with
   | zero => simp at ha hb; subst ha; subst hb; simp [eqOk] at h; simp_all
   | succ j => exact q2n (ks := ks) (as := l) (bs := r) (by simp [eqOk] at h; simp_all) (j := j) (by simpa using ha) (by simpa using hb)
theorem q5e {kd : KD} {v v' : Value} {k : D} {e : Nat × D × D} (h : RV g w v k) (h' : RV g w v' e.2.1) (hk : kd.fit k e.2.1 = true) : qba k e = true ↔ v = v' := by
 obtain ⟨n, k', x⟩ := e
 simp only at h' hk ⊢
 cases kd with
 | agg ks =>
  cases k <;> cases k' <;> simp only [KD.fit, Bool.false_eq_true] at hk
  rename_i as bs
  obtain ⟨i1, i2, _⟩ := qd7 hk
  obtain ⟨us, rfl, l1, _, c1⟩ := qdp h
  obtain ⟨vs, rfl, l2, _, c2⟩ := qdp h'
  simp only [qba]
  rw [i2]
  have at_ : ∀ (j : Nat) (h1 : j < us.length) (h2 : j < vs.length) (h3 : j < as.length) (h4 : j < bs.length), us[j] = vs[j] ↔ as[j] = bs[j] := by
   intro j h1 h2 h3 h4
   have p1 := c1 j _ _ (List.getElem?_eq_getElem h1) (List.getElem?_eq_getElem h3)
   have p2 := c2 j _ _ (List.getElem?_eq_getElem h2) (List.getElem?_eq_getElem h4)
   rcases q2n hk (List.getElem?_eq_getElem h3) (List.getElem?_eq_getElem h4) with ⟨k, x, y, e1, e2⟩ | ⟨x, y, e1, e2⟩ | ⟨x, y, e1, e2⟩ <;> rw [e1] at p1 ⊢ <;> rw [e2] at p2 ⊢
   ·rw [vg p1, vg p2]; simp
   ·rw [y9 p1, y9 p2]; simp
   ·rw [qcm p1, qcm p2]; simp
  constructor
  ·intro he
   have : us = vs := List.ext_getElem (by omega) fun j h1 h2 => (at_ j h1 h2 (by omega) (by omega)).2 (by subst he; rfl)
   rw [this]
  ·intro he
   have he : us = vs := by simpa using he
   exact List.ext_getElem (by omega) fun j h1 h2 => (at_ j (by omega) (by omega) h1 h2).1 (by subst he; rfl)
 | int q =>
  cases k <;> cases k' <;> simp [KD.fit] at hk
  have e1 := vg h; have e2 := vg h'; simp_all [qba]
 | bool =>
  cases k <;> cases k' <;> simp [KD.fit] at hk
  have e1 := y9 h; have e2 := y9 h'; simp_all [qba]
 | str =>
  cases k <;> cases k' <;> simp [KD.fit] at hk
  have e1 := qcm h; have e2 := qcm h'; simp_all [qba]
theorem qh7 {sub : List Field → Option (List CK)} (em : Bool) (n : Nat) (hsub : ∀ (t : TypeId) (gs : Array Field) (ks : List CK) (us : Array Value) (as : List D), P.underlying t = some (.struct gs) → sub gs.toList = some ks → eqOk ks as as = true →
  (∀ (j : Nat) (d : D), as[j]? = some d → ∃ v, us[j]? = some v ∧ RV g w v d) → (Instr.checkKey em (n + 1) t (.agg us)).run P w = .ok () w) (xs : Array Value) :
  ∀ (fs : List Field) (i : Nat) (ks : List CK) (as : List D), jo P sub i fs = some ks → eqOk ks as as = true → (∀ (j : Nat) (d : D), as[j]? = some d → ∃ v, xs[i + j]? = some v ∧ RV g w v d) →
  ∀ f ∈ fs, f.name ≠ "_" ∧ ∃ v, (part f.type xs f.offset).run P w = .ok v w ∧ (Instr.checkKey em (n + 1) f.type v).run P w = .ok () w
 | [], i, ks, as, hk, he, hx => fun f hf => by cases hf
 | f :: fs, i, ks, as, hk, he, hx => by
  simp only [jo] at hk
  split at hk
  ·rename_i hcond
   obtain ⟨hoff, hname⟩ := hcond
   have agg : ∀ d, P.underlying f.type = some d → (P.info? f.type).map (·.size) = some 1 → (∀ fs, d ≠ .struct fs) → (∀ k e, d ≠ .array k e) → aggN P f.type = some none := by
    intro d h1 h2
    obtain ⟨ti, hti, hsz⟩ := Option.map_eq_some_iff.1 h2
    grind [aggN]
   have step : ∀ {u : Value} {d : D} {as' : List D} {ks' : List CK}, aggN P f.type = some none → xs[i]? = some u → (Instr.checkKey em (n + 1) f.type u).run P w = .ok () w → jo P sub (i + 1) fs = some ks' → eqOk ks' as' as' = true →
     (∀ (j : Nat) (e : D), (d :: as')[j]? = some e → ∃ v, xs[i + j]? = some v ∧ RV g w v e) →
     ∀ f' ∈ f :: fs, f'.name ≠ "_" ∧ ∃ v, (part f'.type xs f'.offset).run P w = .ok v w ∧ (Instr.checkKey em (n + 1) f'.type v).run P w = .ok () w := by
    intro u d as' ks' hag hu hck hk' he' hx' f' hf'
    rcases List.mem_cons.1 hf' with rfl | hf'
    ·exact ⟨hname, u, yn hag xs _ u (by rw [hoff]; exact hu) w, hck⟩
    ·exact qh7 em n hsub xs fs (i + 1) ks' as' hk' he' (fun j e hj => by
      have := hx' (j + 1) e (by simpa using hj)
      rwa [show i + (j + 1) = i + 1 + j by omega] at this) f' hf'
   split at hk
   ·rename_i k hu hs1
    obtain ⟨r, hr, rfl⟩ := Option.map_eq_some_iff.1 hk
    match as, he with
    | .int k1 m1 :: as', he =>
     simp only [eqOk, Bool.and_eq_true, beq_iff_eq] at he
     obtain ⟨u, hu1, hu2⟩ := hx 0 _ rfl
     have e1 := vg hu2; subst e1
     exact step (agg _ hu hs1 (by simp) (by simp)) hu1 (by simp [Instr.checkKey, run_underlying hu]) hr he.2 hx
   ·rename_i hu hs1
    obtain ⟨r, hr, rfl⟩ := Option.map_eq_some_iff.1 hk
    match as, he with
    | .bool m1 :: as', he =>
     obtain ⟨u, hu1, hu2⟩ := hx 0 _ rfl
     have e1 := y9 hu2; subst e1
     exact step (agg _ hu hs1 (by simp) (by simp)) hu1 (by simp [Instr.checkKey, run_underlying hu]) hr he hx
   ·rename_i hu hs1
    obtain ⟨r, hr, rfl⟩ := Option.map_eq_some_iff.1 hk
    match as, he with
    | .str m1 :: as', he =>
     obtain ⟨u, hu1, hu2⟩ := hx 0 _ rfl
     have e1 := qcm hu2; subst e1
     exact step (agg _ hu hs1 (by simp) (by simp)) hu1 (by simp [Instr.checkKey, run_underlying hu]) hr he hx
   ·rename_i gs m hu hs1
    split at hk
    ·split at hk
     ·rename_i ka kb h1 h2
      split at hk
      ·rename_i hlen
       cases hk
       obtain ⟨a1, a2, b1, b2, e1, e2, l1, l2, o1, o2⟩ := qva he
       obtain ⟨rfl, rfl⟩ : b1 = a1 ∧ b2 = a2 := by
        rw [e1] at e2
        have := List.append_inj e2 (by omega)
        exact ⟨this.1.symm, this.2.symm⟩
       subst e1
       obtain ⟨ti, hti, hsz⟩ := Option.map_eq_some_iff.1 hs1
       have hag : aggN P f.type = some (some m) := by grind [aggN]
       intro f' hf'
       rcases List.mem_cons.1 hf' with rfl | hf'
       ·refine ⟨hname, _, qb4 hag xs _ w, ?_⟩
        rw [hoff]
        refine hsub _ gs ka (xs.extract i (i + m)) b1 hu h1 o1 (fun j e hj => ?_)
        have hlt := (List.getElem?_eq_some_iff.1 hj).1
        obtain ⟨v, hv, hr⟩ := hx j e (by rw [List.getElem?_append_left hlt]; exact hj)
        refine ⟨v, ?_, hr⟩
        rw [Array.getElem?_extract]
        have := (Array.getElem?_eq_some_iff.1 hv).1
        rw [if_pos (by omega)]; exact hv
       ·exact qh7 em n hsub xs fs (i + m) kb b2 h2 o2 (fun j e hj => by
         have := hx (m + j) e (by rw [List.getElem?_append_right (by omega), show m + j - b1.length = j by omega]; exact hj)
         rwa [← Nat.add_assoc] at this) f' hf'
      ·cases hk
     ·cases hk
    ·cases hk
   ·cases hk
  ·cases hk
theorem qm9 {em : Bool} {n : Nat} {t : TypeId} {gs : Array Field} {us : Array Value} (hu : P.underlying t = some (.struct gs))
  (each : ∀ f ∈ gs.toList, f.name ≠ "_" ∧ ∃ v, (part f.type us f.offset).run P w = .ok v w ∧ (Instr.checkKey em n f.type v).run P w = .ok () w) : (Instr.checkKey em (n + 1) t (.agg us)).run P w = .ok () w := by
 rw [Instr.checkKey]
 simp only [Sem.run_bind, run_underlying hu, Result.andThen_ok]
 rw [← Array.forIn_toList]
 generalize gs.toList = L at each
 induction L with
 | nil => simp
 | cons f L ih =>
  obtain ⟨hn, v, p1, p2⟩ := each f (by simp)
  simp only [List.forIn_cons, Sem.run_bind, hn, ne_eq, not_false_eq_true, if_true, Result.andThen_ok, p1, p2, Sem.run_pure]
  exact ih (fun y hy => each y (by simp [hy]))
theorem qka {t : TypeId} {kd : KD} {v : Value} {k : D} (h : kdOf P t = some kd) (hv : RV g w v k) (hk : kd.fit k k = true) (em : Bool) : (Instr.checkKey em 10000 t v).run P w = .ok () w := by
 rcases qpl h with ⟨hd, hn⟩ | ⟨fs, ks, rfl, hu, hh, hp⟩
 ·exact run_checkKey hd (qj9 hv (.inl hk) hn) em 9999
 ·cases k <;> simp only [KD.fit, Bool.false_eq_true] at hk
  rename_i as
  obtain ⟨us, rfl, l1, _, c1⟩ := qdp hv
  have hc : ∀ (j : Nat) (d : D), as[j]? = some d → ∃ v, us.toArray[j]? = some v ∧ RV g w v d := fun j d hd => by
   have hlt : j < us.length := by have := (List.getElem?_eq_some_iff.1 hd).1; omega
   exact ⟨us[j], by simp [hlt], c1 j _ d (List.getElem?_eq_getElem hlt) hd⟩
  refine qm9 hu (qh7 em 9998 (fun t gs ks us as hu hs he hx => ?_) us.toArray fs.toList 0 ks as hp hk (by simpa using hc))
  exact qm9 hu (qh7 em 9997 (fun _ _ _ _ _ _ h => by cases h) us gs.toList 0 ks as hs he (by simpa using hx))
theorem qsh : ∀ {ks : List CK} {as bs : List D}, eqOk ks as bs = true → ∀ (us : List Value), us.length = as.length → (∀ (j : Nat) (v : Value) (d : D), us[j]? = some v → as[j]? = some d → RV g w v d) → ((us.zip us).all fun (x, y) => Instr.sameBits 9999 x y) = true := by
 intro ks as bs h us hl hc
 rw [List.all_eq_true]
 intro p hp
 obtain ⟨j, hj, rfl⟩ := List.getElem_of_mem hp
 simp only [List.length_zip, Nat.min_self] at hj
 have hb : j < bs.length := by have := (qd7 h).1; omega
 simp only [List.getElem_zip]
 have p1 := hc j _ _ (List.getElem?_eq_getElem hj) (List.getElem?_eq_getElem (by omega))
 rcases q2n h (List.getElem?_eq_getElem (i := j) (by omega)) (List.getElem?_eq_getElem hb) with ⟨k, x, y, e1, _⟩ | ⟨x, y, e1, _⟩ | ⟨x, y, e1, _⟩ <;> rw [e1] at p1
 ·rw [vg p1]; simp [Instr.sameBits]
 ·rw [y9 p1]; simp [Instr.sameBits]
 ·rw [qcm p1]; simp [Instr.sameBits, bytes_beq]
theorem xa3 {t : TypeId} {kd : KD} {v : Value} {k : D} (h : kdOf P t = some kd) (hv : RV g w v k) (hk : kd.fit k k = true) : (Instr.keyThatStays v v).run P w = .ok v w := by
 rcases qpl h with ⟨hd, hn⟩ | ⟨fs, ks, rfl, hu, hh, hp⟩
 ·exact run_keyThatStays (qj9 hv (.inl hk) hn)
 ·cases k <;> simp only [KD.fit, Bool.false_eq_true] at hk
  obtain ⟨us, rfl, l1, _, c1⟩ := qdp hv
  have := qsh hk us l1 c1
  simp [Instr.keyThatStays, Instr.sameBits, this]
theorem qkb {t : TypeId} {kd : KD} {v : Value} {k : D} (hkd : kdOf P t = some kd) (hv : RV g w v k) (l : List MapEntry) (es : Ents) (hl : l.length = es.length)
  (he : ∀ (j : Nat) (e : MapEntry) (x : Nat × D × D), l[j]? = some e → es[j]? = some x → EntIs g w e x) (hf : (es.all fun e => kd.fit k e.2.1) = true) (hkk : kd.fit k k = true) :
  ((Instr.findKey t v l).run P w = .ok none w ∧ es.find? (qba k) = none ∧ es.findIdx? (qba k) = none) ∨
  ∃ (j : Nat) (e : MapEntry) (x : Nat × D × D), (Instr.findKey t v l).run P w = .ok (some (j, e.val)) w ∧ l[j]? = some e ∧ es[j]? = some x ∧ e.key = v ∧ es.find? (qba k) = some x ∧ es.findIdx? (qba k) = some j := by
 rcases qpl hkd with ⟨hd, hn⟩ | ⟨fs, ks, rfl, hu, hh, hp⟩
 ·have gen : ∀ (l : List MapEntry) (es : Ents) (i : Nat), l.length = es.length → (∀ (j : Nat) (e : MapEntry) (x : Nat × D × D), l[j]? = some e → es[j]? = some x → EntIs g w e x) → (es.all fun e => kd.fit k e.2.1) = true →
    (Instr.findNow kd.desc v l i = some none ∧ es.find? (qba k) = none ∧ es.findIdx? (qba k) = none) ∨
    ∃ (j : Nat) (e : MapEntry) (x : Nat × D × D), Instr.findNow kd.desc v l i = some (some (i + j, e.val)) ∧ l[j]? = some e ∧ es[j]? = some x ∧ e.key = v ∧ es.find? (qba k) = some x ∧ es.findIdx? (qba k) = some j := by
   intro l
   induction l with
   | nil => intro es i hl _ _; cases es with
    | nil => exact .inl ⟨rfl, rfl, rfl⟩
    | cons => simp at hl
   | cons e l ih =>
    intro es i hl he hf
    cases es with
    | nil => simp at hl
    | cons x es =>
     simp only [List.all_cons, Bool.and_eq_true] at hf
     have h0 := he 0 e x rfl rfl
     have hsame := q5e hv h0.key hf.1
     obtain ⟨r, hr, hiff⟩ := sameNow_of_keys (qj9 hv (.inl hkk) hn) (qj9 h0.key (.inl hf.1) hn)
     cases r with
     | true =>
      have hkv := hiff.1 rfl
      have hks := hsame.2 hkv
      exact .inr ⟨0, e, x, by simp [Instr.findNow, hr], rfl, rfl, hkv.symm, by grind, by grind⟩
     | false =>
      have hne : qba k x = false := by grind
      rcases ih es (i + 1) (by simpa using hl) (fun j e' x' h1 h2 => he (j + 1) e' x' (by simpa using h1) (by simpa using h2)) hf.2 with ⟨q1, q2, q3⟩ | ⟨j, e', x', q1, q2, q3, q4, q5, q6⟩
      ·exact .inl ⟨by simp [Instr.findNow, hr, q1], by simp [List.find?, hne, q2], by simp [List.findIdx?_cons, hne, q3]⟩
      ·exact .inr ⟨j + 1, e', x', by simp [Instr.findNow, hr, q1]; omega, by simpa using q2, by simpa using q3, q4, by simp [List.find?, hne, q5], by simp [List.findIdx?_cons, hne, q6]⟩
  rcases gen l es 0 hl he hf with ⟨q1, q2⟩ | ⟨j, e, x, q1, q2⟩
  ·exact .inl ⟨run_findKey hd q1, q2⟩
  ·exact .inr ⟨j, e, x, by simpa using run_findKey hd q1, q2⟩
 ·cases k <;> simp only [KD.fit, Bool.false_eq_true] at hkk
  rename_i as
  have gen : ∀ (l : List MapEntry) (es : Ents) (i : Nat), l.length = es.length → (∀ (j : Nat) (e : MapEntry) (x : Nat × D × D), l[j]? = some e → es[j]? = some x → EntIs g w e x) → (es.all fun e => (KD.agg ks).fit (.agg as) e.2.1) = true →
    ((Instr.findAsking t v l i).run P w = .ok none w ∧ es.find? (qba (.agg as)) = none ∧ es.findIdx? (qba (.agg as)) = none) ∨
    ∃ (j : Nat) (e : MapEntry) (x : Nat × D × D), (Instr.findAsking t v l i).run P w = .ok (some (i + j, e.val)) w ∧ l[j]? = some e ∧ es[j]? = some x ∧ e.key = v ∧ es.find? (qba (.agg as)) = some x ∧ es.findIdx? (qba (.agg as)) = some j := by
   intro l
   induction l with
   | nil => intro es i hl _ _; cases es with
    | nil => exact .inl ⟨rfl, rfl, rfl⟩
    | cons => simp at hl
   | cons e l ih =>
    intro es i hl he hf
    cases es with
    | nil => simp at hl
    | cons x es =>
     simp only [List.all_cons, Bool.and_eq_true] at hf
     have h0 := he 0 e x rfl rfl
     have hsame := q5e hv h0.key hf.1
     have heq : (Op.equal t v e.key).run P w = .ok (qba (.agg as) x) w := by
      obtain ⟨bn, bk, bv⟩ := x
      have hx := h0.key
      have hfx := hf.1
      simp only at hx hfx
      cases bk <;> simp only [KD.fit, Bool.false_eq_true] at hfx
      rename_i bs
      obtain ⟨us, hus, l1, _, c1⟩ := qdp hv
      obtain ⟨vs, hvs, l2, _, c2⟩ := qdp hx
      have hcell : ∀ {ds : List D} {zs : List Value}, zs.length = ds.length → (∀ (j : Nat) (u : Value) (d : D), zs[j]? = some u → ds[j]? = some d → RV g w u d) →
        ∀ (j : Nat) (d : D), ds[j]? = some d → ∃ v, zs.toArray[0 + j]? = some v ∧ RV g w v d := by
       intro ds zs hl hr j d hd
       have hlt : j < zs.length := by grind
       exact ⟨zs[j], by simp, hr j _ d (List.getElem?_eq_getElem hlt) hd⟩
      have hfs : P.fieldsOf t = fs := by simp [Program.fieldsOf, hu]
      rw [hus, hvs]
      show (Op.equalIn 10000 t (.agg us.toArray) (.agg vs.toArray)).run P w = .ok (x8 as bs) w
      rw [show (10000 : Nat) = 9997 + 1 + 1 + 1 from rfl, run_equalIn_agg w (9997 + 1 + 1) t _ _ (by rw [hfs]; exact hu) hh, hfs]
      exact qm5 us.toArray vs.toArray 9997 fs.toList ks as bs hp hfx (hcell l1 c1) (hcell l2 c2)
     cases hks : qba (.agg as) x with
     | true =>
      exact .inr ⟨0, e, x, by simp [Instr.findAsking, heq, hks], rfl, rfl, (hsame.1 hks).symm, by grind, by grind⟩
     | false =>
      rcases ih es (i + 1) (by simpa using hl) (fun j e' x' h1 h2 => he (j + 1) e' x' (by simpa using h1) (by simpa using h2)) hf.2 with ⟨q1, q2, q3⟩ | ⟨j, e', x', q1, q2, q3, q4, q5, q6⟩
      ·exact .inl ⟨by simp [Instr.findAsking, heq, hks, q1], by simp [List.find?, hks, q2], by simp [List.findIdx?_cons, hks, q3]⟩
      ·exact .inr ⟨j + 1, e', x', by simp [Instr.findAsking, heq, hks, q1]; omega, by simpa using q2, by simpa using q3, q4, by simp [List.find?, hks, q5], by simp [List.findIdx?_cons, hks, q6]⟩
  have hfk : l ≠ [] → (Instr.findKey t v l).run P w = (Instr.findAsking t v l).run P w := by
   intro hne
   obtain ⟨e, l', rfl⟩ := List.exists_cons_of_ne_nil hne
   have : Instr.findNow (.struct fs) v (e :: l') 0 = none := by simp [Instr.findNow, Instr.sameNow]
   simp [Instr.findKey, run_underlying hu, this]
  cases l with
  | nil =>
   cases es with
   | nil => exact .inl ⟨by simp [Instr.findKey, run_underlying hu, Instr.findNow], rfl, rfl⟩
   | cons => simp at hl
  | cons e l =>
   rw [hfk (by simp)]
   rcases gen (e :: l) es 0 hl he hf with h | ⟨j, e', x, q1, q2⟩
   ·exact .inl h
   ·exact .inr ⟨j, e', x, by simpa using q1, q2⟩
theorem qeg (hs : SR N T g w st a) {b id : Nat} (hb : g b = .obj id) (hm : qo2 st.os id = true) : st.os[id]? = some (.map (yj st.os id) (jt st.os id)) ∧ MapIs g w b (yj st.os id) (jt st.os id) := by
 obtain ⟨o, ho, hn⟩ := hs.ids b id hb
 obtain ⟨b', hb', hr⟩ := (hs.objs id o ho hn).resolve_right (fun h => h.2 b hb)
 have : b' = b := hs.inj b' b id hb' hb
 subst this
 cases o with
 | map es c =>
  have e1 : yj st.os id = es := by simp [yj, ho]
  have e2 : jt st.os id = c := by simp [jt, ho]
  rw [e1, e2]
  exact ⟨ho, hr⟩
 | _ => simp [qo2, ho] at hm
theorem qna {v : Value} {id : Nat} (h : RV g w v (.map id)) : ∃ b, v = .map (some b) ∧ g b = .obj id := by
 cases h with
 | map b _ hg => grind
theorem qpm {v : Value} (h : RV g w v .nilmap) : v = .map none := by cases h; rfl
theorem qve {c : Bool} {z : ASlot} {o : Option D} {zv u : Value} (hz : RC g w live zv z) (ho : ∀ d, o = some d → RV g w u d) (hn : o = none → u = zv) :
  RS g w live (if c then .tuple #[u, .bool o.isSome] else u) (qgf c z o) := by
 have two : ∀ {s : ASlot} {b : Bool}, RC g w live u s → RS g w live (.tuple #[u, .bool b]) (.tup [s, .d (.bool b)]) := by
  intro s b h
  refine ⟨[u, .bool b], rfl, rfl, fun i x y hx hy => ?_⟩
  match i with
  | 0 => grind
  | 1 => simp at hx hy; subst hx; subst hy; exact .bool b
  | i + 2 => grind
 cases o with
 | some d =>
  cases c with
  | true => exact two (ho d rfl)
  | false => exact ho d rfl
 | none =>
  have := hn rfl
  subst this
  cases c with
  | true => exact two hz
  | false => exact je hz
theorem qs9 {t : TypeId} {z : ASlot} (h : xf5 P t = some z) : ∃ zv, (∀ w : World, (zeroValue t).run P w = .ok zv w) ∧ qjy zv = some z := by
 unfold xf5 at h
 split at h
 ·rename_i i hi
  rw [Option.bind_eq_some_iff] at h
  obtain ⟨zv, h1, h2⟩ := h
  simp_all [zeroValue, typeInfo]
 grind
theorem qyi {t kt et : TypeId} {x k : Operand} {x' k' : Opd} {c : Bool} {kd : KD} {z : ASlot} (ho : oper.op = .lookup t x k c) (ht : P.underlying t = some (.map kt et)) (hx : qp x = some x') (hk : qp k = some k')
  (hkd : kdOf P kt = some kd) (hz : xf5 P et = some z) (hs : SR N T g w st a) (hob : (sem tb (.lookup kd z c x' k') st).ob) : yi P g w st a oper (sem tb (.lookup kd z c x' k') st).v := by
 simp only [sem] at hob ⊢
 obtain ⟨o1, o2, hob⟩ := hob
 have r1 := xc hs hx o1
 have r2 := xc hs hk o2
 obtain ⟨zv, hzv, hzc⟩ := qs9 hz
 cases h1 : x'.get st.fr with
 | d p =>
  cases h2 : k'.get st.fr with
  | d q =>
   rw [h1] at r1; rw [h2] at r2
   cases p with
   | map id =>
    simp only [h1, h2, kz] at hob ⊢
    obtain ⟨hm, hf⟩ := hob
    simp only [keyFit, Bool.and_eq_true] at hf
    obtain ⟨b, hv, hb⟩ := qna (wj r1)
    obtain ⟨_, l, hh, hl, he⟩ := qeg hs hb hm
    have hck := fun em => qka hkd (wj r2) hf.1 em
    rcases qkb hkd (wj r2) l _ hl he hf.2 hf.1 with ⟨q1, q2, _⟩ | ⟨j, e, y, q1, q2, q3, _, q5, _⟩
    ·refine ⟨_, ?_, qve (u := zv) (zv := zv) (o := qa5 q (yj st.os id)) (qj1 hzc) (fun d hd => by grind [qa5]) (fun _ => rfl)⟩
     have : (qa5 q (yj st.os id)).isSome = false := by simp [qa5, q2]
     rw [this]
     cases c <;> simp [execOp, ho, hv, Instr.lookup, run_underlying ht, MapKept.run_getObj_map hh, hck, q1, hzv]
    ·have hy := he j e y q2 q3
     refine ⟨_, ?_, qve (u := e.val) (zv := zv) (o := qa5 q (yj st.os id)) (qj1 hzc) (fun d hd => by simp [qa5, q5] at hd; subst hd; exact hy.val) (fun hn => by grind [qa5])⟩
     have : (qa5 q (yj st.os id)).isSome = true := by simp [qa5, q5]
     rw [this]
     cases c <;> simp [execOp, ho, hv, Instr.lookup, run_underlying ht, MapKept.run_getObj_map hh, hck, q1]
   | nilmap =>
    simp only [h1, h2, kz] at hob ⊢
    have hv := qpm (wj r1)
    have hck := qka hkd (wj r2) hob true
    refine ⟨_, ?_, qve (u := zv) (zv := zv) (o := none) (qj1 hzc) (fun d hd => by cases hd) (fun _ => rfl)⟩
    rcases qkb hkd (wj r2) [] [] rfl (by simp) rfl hob with ⟨q1, _⟩ | ⟨j, e, y, _, q2, _⟩
    ·simp_all [execOp, Instr.lookup, run_underlying]
    ·simp at q2
   | _ => grind [kz, Out.bad]
  | _ => grind [kz, Out.bad]
 | _ => grind [kz, Out.bad]
theorem q7u {c : Bool} {z : ASlot} {o : Option D} (hz : z.toks = []) (hzt : ∀ l, z ≠ .tup l) : (qgf c z o).toks = [] := by
 cases c <;> cases o <;> simp only [qgf, ASlot.toks, List.flatMap_cons, List.flatMap_nil, qbx, List.append_nil]
 ·exact hz
 ·cases z <;> first | rfl | grind [ASlot.toks] | exact (hzt _ rfl).elim
theorem q7v {t kt et : TypeId} {x : Operand} {x' : Opd} (ho : oper.op = .call { callee := .builtin .len, args := #[x], argTypes := #[t] }) (ht : P.underlying t = some (.map kt et)) (hx : qp x = some x')
  (hs : SR N T g w st a) (hob : (sem tb (.lenM x') st).ob) : yi P g w st a oper (sem tb (.lenM x') st).v := by
 simp only [sem] at hob ⊢
 obtain ⟨o1, hob⟩ := hob
 have r1 := xc hs hx o1
 cases h1 : x'.get st.fr with
 | d p =>
  rw [h1] at r1
  cases p with
  | map id =>
   simp only [h1, qa7] at hob ⊢
   obtain ⟨b, hv, hb⟩ := qna (wj r1)
   obtain ⟨_, l, hh, hl, he⟩ := qeg hs hb hob
   exact ⟨_, by simp [execOp, ho, resolve, invoke, builtin, hv, Builtin.len_, run_underlying ht, MapKept.run_getObj_map hh, hl, goInt], .int _ _⟩
  | nilmap =>
   simp only [h1, qa7] at hob ⊢
   have hv := qpm (wj r1)
   exact ⟨_, by simp [execOp, ho, resolve, invoke, builtin, hv, Builtin.len_, run_underlying ht, goInt], .int _ _⟩
  | _ => grind [qa7, Out.bad]
 | _ => grind [qa7, Out.bad]
theorem qvf {t : TypeId} {x : Operand} {x' : Opd} {d : TypeDesc} (ho : oper.op = .makeInterface t x) (ht : P.underlying t = some d) (hni : ∀ ms, d ≠ .interface ms) (hx : qp x = some x')
  (hs : SR N T g w st a) (hob : (sem tb (.mkIface t x') st).ob) : yi P g w st a oper (sem tb (.mkIface t x') st).v := by
 simp only [sem] at hob ⊢
 cases h1 : x'.get st.fr with
 | d p =>
  simp only [h1] at hob ⊢
  have r1 := xc hs hx hob
  rw [h1] at r1
  refine ⟨_, ?_, .iface t _ _ (wj r1)⟩
  simp_all [execOp, Instr.makeInterface, Sem.run_bind, run_underlying, Result.andThen_ok]
 | _ => grind [Out.bad]
theorem qvg {t u : TypeId} {x : Operand} {x' : Opd} {c : Bool} {d : TypeDesc} (ho : oper.op = .typeAssert x u t c) (ht : P.underlying t = some d) (hni : ∀ ms, d ≠ .interface ms) (hx : qp x = some x')
  (hs : SR N T g w st a) (hob : (sem tb (.assertT t c x') st).ob) : yi P g w st a oper (sem tb (.assertT t c x') st).v := by
 simp only [sem] at hob ⊢
 obtain ⟨o1, hob⟩ := hob
 have r1 := xc hs hx o1
 cases h1 : x'.get st.fr with
 | d p =>
  rw [h1] at r1
  cases p with
  | iface t' y =>
   simp only [h1, qak] at hob ⊢
   subst hob
   have hrv := wj r1
   generalize hq : a.eval x = v at hrv
   cases hrv with
   | iface _ v' _ hv =>
   cases c with
   | true =>
    refine ⟨.tuple #[v', .bool true], ?_, ⟨[v', .bool true], rfl, rfl, fun i u s hu hs' => ?_⟩⟩
    ·simp_all [execOp, Instr.typeAssert, Sem.run_bind, run_underlying, Result.andThen_ok]
    ·match i with
     | 0 => simp at hu hs'; subst hu; subst hs'; exact hv
     | 1 => simp at hu hs'; subst hu; subst hs'; exact .bool true
     | i + 2 => grind
   | false =>
    refine ⟨v', ?_, hv⟩
    simp_all [execOp, Instr.typeAssert, Sem.run_bind, run_underlying, Result.andThen_ok]
  | _ => grind [qak, Out.bad]
 | _ => grind [qak, Out.bad]
theorem qyj {t : TypeId} {back : Nat} (ho : oper.op = .makeMap t none) (hs : SR N T g w st a) (hob : (sem tb (.makeMap back) st).ob) :
  ∃ v w' g', (execOp a.eval oper).run P w = .ok (.value v) w' ∧ G g w g' w' ∧ SR N T g' w' (zu st (sem tb (.makeMap back) st).wr) a ∧ RS g' w' st.live v (sem tb (.makeMap back) st).v := by
 simp only [sem] at hob ⊢
 obtain ⟨_, _, o5⟩ := hob
 obtain ⟨q1, q2⟩ := hs.newObjA (blk := .map #[] 0) (o := .map [] 0) o5 (by simp) (fun _ _ _ => ⟨[], heap_alloc_new w _, rfl, fun i e x he => by simp⟩) (by simp [AObj.cells])
 exact ⟨.map (some w.heap.size), _, _, by simp [execOp, ho, Instr.makeMap, newObj, Sem.run], q1, q2, .map _ _ (Ghost.at_same _ _ _)⟩
theorem SR.setBlk {w1 : World} {b id : Nat} {o : AObj} {blk0 blk1 : Obj} (hs : SR N T g w st a) (hb : g b = .obj id) (h0 : w.heap[b]? = some blk0) (hz : ∀ c e z, blk0 ≠ .cells c e z) (hw1 : w1 = w ∨ w1 = w.drew)
  (hro : RowsKept g w g { w1 with heap := w1.heap.setIfInBounds b blk1 } → { w1 with heap := w1.heap.setIfInBounds b blk1 }.heap[b]? = some blk1 → (∀ {v : Value} {s : ASlot}, RC g w st.live v s → RC g { w1 with heap := w1.heap.setIfInBounds b blk1 } st.live v s) → RO g { w1 with heap := w1.heap.setIfInBounds b blk1 } st.live b o)
  (hnn : o ≠ .none) (htok : ∀ s ∈ o.cells, ∀ t ∈ s.toks, T t) :
  G g w g { w1 with heap := w1.heap.setIfInBounds b blk1 } ∧ SR N T g { w1 with heap := w1.heap.setIfInBounds b blk1 } { st with os := st.os.set id o } a := by
 have hh : w1.heap = w.heap := by rcases hw1 with rfl | rfl <;> rfl
 have hlt : b < w.heap.size := (Array.getElem?_eq_some_iff.1 h0).1
 have hnew : { w1 with heap := w1.heap.setIfInBounds b blk1 }.heap[b]? = some blk1 := by grind
 have hoth : ∀ k, k ≠ b → { w1 with heap := w1.heap.setIfInBounds b blk1 }.heap[k]? = w.heap[k]? := fun k hk => by grind
 have hsz : { w1 with heap := w1.heap.setIfInBounds b blk1 }.heap.size = w.heap.size := by simp [hh]
 have hb0 : qc2 w b = 0 := by
  unfold qc2
  grind
 have hbs : ∀ k, qc2 w k ≤ qc2 { w1 with heap := w1.heap.setIfInBounds b blk1 } k := fun k => by
  grind [Nat.le_of_eq, ji]
 have nrow : ∀ k n o, g k = .row n o → k ≠ b := by grind
 have hG : G g w g { w1 with heap := w1.heap.setIfInBounds b blk1 } :=
  ⟨by rcases hw1 with rfl | rfl <;> rfl, by rcases hw1 with rfl | rfl <;> rfl, by rcases hw1 with rfl | rfl <;> rfl, by omega, fun k hk hgk => ⟨hoth k (by grind), hgk⟩, fun k m hk hgk => ⟨hoth k (nrow k _ _ hgk), hgk⟩,
   fun k m t hk hgk => ⟨m, some t, hgk, Nat.le_refl _, fun i v _ hv => by grind [ky]⟩, fun k id hk hgk => ⟨hgk, hbs k⟩⟩
 have hidlt : id < st.os.length := by
  obtain ⟨o', ho', _⟩ := hs.ids b id hb
  grind
 refine ⟨hG, hs.setObjA hidlt hG (hs.dom.of hG fun k hk => hs.dom.1 k (by omega)) hb (fun _ _ => rfl) (fun k hk _ => hoth k hk) (.inr hb) (fun k hk => hs.inj k b id hk hb) ?_ hnn htok⟩
 exact hro (hG.rowsKept hs.dom) hnew (fun h => RC.keep hG hs.dom (fun k n o hk => ⟨hk, hoth k (nrow k n o hk)⟩) (fun k t hk => ⟨hk, hoth k (by grind)⟩) h)
theorem EntIs.mono {g' : Ghost} {w' : World} {e : MapEntry} {x : Nat × D × D} (h : EntIs g w e x) (hr : RowsKept g w g' w') : EntIs g' w' e x :=
 ⟨h.born, h.key.mono_noPtr hr h.kp, h.val.mono_noPtr hr h.vp, h.kp, h.vp⟩
theorem xa4 {kd : KD} {k : D} (h : kd.fit k k = true) : k.noPtr = true := by
 cases kd with
 | agg ks =>
  cases k <;> simp only [KD.fit, Bool.false_eq_true] at h
  exact (D.noPtrL_iff _).2 (qd7 h).2.2
 | _ => cases k <;> simp [KD.fit] at h <;> rfl
theorem qsi {t kt et : TypeId} {x k v : Operand} {x' k' v' : Opd} {kd : KD} (ho : oper.op = .mapUpdate t x k v ∨ oper.op = .insert t x k v) (ht : P.underlying t = some (.map kt et)) (hx : qp x = some x') (hk : qp k = some k') (hv : qp v = some v')
  (hkd : kdOf P kt = some kd) (hs : SR N T g w st a) (hob : (sem tb (.mapUpdate kd x' k' v') st).ob) :
  ∃ w', (execOp a.eval oper).run P w = .ok .skip w' ∧ G g w g w' ∧ SR N T g w' (zu st (sem tb (.mapUpdate kd x' k' v') st).wr) a := by
 simp only [sem] at hob ⊢
 obtain ⟨o1, o2, o3, hob⟩ := hob
 have r1 := xc hs hx o1
 have r2 := xc hs hk o2
 have r3 := xc hs hv o3
 cases h1 : x'.get st.fr with
 | d p =>
  cases h2 : k'.get st.fr with
  | d q =>
   cases h3 : v'.get st.fr with
   | d u =>
    rw [h1] at r1; rw [h2] at r2; rw [h3] at r3
    cases p with
    | map id =>
     simp only [h1, h2, h3, xy] at hob ⊢
     obtain ⟨hm, hf, hup⟩ := hob
     simp only [keyFit, Bool.and_eq_true] at hf
     obtain ⟨b, hxv, hb⟩ := qna (wj r1)
     obtain ⟨_, l, hh, hl, he⟩ := qeg hs hb hm
     have hck := fun em => qka hkd (wj r2) hf.1 em
     have ent : ∀ n, EntIs g w { key := a.eval k, val := a.eval v, born := n } (n, q, u) := fun n => ⟨rfl, wj r2, wj r3, xa4 hf.1, hup⟩
     rcases qkb hkd (wj r2) l _ hl he hf.2 hf.1 with ⟨q1, _, q3⟩ | ⟨j, e, y, q1, q2, q3, q4, _, q6⟩
     ·obtain ⟨p1, p2⟩ := hs.setBlk (w1 := w) (blk1 := .map (l ++ [({ key := a.eval k, val := a.eval v, born := jt st.os id } : MapEntry)]).toArray (jt st.os id + 1)) (o := .map (qhb q u (jt st.os id) (yj st.os id)) (qb3 q (jt st.os id) (yj st.os id))) hb hh (by simp) (.inl rfl)
       (fun hr hn _ => by
        simp only [qhb, qb3, q3]
        refine ⟨_, hn, by simp [hl], fun i e' y' he' hy' => ?_⟩
        rcases Nat.lt_or_ge i l.length with hi | hi
        ·rw [List.getElem?_append_left hi] at he'
         rw [List.getElem?_append_left (by omega)] at hy'
         exact (he i e' y' he' hy').mono hr
        ·rw [List.getElem?_append_right hi] at he'
         rw [List.getElem?_append_right (by omega), ← hl] at hy'
         cases hz : i - l.length with
         | zero => rw [hz] at he' hy'; simp at he' hy'; subst he'; subst hy'; exact (ent _).mono hr
         | succ n => grind) (by simp) (by simp [AObj.cells])
      refine ⟨_, ?_, p1, p2⟩
      rcases ho with ho | ho <;> simp [execOp, ho, hxv, Instr.mapUpdate, run_underlying ht, MapKept.run_getObj_map hh, hck, q1, run_setObj_map _ hh]
     ·have hjl : j < l.length := (List.getElem?_eq_some_iff.1 q2).1
      obtain ⟨p1, p2⟩ := hs.setBlk (w1 := w) (blk1 := .map (l.toArray.modify j fun e => { e with key := a.eval k, val := a.eval v }) (jt st.os id)) (o := .map (qhb q u (jt st.os id) (yj st.os id)) (qb3 q (jt st.os id) (yj st.os id))) hb hh (by simp) (.inl rfl)
       (fun hr hn _ => by
        simp only [qhb, qb3, q6]
        refine ⟨l.modify j fun e => { e with key := a.eval k, val := a.eval v }, by grind, by simp [hl], fun i e' y' he' hy' => ?_⟩
        rw [List.getElem?_modify] at he' hy'
        by_cases hij : j = i
        ·subst hij
         rw [q2] at he'
         rw [q3] at hy'
         simp at he' hy'
         subst he'; subst hy'
         have hb0 := (he j e y q2 q3).born
         exact ⟨hb0, (ent 0).key.mono_noPtr hr (ent 0).kp, (ent 0).val.mono_noPtr hr (ent 0).vp, (ent 0).kp, (ent 0).vp⟩
        ·simp [hij] at he' hy'
         exact (he i e' y' he' hy').mono hr) (by simp) (by simp [AObj.cells])
      refine ⟨_, ?_, p1, p2⟩
      rcases ho with ho | ho <;> simp [execOp, ho, hxv, Instr.mapUpdate, run_underlying ht, MapKept.run_getObj_map hh, hck, q1, q2, q4, xa3 hkd (wj r2) hf.1, run_setObj_map _ hh]
    | _ => grind [xy, Out.bad]
   | _ => grind [xy, Out.bad]
  | _ => grind [xy, Out.bad]
 | _ => grind [xy, Out.bad]
theorem q2o {t kt et : TypeId} {x k : Operand} {x' k' : Opd} {kd : KD} {ts : Array TypeId} (ho : oper.op = .call { callee := .builtin .delete, args := #[x, k], argTypes := ts }) (hts : ts[0]? = some t) (ht : P.underlying t = some (.map kt et)) (hx : qp x = some x') (hk : qp k = some k')
  (hkd : kdOf P kt = some kd) (hs : SR N T g w st a) (hob : (sem tb (.delete kd x' k') st).ob) :
  ∃ v w' g', (execOp a.eval oper).run P w = .ok (.value v) w' ∧ G g w g' w' ∧ SR N T g' w' (zu st (sem tb (.delete kd x' k') st).wr) a ∧ RS g' w' st.live v (sem tb (.delete kd x' k') st).v := by
 simp only [sem] at hob ⊢
 obtain ⟨o1, o2, hob⟩ := hob
 have r1 := xc hs hx o1
 have r2 := xc hs hk o2
 cases h1 : x'.get st.fr with
 | d p =>
  cases h2 : k'.get st.fr with
  | d q =>
   rw [h1] at r1; rw [h2] at r2
   cases p with
   | map id =>
    simp only [h1, h2, vj] at hob ⊢
    obtain ⟨hm, hf⟩ := hob
    simp only [keyFit, Bool.and_eq_true] at hf
    obtain ⟨b, hxv, hb⟩ := qna (wj r1)
    obtain ⟨_, l, hh, hl, he⟩ := qeg hs hb hm
    have hck := fun em => qka hkd (wj r2) hf.1 em
    have htup : ∀ {w' : World}, RS g w' st.live (.tuple #[]) (.tup []) := ⟨[], rfl, rfl, fun i u s hu => by simp⟩
    rcases qkb hkd (wj r2) l _ hl he hf.2 hf.1 with ⟨q1, _, q3⟩ | ⟨j, e, y, q1, q2, q3, q4, _, q6⟩
    ·obtain ⟨p1, p2⟩ := hs.setBlk (w1 := w) (blk1 := .map l.toArray (jt st.os id)) (o := .map (qo3 q (yj st.os id)) (jt st.os id)) hb hh (by simp) (.inl rfl)
      (fun hr hn _ => by
       simp only [qo3, q3]
       exact ⟨l, hn, hl, fun i e' y' he' hy' => (he i e' y' he' hy').mono hr⟩) (by simp) (by simp [AObj.cells])
     refine ⟨_, _, _, ?_, p1, p2, htup⟩
     simp [execOp, ho, resolve, invoke, builtin, hxv, Builtin.delete_, hts, run_underlying ht, MapKept.run_getObj_map hh, hck, q1, run_setObj_map _ hh]
    ·obtain ⟨p1, p2⟩ := hs.setBlk (w1 := w) (blk1 := .map (l.toArray.eraseIdxIfInBounds j) (jt st.os id)) (o := .map (qo3 q (yj st.os id)) (jt st.os id)) hb hh (by simp) (.inl rfl)
      (fun hr hn _ => by
       simp only [qo3, q6]
       have hjl : j < l.length := (List.getElem?_eq_some_iff.1 q2).1
       refine ⟨l.eraseIdx j, by grind, by grind, fun i e' y' he' hy' => ?_⟩
       rw [List.getElem?_eraseIdx] at he' hy'
       split at he'
       ·rename_i hi; rw [if_pos hi] at hy'; exact (he i e' y' he' hy').mono hr
       ·rename_i hi; rw [if_neg hi] at hy'; exact (he (i + 1) e' y' he' hy').mono hr) (by simp) (by simp [AObj.cells])
     refine ⟨_, _, _, ?_, p1, p2, htup⟩
     simp [execOp, ho, resolve, invoke, builtin, hxv, Builtin.delete_, hts, run_underlying ht, MapKept.run_getObj_map hh, hck, q1, run_setObj_map _ hh]
   | _ => grind [vj, Out.bad]
  | _ => grind [vj, Out.bad]
 | _ => grind [vj, Out.bad]
theorem q2p {t kt et : TypeId} {x : Operand} {x' : Opd} {back : Nat} (ho : oper.op = .range t x) (ht : P.underlying t = some (.map kt et)) (hx : qp x = some x') (hs : SR N T g w st a) (hob : (sem tb (.rangeM back x') st).ob) :
  ∃ v w' g', (execOp a.eval oper).run P w = .ok (.value v) w' ∧ G g w g' w' ∧ SR N T g' w' (zu st (sem tb (.rangeM back x') st).wr) a ∧ RS g' w' st.live v (sem tb (.rangeM back x') st).v := by
 simp only [sem] at hob ⊢
 obtain ⟨o1, hob⟩ := hob
 have r1 := xc hs hx o1
 cases h1 : x'.get st.fr with
 | d p =>
  rw [h1] at r1
  cases p with
  | map id =>
   simp only [h1, jx] at hob ⊢
   obtain ⟨hm, _, _, o5⟩ := hob
   obtain ⟨b, hxv, hb⟩ := qna (wj r1)
   obtain ⟨_, l, hh, hl, he⟩ := qeg hs hb hm
   obtain ⟨q1, q2⟩ := hs.newObjA (blk := .mapIter (some b) (jt st.os id) #[] (jt st.os id)) (o := .iter (.d (.map id)) (jt st.os id) [] (jt st.os id)) o5 (by simp)
    (fun hG _ keep => ⟨some b, heap_alloc_new w _, keep (s := .d (.map id)) (RV.map b id hb)⟩) (by simp [AObj.cells])
   exact ⟨_, _, _, by simp [execOp, ho, hxv, run_range_map w t kt et b l.toArray _ ht hh], q1, q2, .ptr _ _ _ (Ghost.at_same _ _ _)⟩
  | nilmap =>
   simp only [h1, jx] at hob ⊢
   obtain ⟨_, _, o5⟩ := hob
   have hxv := qpm (wj r1)
   obtain ⟨q1, q2⟩ := hs.newObjA (blk := .mapIter none 0 #[] 0) (o := .iter (.d .nilmap) 0 [] 0) o5 (by simp)
    (fun hG _ keep => ⟨none, heap_alloc_new w _, keep (s := .d .nilmap) RV.nilmap⟩) (by simp [AObj.cells])
   exact ⟨_, _, _, by simp [execOp, ho, hxv, run_range_nilMap w t kt et ht], q1, q2, .ptr _ _ _ (Ghost.at_same _ _ _)⟩
  | _ => grind [jx, Out.bad]
 | _ => grind [jx, Out.bad]
def qpn : ASlot := .tup [.d (.bool false)]
def entV (e : Nat × D × D) : ASlot := .tup [.d (.bool true), .d e.2.1, .d e.2.2]
structure IterOn (os : List AObj) (iid mid since : Nat) (seen : List Nat) (last : Nat) (es : Ents) (clock : Nat) : Prop where
 iter : os[iid]? = some (.iter (.d (.map mid)) since seen last)
 map : os[mid]? = some (.map es clock)
 old : ∀ e ∈ es, e.1 < since
 le : since ≤ last
theorem q7w {x : Operand} {x' : Opd} {iid mid since last clock : Nat} {seen : List Nat} {es : Ents} (ho : oper.op = .next x false) (hx : qp x = some x') (hs : SR N T g w st a) (hok : x'.ok st.fr = true) (hg : x'.get st.fr = .d (.ptr iid 0)) (h : IterOn st.os iid mid since seen last es clock) :
  (qgg es seen = [] ∧ ∃ v, (execOp a.eval oper).run P w = .ok (.value v) w ∧ RS g w st.live v qpn) ∨
  ∃ e ∈ qgg es seen, ∃ v w', (execOp a.eval oper).run P w = .ok (.value v) w' ∧ G g w g w' ∧ SR N T g w' { st with os := st.os.set iid (.iter (.d (.map mid)) since (seen ++ [e.1]) clock) } a ∧ RS g w' st.live v (entV e) := by
 have r1 := xc hs hx hok
 rw [hg] at r1
 have hrv := wj r1
 generalize hq : a.eval x = xv at hrv
 cases hrv with
 | ptr r _ _ hgr =>
 obtain ⟨r', hr', hri⟩ := (hs.objs iid _ h.iter (by simp)).resolve_right (fun h => by cases h.1)
 have : r' = r := hs.inj r' r iid hr' hgr
 subst this
 obtain ⟨o, hro, hmo⟩ := hri
 have hmo' : RV g w (.map o) (.map mid) := hmo
 obtain ⟨bm, hbm, hgm⟩ := qna hmo'
 cases hbm
 obtain ⟨bm', hbm', hmi⟩ := (hs.objs mid _ h.map (by simp)).resolve_right (fun h => by cases h.1)
 have : bm' = bm := hs.inj bm' bm mid hbm' hgm
 subst this
 obtain ⟨l, hh, hl, he⟩ := hmi
 have hold : ∀ x ∈ l.toArray.toList, x.born < since := by
  intro y hy
  obtain ⟨i, hi⟩ := List.mem_iff_getElem?.1 (by omega)
  have hil : i < es.length := by grind
  have := he i y es[i] hi (List.getElem?_eq_getElem hil)
  rw [this.born]
  exact h.old _ (List.getElem_mem hil)
 have left : ∀ (l : List MapEntry) (es : Ents), l.length = es.length → (∀ (i : Nat) (e : MapEntry) (x : Nat × D × D), l[i]? = some e → es[i]? = some x → EntIs g w e x) →
   ((l.filter fun e => !seen.toArray.contains e.born) = [] ↔ qgg es seen = []) ∧ ∀ e ∈ l.filter (fun e => !seen.toArray.contains e.born), ∃ x ∈ qgg es seen, EntIs g w e x := by
  intro l
  induction l with
  | nil => grind [qgg]
  | cons e l ih =>
   intro es hl he
   cases es with
   | nil => grind
   | cons y es =>
    obtain ⟨k1, k2⟩ := ih es (by grind) (fun i e' x' h1 h2 => he (i + 1) e' x' (by grind) (by grind))
    have h0 := he 0 e y rfl rfl
    have hb : seen.toArray.contains e.born = seen.contains y.1 := by rw [h0.born]; simp
    cases hc : seen.contains y.1 with
    | true =>
     have e1 : (!seen.toArray.contains e.born) = false := by grind
     have e2 : qgg (y :: es) seen = qgg es seen := by grind [qgg]
     grind
    | false =>
     have e1 : (!seen.toArray.contains e.born) = true := by grind
     have e2 : qgg (y :: es) seen = y :: qgg es seen := by grind [qgg]
     grind
 obtain ⟨lf1, lf2⟩ := left l es hl he
 have hlo : (leftOf l.toArray seen.toArray).toList = l.filter fun e => !seen.toArray.contains e.born := by simp [leftOf]
 rcases run_next_at (P := P) w oper.type r' bm' since last seen.toArray l.toArray clock hro hh hold h.le with ⟨q1, q2⟩ | ⟨e, he', w1, hw1, q2⟩
 ·refine .inl ⟨lf1.1 ?_, .tuple #[.bool false], by simp_all [execOp], [.bool false], rfl, rfl, fun i u s hu hs' => ?_⟩
  ·grind
  ·match i with
   | 0 => simp at hu hs'; subst hu; subst hs'; exact .bool false
   | i + 1 => grind
 ·rw [hlo] at he'
  obtain ⟨y, hy, hye⟩ := lf2 e he'
  refine .inr ⟨y, hy, .tuple #[.bool true, e.key, e.val], ChangeMaps.setBlock w1 r' (.mapIter (some bm') since (seen.toArray.push e.born) clock), by grind [execOp, Sem.run_bind, Result.andThen_ok, Sem.run_pure], ?_⟩
  obtain ⟨p1, p2⟩ := hs.setBlk (w1 := w1) (id := iid) (blk1 := .mapIter (some bm') since (seen.toArray.push e.born) clock) (o := .iter (.d (.map mid)) since (seen ++ [y.1]) clock) hgr hro (by simp) hw1
   (fun _ hn keep => ⟨some bm', by rw [hn, hye.born]; simp, keep (s := .d (.map mid)) hmo⟩) (by simp) (by simp [AObj.cells])
  refine ⟨p1, p2, [.bool true, e.key, e.val], rfl, rfl, fun i u s hu hs' => ?_⟩
  have hk := p1.rowsKept hs.dom
  match i with
  | 0 => simp at hu hs'; subst hu; subst hs'; exact .bool true
  | 1 => simp at hu hs'; subst hu; subst hs'; exact hye.key.mono_noPtr hk hye.kp
  | 2 => simp at hu hs'; subst hu; subst hs'; exact hye.val.mono_noPtr hk hye.vp
  | i + 3 => grind
structure EntryOn (os : List AObj) (iid mid since : Nat) (seen : List Nat) (clock : Nat) (es : Ents) (e : Nat × D × D) : Prop where
 iter : os[iid]? = some (.iter (.d (.map mid)) since seen clock)
 map : os[mid]? = some (.map es clock)
 last : seen.getLast? = some e.1
 ent : es.find? (fun x => x.1 == e.1) = some e
theorem q2q {x : Operand} {x' : Opd} {iid mid since clock : Nat} {seen : List Nat} {es : Ents} {e : Nat × D × D} (ho : oper.op = .entry x) (hx : qp x = some x') (hs : SR N T g w st a) (hok : x'.ok st.fr = true) (hg : x'.get st.fr = .d (.ptr iid 0))
  (h : EntryOn st.os iid mid since seen clock es e) : ∃ v, (execOp a.eval oper).run P w = .ok (.value v) w ∧ RS g w st.live v (.tup [.d e.2.1, .d e.2.2]) := by
 have r1 := xc hs hx hok
 rw [hg] at r1
 have hrv := wj r1
 generalize hq : a.eval x = xv at hrv
 cases hrv with
 | ptr r _ _ hgr =>
 obtain ⟨r', hr', hri⟩ := (hs.objs iid _ h.iter (by simp)).resolve_right (fun h => by cases h.1)
 have : r' = r := hs.inj r' r iid hr' hgr
 subst this
 obtain ⟨o, hro, hmo⟩ := hri
 have hmo' : RV g w (.map o) (.map mid) := hmo
 obtain ⟨bm, hbm, hgm⟩ := qna hmo'
 cases hbm
 obtain ⟨bm', hbm', hmi⟩ := (hs.objs mid _ h.map (by simp)).resolve_right (fun h => by cases h.1)
 have : bm' = bm := hs.inj bm' bm mid hbm' hgm
 subst this
 obtain ⟨l, hh, hl, he⟩ := hmi
 have find : ∀ (l : List MapEntry) (es : Ents), l.length = es.length → (∀ (i : Nat) (e : MapEntry) (x : Nat × D × D), l[i]? = some e → es[i]? = some x → EntIs g w e x) → es.find? (fun x => x.1 == e.1) = some e →
   ∃ y, l.find? (fun x => x.born == e.1) = some y ∧ EntIs g w y e := by
  intro l
  induction l with
  | nil => grind
  | cons y l ih =>
   intro es hl he hf
   cases es with
   | nil => grind
   | cons z es =>
    have h0 := he 0 y z rfl rfl
    rw [List.find?_cons] at hf ⊢
    rw [h0.born]
    cases hc : (z.1 == e.1) with
    | true => grind
    | false => rw [hc] at hf; exact ih es (by grind) (fun i e' x' h1 h2 => he (i + 1) e' x' (by grind) (by grind)) hf
 obtain ⟨y, hy, hye⟩ := find l es hl he h.ent
 have hback : seen.toArray.back? = some e.1 := by simpa using h.last
 refine ⟨.tuple #[y.key, y.val], ?_, [y.key, y.val], rfl, rfl, fun i u s hu hs' => ?_⟩
 ·simp_all [execOp, Instr.entry, getObj, Sem.run]
 ·match i with
  | 0 => simp at hu hs'; subst hu; subst hs'; exact hye.key
  | 1 => simp at hu hs'; subst hu; subst hs'; exact hye.val
  | i + 2 => grind
theorem qyk {x : Operand} {x' : Opd} {iid since last : Nat} {seen : List Nat} (ho : oper.op = .next x false) (hx : qp x = some x') (hs : SR N T g w st a) (hok : x'.ok st.fr = true) (hg : x'.get st.fr = .d (.ptr iid 0)) (h : st.os[iid]? = some (.iter (.d .nilmap) since seen last)) :
  ∃ v, (execOp a.eval oper).run P w = .ok (.value v) w ∧ RS g w st.live v qpn := by
 have r1 := xc hs hx hok
 rw [hg] at r1
 have hrv := wj r1
 generalize hq : a.eval x = xv at hrv
 cases hrv with
 | ptr r _ _ hgr =>
 obtain ⟨r', hr', hri⟩ := (hs.objs iid _ h (by simp)).resolve_right (fun h => by cases h.1)
 have : r' = r := hs.inj r' r iid hr' hgr
 subst this
 obtain ⟨o, hro, hmo⟩ := hri
 have hmo' : RV g w (.map o) .nilmap := hmo
 cases hmo'
 refine ⟨.tuple #[.bool false], ?_, [.bool false], rfl, rfl, fun i u s hu hs' => ?_⟩
 ·simp [execOp, ho, hq, Instr.next, getObj, Sem.run, hro]
 ·match i with
  | 0 => simp at hu hs'; subst hu; subst hs'; exact .bool false
  | i + 1 => grind
def yo (os : List AObj) (id es n : Nat) (r : Src) : List ASlot := (qh os id).take (n * es) ++ r.rows.flatten.map .d
structure AppR (os : List AObj) (es bytes back : Nat) (id n : Nat) (r : Src) : Prop where
 ok : r.ok
 row : qgh os id = true
 len : n * es ≤ (qh os id).length
 pos : 0 < r.rows.length
 by48 : (n + r.rows.length) * bytes ≤ 140737488355328
 i63 : n + r.rows.length ≤ 9223372036854775807
 none : os[os.length - back]? = some .none
theorem qyl {t u e : TypeId} {s x : Operand} {s' x' : Opd} {i : TypeInfo} {z : List D} {back id n : Nat} {r : Src} (ho : oper.op = .call { callee := .builtin .append, args := #[s, x], argTypes := #[t, u] })
  (ht : P.underlying t = some (.slice e)) (hi : P.info? e = some i) (hz : jc P e = some z) (hsz : i.size = z.length) (hb : 0 < i.bytes)
  (hu : (∃ f, P.underlying u = some (.slice f)) ∨ P.underlying u = some .string) (hs' : qp s = some s') (hx' : qp x = some x') (hs : SR N T g w st a)
  (o1 : s'.ok st.fr = true) (o2 : x'.ok st.fr = true) (hk : s'.get st.fr = .d (.ref id 0 i.size n)) (hsrc : y8 i.size st.os (x'.get st.fr) = some r) (hA : AppR st.os i.size i.bytes back id n r) :
  ∃ v w' g', (execOp a.eval oper).run P w = .ok (.value v) w' ∧ G g w g' w' ∧
   ((SR N T g' w' { st with os := st.os.set id (.row (yo st.os id i.size n r)) } a ∧ RS g' w' st.live v (.d (.ref id 0 i.size (n + r.rows.length)))) ∨
    (SR N T g' w' { st with os := st.os.set (st.os.length - back) (.row (yo st.os id i.size n r)) } a ∧ RS g' w' st.live v (.d (.ref (st.os.length - back) 0 i.size (n + r.rows.length))))) := by
 obtain ⟨hrok, hrow, hlen, hpos, hby, h63, hnone⟩ := hA
 have rs := xc hs hs' o1
 have rx := xc hs hx' o2
 rw [hk] at rs
 obtain ⟨i', zv, hi', hzv, hzm⟩ := k7 hz
 rw [hi] at hi'; cases hi'
 have hzs : zv.cells.size = i.size := by have := (jy hzm).1; grind
 obtain ⟨hes, news, hrl, hsource, hfirst, _⟩ := qfu (P := P) hs rx hsrc hrok
 have h2 : news.length = r.rows.length * i.size := by rw [hrl.1, xf hes]
 have hfl : r.rows.flatten.length = r.rows.length * i.size := xf hes
 have exec : ∀ base cap v w', a.eval s = .slice base n cap → (Builtin.append_ #[t, u] oper.type #[.slice base n cap, a.eval x]).run P w = .ok v w' → (execOp a.eval oper).run P w = .ok (.value v) w' := by
  simp_all [execOp, resolve, invoke, builtin]
 have htok : ∀ s ∈ yo st.os id i.size n r, ∀ t ∈ s.toks, T t := by
  intro s hsm t ht
  rcases List.mem_append.1 hsm with h | h
  ·have hm := List.mem_of_mem_take h
   unfold qh at hm
   split at hm
   ·rename_i o ho
    exact hs.wf.os id o ho s hm t ht
   grind
  ·obtain ⟨d, _, rfl⟩ := List.mem_map.1 h
   grind [ASlot.toks]
 have hcl : (yo st.os id i.size n r).length = n * i.size + r.rows.length * i.size := by
  grind [yo, List.length_append, List.length_take, List.length_map]
 have hnews : ∀ (j : Nat) (d : D), r.rows.flatten[j]? = some d → ∃ u, news[j]? = some u ∧ u.oneCell' = true ∧ RV g w u d := by
  intro j d hd
  have hlt : j < news.length := by grind
  have hr := hrl.2.2 j _ d (List.getElem?_eq_getElem hlt) hd
  exact ⟨news[j], List.getElem?_eq_getElem hlt, hr.oneCell (hrl.2.1 d (List.mem_of_getElem? hd)), hr⟩
 have hcellAt : ∀ (j : Nat) (s : ASlot), (yo st.os id i.size n r)[j]? = some s → (j < n * i.size ∧ (qh st.os id)[j]? = some s) ∨ (n * i.size ≤ j ∧ ∃ d, s = .d d ∧ r.rows.flatten[j - n * i.size]? = some d) := by
  grind [yo, qh, id, List.length_take, List.getElem?_append_left]
 have fresh : ∀ base cap (olds : List Value), a.eval s = .slice base n cap → cap < n + r.rows.length → cap ≤ maxLen → olds.length = n * i.size → (Builtin.firstCells i.size n (.slice base n cap)).run P w.drew = .ok olds.toArray w.drew →
   (∀ (j : Nat) (s : ASlot), j < n * i.size → (qh st.os id)[j]? = some s → ∃ v, olds[j]? = some v ∧ v.oneCell' = true ∧ RC g w st.live v s) →
   ∃ v w' g', (execOp a.eval oper).run P w = .ok (.value v) w' ∧ G g w g' w' ∧ SR N T g' w' { st with os := st.os.set (st.os.length - back) (.row (yo st.os id i.size n r)) } a ∧ RS g' w' st.live v (.d (.ref (st.os.length - back) 0 i.size (n + r.rows.length))) := by
  intro base cap olds hv hn hcm hol hfc hold
  have hfit : Builtin.nextslicecap (n + r.rows.length) cap * i.bytes ≤ 281474976710656 := growslice_fits (by omega) hby
  have hrun := qb6 (P := P) (w := w) (ty := oper.type) ht hi hzv hu (by omega) base n cap hsource.1 hfirst hfc hn hfit
  have hge := grownCap_ge w (n + r.rows.length) cap e
  have hle := grownCap_le_maxLen w (n + r.rows.length) cap e (by grind [maxLen])
  generalize hzz : Builtin.zeroCells zv.cells (grownCap w (n + r.rows.length) cap e - (n + r.rows.length)) = zz at hrun
  have hzzs : zz.size = (grownCap w (n + r.rows.length) cap e - (n + r.rows.length)) * i.size := by grind [qd6]
  have hwd : w.drew = { w with drawn := w.drawn + 1 } := rfl
  have hsd : SR N T g w.drew st a := by rw [hwd]; exact hs.drew
  have hGd : G g w g w.drew := ⟨rfl, rfl, rfl, Nat.le_refl _, fun _ _ h => ⟨rfl, h⟩, fun _ _ _ h => ⟨rfl, h⟩, fun _ n t _ h => ⟨n, some t, h, Nat.le_refl _, fun _ _ _ h => h⟩, fun _ _ _ h => ⟨h, Nat.le_refl _⟩⟩
  have keepd : ∀ {v : Value} {y : ASlot}, RC g w st.live v y → RC g w.drew st.live v y := fun h => RC.keep hGd hs.dom (fun _ _ _ h => ⟨h, rfl⟩) (fun _ _ h => ⟨h, rfl⟩) h
  have harr : (olds.toArray ++ news.toArray ++ zz) = (olds ++ news ++ zz.toList).toArray := by simp
  rw [harr] at hrun
  obtain ⟨q1, q2⟩ := hsd.newObj (e := e) (vs := olds ++ news ++ zz.toList) (new := yo st.os id i.size n r) hnone (by grind) (fun j y hj => by
   rcases hcellAt j y hj with ⟨h, hc⟩ | ⟨h, d, rfl, hd⟩
   ·grind
   ·obtain ⟨v, v1, v2, v3⟩ := hnews _ d hd
    have hlt : j - n * i.size < news.length := (List.getElem?_eq_some_iff.1 v1).1
    exact ⟨v, by grind, v2, keepd v3⟩) htok
  refine ⟨_, _, _, exec _ _ _ _ hv hrun, hGd.trans q1, q2, ?_⟩
  refine .ref _ 0 _ _ _ _ (Ghost.at_same _ _ _) hge hle ?_
  have hnew : (w.drew.alloc (.cells (olds ++ news ++ zz.toList).toArray e)).heap[w.heap.size]? = some (.cells (olds ++ news ++ zz.toList).toArray e (0, 0)) := heap_alloc_new w.drew _
  rw [vi hnew]
  have h3 : (olds ++ news ++ zz.toList).toArray.size = olds.length + news.length + zz.size := by grind
  rw [h3, hol, h2, hzzs, ← Nat.add_mul, ← Nat.add_mul, Nat.zero_add]
  grind
 have hrv := wj rs
 generalize hvv : a.eval s = v0 at hrv
 cases hrv with
 | refnil ad =>
  have hfc : (Builtin.firstCells i.size 0 (.slice ad 0 0)).run P w.drew = .ok #[] w.drew := by
   cases ad with
   | none => rfl
   | some a0 => grind [run_firstCells_some]
  obtain ⟨v, w', g', k1, k2, k3, k4⟩ := fresh ad 0 [] hvv (by omega) (by simp) (by simp) hfc (fun j y hj _ => by omega)
  grind
 | ref b _ _ _ _ cap hg hcap hmx hbs =>
  obtain ⟨c, e0, hheap, hsize, hcells⟩ := qoh hs hg hrow
  rw [vi hheap, Nat.zero_add] at hbs
  have hnc : n * i.size ≤ cap * i.size := Nat.mul_le_mul_right _ hcap
  have hq : c.toList.length = c.size := Array.length_toList
  by_cases hn : n + r.rows.length ≤ cap
  ·have hrun := w8 (P := P) (w := w) (ty := oper.type) ht hi hu ⟨b, 0, none⟩ n cap hsource hn
   have hsz2 : (n + r.rows.length) * i.size ≤ cap * i.size := Nat.mul_le_mul_right _ hn
   rw [Nat.add_mul] at hsz2
   have hone : ∀ v ∈ news, v.oneCell' = true := by
    intro v hv
    obtain ⟨j, hj⟩ := List.getElem?_of_mem hv
    have hlt : j < r.rows.flatten.length := by grind
    obtain ⟨u, u1, u2, _⟩ := hnews j _ (List.getElem?_eq_getElem hlt)
    grind
   have hst := run_storeCells_at P b (n * i.size) e0 news 0 c w hheap (by omega) hone
   rw [Addr.add_lit, Nat.zero_add] at hrun
   rw [hst] at hrun
   simp only [Nat.add_zero, Result.andThen_ok] at hrun
   generalize hc' : (c.toList.take (n * i.size) ++ news ++ c.toList.drop (n * i.size + news.length)).toArray = c' at hrun
   have hnew : (w.setRow b c').heap[b]? = some (.cells c' e0 (0, 0)) := setRow_heap w b c c' e0 (0, 0) hheap
   have hother : ∀ k, k ≠ b → (w.setRow b c').heap[k]? = w.heap[k]? := fun k hk => setRow_other w b k c' hk
   have hwsz : (w.setRow b c').heap.size = w.heap.size := by simp
   have hlen' : c'.size = c.size := by
    grind
   have hlow : ∀ j, j < n * i.size → c'[j]? = c[j]? := by
    grind
   have hput : ∀ (j : Nat) (v : Value), news[j]? = some v → c'[n * i.size + j]? = some v := by
    intro j v hj
    have hlt : j < news.length := (List.getElem?_eq_some_iff.1 hj).1
    have hle : (c.toList.take (n * i.size)).length = n * i.size := by grind
    rw [← hc']
    simp only [List.getElem?_toArray, List.append_assoc]
    rw [List.getElem?_append_right (by omega), hle, Nat.add_sub_cancel_left, List.getElem?_append_left hlt]
    exact hj
   have nrow : ∀ k n o, g k = .row n o → k ≠ b := by grind
   have hbsz : ∀ k, qc2 w k ≤ qc2 (w.setRow b c') k := fun k => by
    grind [vi, Nat.le_of_eq, ji]
   have hG : G g w g (w.setRow b c') :=
    ⟨rfl, rfl, rfl, by omega, fun k hk hgk => ⟨hother k (by grind), hgk⟩, fun k m hk hgk => ⟨hother k (nrow k _ _ hgk), hgk⟩,
     fun k m t hk hgk => ⟨m, some t, hgk, Nat.le_refl _, fun i v _ hv => by grind [ky]⟩, fun k id hk hgk => ⟨hgk, hbsz k⟩⟩
   have keep : ∀ {v : Value} {x : ASlot}, RC g w st.live v x → RC g (w.setRow b c') st.live v x := fun h => RC.keep hG hs.dom (fun k n o hk => ⟨hk, hother k (nrow k n o hk)⟩) (fun k t hk => ⟨hk, hother k (by grind)⟩) h
   have hlt : id < st.os.length := by
    obtain ⟨o, ho, _⟩ := hs.ids b id hg
    grind
   refine ⟨_, _, g, exec _ _ _ _ hvv hrun, hG, .inl ⟨?_, ?_⟩⟩
   ·refine hs.setObj hlt hG (hs.dom.of hG fun k hk => hs.dom.1 k (by omega)) hg (fun _ _ => rfl) (fun k hk _ => hother k hk) (.inr hg) (fun k hk => hs.inj k b id hk hg) ⟨c', e0, hnew, by omega, fun j y hj => ?_⟩ htok
    rcases hcellAt j y hj with ⟨h, hc⟩ | ⟨h, d, rfl, hd⟩
    ·grind
    ·obtain ⟨v, v1, v2, v3⟩ := hnews _ d hd
     refine ⟨v, ?_, v2, keep v3⟩
     grind
   ·refine .ref b 0 id _ _ cap hg hn hmx ?_
    rw [vi hnew, Nat.zero_add, hlen']
    exact hbs
  ·obtain ⟨v, w', g', k1, k2, k3, k4⟩ := fresh (some ⟨b, 0, none⟩) cap (c.toList.take (n * i.size)) hvv (by omega) hmx (by grind)
    (run_firstCells_some (P := P) w.drew i.size n ⟨b, 0, none⟩ _ _ (c.toList.take (n * i.size)) (by grind) (fun j v hj => by
     rw [List.getElem?_take] at hj
     split at hj
     ·rw [Addr.add_lit, Nat.zero_add]
      have hd : w.drew.heap[b]? = some (.cells c e0 (0, 0)) := hheap
      grind [World.cell?]
     grind))
    (fun j y hj hc => by
     grind)
   grind
end
end Go.Abs
namespace Go.Abs
structure ObjsOk (g : Ghost) (w : World) (live : List Nat) (os : List AObj) : Prop where
 objs : ∀ (id : Nat) (o : AObj), os[id]? = some o → o ≠ .none → ObjIs g w live id o
 inj : ∀ (b b' id : Nat), g b = .obj id → g b' = .obj id → b = b'
 ids : ∀ (b id : Nat), g b = .obj id → ∃ o, os[id]? = some o ∧ o ≠ .none
def vy (l : List ASlot) : List Nat := l.flatMap ASlot.toks
def xh : List AObj → List Nat
 | [] => []
 | o :: l => o.cells.flatMap ASlot.toks ++ xh l
theorem qh8 : ∀ {os : List AObj} {id : Nat} {o : AObj}, os[id]? = some o → ∀ s ∈ o.cells, ∀ t ∈ s.toks, t ∈ xh os
 | [], id, o, h, s, hs, t, ht => by simp at h
 | o' :: l, id, o, h, s, hs, t, ht => by
  simp only [xh, List.mem_append, List.mem_flatMap]
  cases id with
  | zero => simp at h; subst h; exact .inl ⟨s, hs, ht⟩
  | succ id => exact .inr (qh8 (by simpa using h) s hs t ht)
def qg (P : Program) (f : FuncId) (args : List ASlot) (objs : List AObj) (r : ASlot) (objs' : List AObj) : Prop :=
 ∀ (g : Ghost) (w : World) (vs : List Value), Dom g w → vs.length = args.length →
  (∀ (i : Nat) (v : Value) (s : ASlot), vs[i]? = some v → args[i]? = some s → RC g w (vy args ++ xh objs) v s) → ObjsOk g w (vy args ++ xh objs) objs →
  Calls P f vs.toArray w fun e w' => ∃ v g' live', e = .returned v ∧ G g w g' w' ∧ Dom g' w' ∧ (∀ t ∈ r.toks ++ xh objs', t ∈ live') ∧ RS g' w' live' v r ∧ ObjsOk g' w' live' objs'
def qb7 : ASlot → ASlot → Prop
 | s, .d x => s.eqvD x
 | .own _ es rows, .own _ es' rows' => es = es' ∧ D.eqvR rows rows'
 | .uni _ es rows, .uni _ es' rows' => es = es' ∧ rows = rows'
 | .d .nilsl, .uni _ _ rows' => rows' = []
 | .full es rows, .own _ es' rows' => qah es rows es' rows'
 | .full es rows, .full es' rows' => qah es rows es' rows'
 | .d .nilsl, .own _ _ rows' => rows' = []
 | .d .nilsl, .full _ rows' => rows' = []
 | .rd cs, .rd cs' => D.eqvL cs cs'
 | _, _ => False
def yp : List ASlot → List ASlot → Prop
 | [], [] => True
 | s :: l, f :: r => qb7 s f ∧ yp l r
 | _, _ => False
def xu : List ASlot → List ASlot → List (Nat × Nat)
 | .own t _ _ :: l, .own t' _ _ :: r => (t, t') :: xu l r
 | .uni t _ _ :: l, .uni t' _ _ :: r => (t, t') :: xu l r
 | _ :: l, _ :: r => xu l r
 | _, _ => []
def ASlot.noPtr : ASlot → Bool
 | .d x => x.noPtr
 | .own _ _ rows => D.noPtrR rows
 | .uni _ _ rows => D.noPtrR rows
 | .full _ rows => D.noPtrR rows
 | .rd cs => D.noPtrL cs
 | _ => false
def renT (toks : List Nat) (base : Nat) : ASlot → ASlot
 | .own t es rows => .own (base + toks.idxOf t) es rows
 | .uni t es rows => .uni (base + toks.idxOf t) es rows
 | s => s
def wq (R : List Nat) (base : Nat) (r : ASlot) : ASlot :=
 match r with
 | .tup l => .tup (l.map (renT R base))
 | s => renT R base s
def qeh (base : Nat) (r : ASlot) : ASlot := wq r.toks base r
def renC (R : List Nat) (base : Nat) (s : ASlot) : ASlot := if s.toks = [] then s else match s with
 | .tup _ => .bad
 | s => renT R base s
theorem xma {R : List Nat} {base : Nat} {s : ASlot} (h : ∀ l, s ≠ .tup l) : renC R base s = renT R base s := by
 cases s <;> first | (simp [renC, ASlot.toks, renT]; done) | exact (h _ rfl).elim
def AObj.rt (R : List Nat) (base : Nat) : AObj → AObj
 | .row cs => .row (cs.map (renC R base))
 | o => o
theorem xa5 {R : List Nat} {base : Nat} {s : ASlot} (h : s.toks = []) : renC R base s = s := if_pos h
theorem xmb {R : List Nat} {base : Nat} {o : AObj} (h : ∀ s ∈ o.cells, s.toks = []) : o.rt R base = o := by
 cases o with
 | row cs =>
  simp only [AObj.rt, AObj.row.injEq]
  exact (List.map_congr_left fun s hs => xa5 (h s hs)).trans (List.map_id _)
 | _ => rfl
theorem q2r {os : List AObj} (h : xh os = []) : ∀ o ∈ os, ∀ s ∈ o.cells, s.toks = [] := by
 intro o ho s hs
 induction os with
 | nil => cases ho
 | cons x l ih =>
  simp only [xh, List.append_eq_nil_iff, List.flatMap_eq_nil_iff] at h
  rcases List.mem_cons.1 ho with rfl | ho
  ·exact h.1 s hs
  ·exact ih h.2 ho
theorem xgc {R : List Nat} {base : Nat} {os : List AObj} (h : xh os = []) : os.map (AObj.rt R base) = os :=
 (List.map_congr_left fun o ho => xmb (q2r h o ho)).trans (List.map_id _)
theorem qpo {toks : List Nat} {base t : Nat} {s : ASlot} (hn : ∀ l, s ≠ .tup l) (h : t ∈ (renT toks base s).toks) : ∃ u ∈ s.toks, t = base + toks.idxOf u := by
 cases s with
 | own u es rows => grind [renT, ASlot.toks]
 | uni u es rows => grind [renT, ASlot.toks]
 | tup l => grind
 | _ => simp [renT, ASlot.toks] at h
theorem qkc {s : ASlot} {t : Nat} (h : t ∈ qbx s) : t ∈ s.toks ∧ ∀ l, s ≠ .tup l := by
 cases s <;> simp [qbx] at h <;> subst h <;> exact ⟨by simp [ASlot.toks], by simp⟩
theorem qpp {R : List Nat} {base t : Nat} {r : ASlot} (hR : ∀ u ∈ r.toks, u ∈ R) (h : t ∈ (wq R base r).toks) : base ≤ t ∧ t < base + R.length := by
 have fin : ∀ u, u ∈ R → t = base + R.idxOf u → base ≤ t ∧ t < base + R.length := by
  grind
 by_cases hr : ∃ l, r = .tup l
 ·obtain ⟨l, rfl⟩ := hr
  simp only [wq, ASlot.toks, List.mem_flatMap, List.mem_map] at h
  obtain ⟨s, ⟨s', hs', rfl⟩, hts⟩ := h
  obtain ⟨h1, h2⟩ := qkc hts
  have hn : ∀ l, s' ≠ .tup l := by intro l' hl; subst hl; exact h2 _ rfl
  obtain ⟨u, hu, ht⟩ := qpo hn h1
  refine fin u (hR u ?_) ht
  simp only [ASlot.toks, List.mem_flatMap]
  refine ⟨s', hs', ?_⟩
  cases s' <;> simp [ASlot.toks] at hu
  ·grind [qbx]
  ·grind [qbx]
  grind
 ·have hn : ∀ l, r ≠ .tup l := fun l h => hr ⟨l, h⟩
  have he : wq R base r = renT R base r := by cases r <;> first | rfl | grind
  rw [he] at h
  obtain ⟨u, hu, ht⟩ := qpo hn h
  exact fin u (hR u hu) ht
theorem qta {base t : Nat} {r : ASlot} (h : t ∈ (qeh base r).toks) : base ≤ t ∧ t < base + r.toks.length := qpp (fun _ h => h) h
theorem q7x {os : List AObj} {t : Nat} (h : t ∈ xh os) : ∃ o ∈ os, ∃ s ∈ o.cells, t ∈ s.toks := by
 induction os with
 | nil => cases h
 | cons o l ih =>
  simp only [xh, List.mem_append, List.mem_flatMap] at h
  rcases h with ⟨s, hs, ht⟩ | h
  ·exact ⟨o, List.mem_cons_self, s, hs, ht⟩
  ·obtain ⟨o', h1, h2⟩ := ih h
   exact ⟨o', List.mem_cons_of_mem _ h1, h2⟩
theorem qpq {os : List AObj} {o : AObj} {s : ASlot} {t : Nat} (h : o ∈ os) (hs : s ∈ o.cells) (ht : t ∈ s.toks) : t ∈ xh os := by
 obtain ⟨i, hi⟩ := List.getElem?_of_mem h
 exact qh8 hi s hs t ht
theorem qlu {R : List Nat} {base t : Nat} {r : ASlot} {fo' : List AObj} (hR : R = r.toks ++ xh fo') (h : t ∈ (wq R base r).toks ++ xh (fo'.map (AObj.rt R base))) : base ≤ t ∧ t < base + R.length := by
 have hRr : ∀ u ∈ r.toks, u ∈ R := fun u h => hR ▸ List.mem_append_left _ h
 have hRo : ∀ u ∈ xh fo', u ∈ R := fun u h => hR ▸ List.mem_append_right _ h
 rcases List.mem_append.1 h with h | h
 ·exact qpp hRr h
 ·obtain ⟨o, ho, s, hs, ht⟩ := q7x h
  obtain ⟨o0, ho0, rfl⟩ := List.mem_map.1 ho
  have fin : ∀ s0 ∈ o0.cells, t ∈ (renC R base s0).toks → base ≤ t ∧ t < base + R.length := by
   intro s0 hs0 ht
   unfold renC at ht
   split at ht
   ·rename_i h0; rw [h0] at ht; cases ht
   ·split at ht
    ·simp [ASlot.toks] at ht
    ·rename_i hn
     obtain ⟨u, hu, rfl⟩ := qpo (fun l hl => hn l hl) ht
     have := hRo u (qpq ho0 hs0 hu)
     grind
  cases o0 with
  | row cs =>
   obtain ⟨s0, hs0, rfl⟩ := List.mem_map.1 hs
   exact fin s0 hs0 ht
  | _ => cases hs
def k8 (l : List (Nat × Nat)) (t : Nat) : Option Nat := (l.find? (·.1 == t)).map (·.2)
theorem qlv {l : List (Nat × Nat)} {t t' : Nat} (h : k8 l t = some t') : (t, t') ∈ l := by
 unfold k8 at h
 cases hf : l.find? (·.1 == t) with
 | none => grind
 | some p =>
  grind
theorem q2s {l : List (Nat × Nat)} {t : Nat} (h : k8 l t = none) : t ∉ l.map (·.1) := by
 intro hm
 obtain ⟨p, hp, rfl⟩ := List.mem_map.1 hm
 grind [k8, Option.map_eq_none_iff, List.find?_eq_none]
theorem qb8 {l : List (Nat × Nat)} (hn : (l.map (·.1)).Nodup) {t t' : Nat} (h : (t, t') ∈ l) : k8 l t = some t' := by
 cases hp : k8 l t with
 | none => exact (q2s hp (List.mem_map.2 ⟨(t, t'), h, rfl⟩)).elim
 | some u =>
  have := qlv hp
  congr 1
  induction l with
  | nil => cases h
  | cons q l ih =>
   grind [List.nodup_cons, k8]
mutual
def D.ren (ι : List Nat) : D → D
 | .ptr id off => .ptr (ι.getD id 0) off
 | .ref id off es len => .ref (ι.getD id 0) off es len
 | .map id => .map (ι.getD id 0)
 | .sl es rows => .sl es (D.renR ι rows)
 | .agg cs => .agg (D.renL ι cs)
 | .func fn a b => .func fn (D.renL ι a) (D.renL ι b)
 | .iface t d => .iface t (D.ren ι d)
 | .int k n => .int k n
 | .bool b => .bool b
 | .str s => .str s
 | .nilptr => .nilptr
 | .nilfunc => .nilfunc
 | .niliface => .niliface
 | .nilmap => .nilmap
 | .nilsl => .nilsl
 | .any => .any
def D.renL (ι : List Nat) : List D → List D
 | [] => []
 | d :: l => D.ren ι d :: D.renL ι l
def D.renR (ι : List Nat) : List (List D) → List (List D)
 | [] => []
 | r :: l => D.renL ι r :: D.renR ι l
end
mutual
def D.inK (k : Nat) : D → Bool
 | .ptr id _ => decide (id < k)
 | .ref id _ _ _ => decide (id < k)
 | .map id => decide (id < k)
 | .sl _ rows => D.inKR k rows
 | .agg cs => D.inKL k cs
 | .func _ a b => D.inKL k a && D.inKL k b
 | .iface _ d => D.inK k d
 | .int .. => true
 | .bool .. => true
 | .str .. => true
 | .nilptr => true
 | .nilfunc => true
 | .niliface => true
 | .nilmap => true
 | .nilsl => true
 | .any => true
def D.inKL (k : Nat) : List D → Bool
 | [] => true
 | d :: l => D.inK k d && D.inKL k l
def D.inKR (k : Nat) : List (List D) → Bool
 | [] => true
 | r :: l => D.inKL k r && D.inKR k l
end
theorem D.renL_map (ι : List Nat) : ∀ l : List D, D.renL ι l = l.map (D.ren ι)
 | [] => rfl
 | d :: l => by simp only [D.renL, List.map_cons, D.renL_map ι l]
theorem D.renR_map (ι : List Nat) : ∀ l : List (List D), D.renR ι l = l.map fun r => r.map (D.ren ι)
 | [] => rfl
 | r :: l => by simp only [D.renR, List.map_cons, D.renL_map, D.renR_map ι l]
theorem D.inKL_iff (k : Nat) : ∀ l : List D, D.inKL k l = true ↔ ∀ d ∈ l, d.inK k = true
 | [] => by simp [D.inKL]
 | d :: l => by simp [D.inKL, D.inKL_iff k l]
theorem D.inKR_iff (k : Nat) : ∀ l : List (List D), D.inKR k l = true ↔ ∀ d ∈ l.flatten, d.inK k = true
 | [] => by simp [D.inKR]
 | r :: l => by
  simp only [D.inKR, Bool.and_eq_true, D.inKL_iff, D.inKR_iff k l, List.flatten_cons, List.mem_append]
  grind
mutual
theorem D.ren_noPtr (ι : List Nat) : ∀ {d : D}, d.noPtr = true → d.ren ι = d
 | .sl es rows, h => by simp only [D.ren, D.renR_noPtr ι (l := rows) (by simpa only [D.noPtr] using h)]
 | .agg cs, h => by simp only [D.ren, D.renL_noPtr ι (l := cs) (by simpa only [D.noPtr] using h)]
 | .ptr .., h => by simp [D.noPtr] at h
 | .ref .., h => by simp [D.noPtr] at h
 | .map _, h => by simp [D.noPtr] at h
 | .func fn a b, h => by
  simp_all [D.noPtr, Bool.and_eq_true, D.ren, D.renL_noPtr]
 | .iface t d, h => by simp only [D.ren, D.ren_noPtr ι (d := d) (by simpa only [D.noPtr] using h)]
 | .int .., _ => rfl
 | .bool .., _ => rfl
 | .str .., _ => rfl
 | .nilptr, _ => rfl
 | .nilfunc, _ => rfl
 | .niliface, _ => rfl
 | .nilmap, _ => rfl
 | .nilsl, _ => rfl
 | .any, _ => rfl
theorem D.renL_noPtr (ι : List Nat) : ∀ {l : List D}, D.noPtrL l = true → D.renL ι l = l
 | [], _ => rfl
 | d :: l, h => by
  simp_all [D.noPtrL, Bool.and_eq_true, D.renL, D.ren_noPtr, D.renL_noPtr]
theorem D.renR_noPtr (ι : List Nat) : ∀ {l : List (List D)}, D.noPtrR l = true → D.renR ι l = l
 | [], _ => rfl
 | r :: l, h => by
  simp_all [D.noPtrR, Bool.and_eq_true, D.renR, D.renL_noPtr, D.renR_noPtr]
end
mutual
theorem D.inK_noPtr (k : Nat) : ∀ {d : D}, d.noPtr = true → d.inK k = true
 | .sl es rows, h => by simp only [D.inK]; exact D.inKR_noPtr k (l := rows) (by simpa only [D.noPtr] using h)
 | .agg cs, h => by simp only [D.inK]; exact D.inKL_noPtr k (l := cs) (by simpa only [D.noPtr] using h)
 | .ptr .., h => by simp [D.noPtr] at h
 | .ref .., h => by simp [D.noPtr] at h
 | .map _, h => by simp [D.noPtr] at h
 | .func fn a b, h => by
  simp_all [D.noPtr, Bool.and_eq_true, D.inK, D.inKL_noPtr, Bool.and_self]
 | .iface t d, h => by simp only [D.inK]; exact D.inK_noPtr k (d := d) (by simpa only [D.noPtr] using h)
 | .int .., _ => rfl
 | .bool .., _ => rfl
 | .str .., _ => rfl
 | .nilptr, _ => rfl
 | .nilfunc, _ => rfl
 | .niliface, _ => rfl
 | .nilmap, _ => rfl
 | .nilsl, _ => rfl
 | .any, _ => rfl
theorem D.inKL_noPtr (k : Nat) : ∀ {l : List D}, D.noPtrL l = true → D.inKL k l = true
 | [], _ => rfl
 | d :: l, h => by
  simp_all [D.noPtrL, Bool.and_eq_true, D.inKL, D.inK_noPtr, D.inKL_noPtr]
theorem D.inKR_noPtr (k : Nat) : ∀ {l : List (List D)}, D.noPtrR l = true → D.inKR k l = true
 | [], _ => rfl
 | r :: l, h => by
  simp_all [D.noPtrR, Bool.and_eq_true, D.inKR, D.inKL_noPtr, D.inKR_noPtr]
end
def ASlot.ren1 (ι : List Nat) : ASlot → ASlot
 | .d x => .d (x.ren ι)
 | .own t es rows => .own t es (D.renR ι rows)
 | .uni t es rows => .uni t es (D.renR ι rows)
 | .full es rows => .full es (D.renR ι rows)
 | .rd cs => .rd (D.renL ι cs)
 | s => s
def ASlot.ren (ι : List Nat) (s : ASlot) : ASlot :=
 match ι with
 | [] => s
 | _ => match s with
  | .tup l => .tup (l.map (ASlot.ren1 ι))
  | s => s.ren1 ι
def AObj.ren (ι : List Nat) : AObj → AObj
 | .none => .none
 | .row cs => .row (cs.map (ASlot.ren1 ι))
 | .map es clock => .map es clock
 | .iter m since seen last => .iter (m.ren1 ι) since seen last
def ASlot.inK (k : Nat) : ASlot → Bool
 | .d x => x.inK k
 | .own _ _ rows => D.inKR k rows
 | .uni _ _ rows => D.inKR k rows
 | .full _ rows => D.inKR k rows
 | .rd cs => D.inKL k cs
 | _ => false
theorem qym (ι : List Nat) (s : ASlot) : (s.ren1 ι).toks = s.toks := by cases s <;> rfl
theorem qvh (ι : List Nat) (s : ASlot) : (s.ren ι).toks = s.toks := by
 cases ι with
 | nil => rfl
 | cons x ι =>
  cases s with
  | tup l =>
   simp only [ASlot.ren, ASlot.toks, List.flatMap_map]
   congr 1
   funext s
   cases s <;> rfl
  | _ => rfl
def qpr : List Nat → Nat → Option Nat
 | [], _ => none
 | x :: l, id => if x = id then some 0 else (qpr l id).map (· + 1)
theorem qfw : ∀ {l : List Nat} {id j : Nat}, qpr l id = some j → l[j]? = some id
 | [], _, _, h => by simp [qpr] at h
 | x :: l, id, j, h => by
  simp only [qpr] at h
  split at h
  ·grind
  ·rw [Option.map_eq_some_iff] at h
   obtain ⟨i, hi, rfl⟩ := h
   simpa using qfw hi
theorem qc3 : ∀ {l : List Nat}, l.Nodup → ∀ {id j : Nat}, l[j]? = some id → qpr l id = some j
 | [], _, _, _, h => by simp at h
 | x :: l, hn, id, j, h => by
  rw [List.nodup_cons] at hn
  cases j with
  | zero => grind [qpr]
  | succ j =>
   have hj : l[j]? = some id := by grind
   have hne : x ≠ id := fun he => hn.1 (he ▸ List.mem_of_getElem? hj)
   simp only [qpr, if_neg hne, qc3 hn.2 hj, Option.map_some]
theorem q7y {l : List Nat} {id : Nat} (h : id ∉ l) : qpr l id = none := by
 cases hp : qpr l id with
 | none => rfl
 | some j => exact (h (List.mem_of_getElem? (qfw hp))).elim
def qyn : ASlot → ASlot → Prop
 | s, .d x => s.eqvD x
 | .own _ es rows, .own _ es' rows' => es = es' ∧ D.eqvR rows rows'
 | _, .bad => True
 | _, _ => False
def qfn : List ASlot → List ASlot → Prop
 | s :: l, f :: r => qyn s f ∧ qfn l r
 | _, [] => True
 | [], _ :: _ => False
def xa6 : AObj → AObj → Prop
 | .row cs, .row fs => qfn cs fs
 | .map es c, .map es' c' => es = es' ∧ c = c'
 | _, _ => False
def ASlot.inKC (k : Nat) : ASlot → Bool
 | .bad => true
 | s => s.inK k
def AObj.inK (k : Nat) : AObj → Bool
 | .none => true
 | .row cs => cs.all (ASlot.inKC k)
 | .map .. => true
 | .iter .. => false
mutual
theorem qlw : ∀ {d : D}, d.inK 0 = true → d.noPtr = true
 | .sl es rows, h => by simp only [D.noPtr]; exact qej (rows := rows) (by simpa only [D.inK] using h)
 | .agg cs, h => by simp only [D.noPtr]; exact qei (cs := cs) (by simpa only [D.inK] using h)
 | .ptr .., h => by simp [D.inK] at h
 | .ref .., h => by simp [D.inK] at h
 | .map _, h => by simp [D.inK] at h
 | .func fn a b, h => by
  simp_all [D.inK, Bool.and_eq_true, D.noPtr, qei, Bool.and_self]
 | .iface t d, h => by simp only [D.noPtr]; exact qlw (d := d) (by simpa only [D.inK] using h)
 | .int .., _ => rfl
 | .bool .., _ => rfl
 | .str .., _ => rfl
 | .nilptr, _ => rfl
 | .nilfunc, _ => rfl
 | .niliface, _ => rfl
 | .nilmap, _ => rfl
 | .nilsl, _ => rfl
 | .any, _ => rfl
theorem qei : ∀ {cs : List D}, D.inKL 0 cs = true → D.noPtrL cs = true
 | [], _ => rfl
 | d :: l, h => by
  simp_all [D.inKL, Bool.and_eq_true, D.noPtrL, qlw, qei]
theorem qej : ∀ {rows : List (List D)}, D.inKR 0 rows = true → D.noPtrR rows = true
 | [], _ => rfl
 | r :: l, h => by
  simp_all [D.inKR, Bool.and_eq_true, D.noPtrR, qei, qej]
end
def qdq (κ : List Nat) (os : List AObj) : List Nat → List AObj → Prop
 | _, [] => True
 | id :: ι, o :: fo => (∃ c, os[id]? = some c ∧ xa6 c (o.ren κ)) ∧ qdq κ os ι fo
 | [], _ :: _ => False
def xm (hs : List (Nat × Nat)) (ι : List Nat) (g : Ghost) : Ghost := fun b =>
 match g b with
 | .row n (some t) => .row n (k8 hs t)
 | .row n none => .row n none
 | .uni t => match k8 hs t with | some t' => .uni t' | none => .out
 | .obj id => match qpr ι id with | some j => .obj j | none => .out
 | .out => .out
def upR (ι : List Nat) (ren : Nat → Option Nat) : Role → Role
 | .row n' o => .row n' (o.bind ren)
 | .uni u => match ren u with | some u' => .uni u' | none => .out
 | .obj j => match ι[j]? with | some id => .obj id | none => .out
 | .out => .out
def qkd (hs : List (Nat × Nat)) (ι : List Nat) (size : Nat) (ren : Nat → Option Nat) (g g1 : Ghost) : Ghost := fun b =>
 if b < size then
  match g b with
  | .row n (some t) => match k8 hs t with
   | some _ => match g1 b with
    | .row n' o => .row n' (o.bind ren)
    | _ => .row n none
   | none => .row n (some t)
  | .uni t => match k8 hs t with
   | some _ => upR ι ren (g1 b)
   | none => .uni t
  | r => r
 else upR ι ren (g1 b)
section
variable {P : Program} {T : Nat → Prop} {g : Ghost} {w : World} {live : List Nat}
theorem qvi {v : Value} {s : ASlot} {x : D} (h : RS g w live v s) (hd : s.eqvD x) : RV g w v x := by
 cases s with
 | d y => exact RV.eqv h hd
 | own t es rows => exact RV.eqv h.1 hd
 | full es rows => exact RV.eqv h.1 hd
 | _ => exact hd.elim
theorem qbq {v : Value} {es es' : Nat} {rows rows' : List (List D)} (h : RV g w v (.sl es rows)) (he : qah es rows es' rows') : RV g w v (.sl es' rows') :=
 h.eqv (by simp only [D.eqv]; exact he)
theorem qoj {v : Value} {rows rows' : List (List D)} (h : ∃ a, v = .slice a rows.length rows.length) (he : D.eqvR rows rows') : ∃ a, v = .slice a rows'.length rows'.length := by
 rw [← (D.eqvR_flat he).2.1]; exact h
theorem qps {t es : Nat} {v : Value} {rows rows' : List (List D)} (h : qxz g w t es rows v) (he : D.eqvR rows rows') : qxz g w t es rows' v := by
 unfold qxz
 rw [← (D.eqvR_flat he).2.1]; exact h
theorem xk6 {v : Value} {cs cs' : List D} (h : RC g w live v (.rd cs)) (he : D.eqvL cs cs') : RC g w live v (.rd cs') := by
 obtain ⟨b, off, n, o, f, rfl, hg, hn, hcc⟩ := h
 refine ⟨b, off, n, o, f, rfl, hg, by grind [D.eqvL_length], fun j d' hj => ?_⟩
 obtain ⟨d, hd, hdd⟩ := D.eqvL_get he j d' hj
 obtain ⟨c1, c2, c3⟩ := hcc j d hd
 exact ⟨by grind [D.eqv_isCell], c2, c3.eqv hdd⟩
theorem xmc {v : Value} {y : D} {t es : Nat} {rows : List (List D)} (h : RS g w live v (.d y)) (hm : qb7 (.d y) (.own t es rows)) : v = .slice none 0 0 ∧ rows = [] := by
 cases y <;> first | exact hm.elim | skip
 have h' : RV g w v .nilsl := h
 cases h'
 exact ⟨rfl, hm⟩
theorem xmd {v : Value} {y : D} {t es : Nat} {rows : List (List D)} (h : RS g w live v (.d y)) (hm : qb7 (.d y) (.uni t es rows)) : v = .slice none 0 0 ∧ rows = [] := by
 cases y <;> first | exact hm.elim | skip
 have h' : RV g w v .nilsl := h
 cases h'
 exact ⟨rfl, hm⟩
theorem xgd {v : Value} {y : D} {es : Nat} {rows : List (List D)} (h : RS g w live v (.d y)) (hm : qb7 (.d y) (.full es rows)) : v = .slice none 0 0 ∧ rows = [] := by
 cases y <;> first | exact hm.elim | skip
 have h' : RV g w v .nilsl := h
 cases h'
 exact ⟨rfl, hm⟩
theorem qnb : ∀ {l r : List ASlot}, yp l r → l.length = r.length ∧ ∀ (i : Nat) (s f : ASlot), l[i]? = some s → r[i]? = some f → qb7 s f
 | [], [], _ => by simp
 | s :: l, f :: r, h => by
  obtain ⟨h1, h2⟩ := h
  obtain ⟨k1, k2⟩ := qnb h2
  refine ⟨by simp [k1], fun i s' f' hs hf => ?_⟩
  cases i with
  | zero => simp at hs hf; subst hs hf; exact h1
  | succ i => exact k2 i s' f' (by simpa using hs) (by simpa using hf)
 | [], _ :: _, h => h.elim
 | _ :: _, [], h => h.elim
theorem qlx : ∀ {l r : List ASlot} (i t es : Nat) (rows : List (List D)) (t' es' : Nat) (rows' : List (List D)), l[i]? = some (.own t es rows) → r[i]? = some (.own t' es' rows') → (t, t') ∈ xu l r
 | [], _, i, t, es, rows, t', es', rows', h, _ => by simp at h
 | s :: l, [], i, t, es, rows, t', es', rows', _, h => by simp at h
 | s :: l, f :: r, i, t, es, rows, t', es', rows', hs, hf => by
  cases i with
  | zero => simp at hs hf; subst hs hf; simp [xu]
  | succ i =>
   have ih := qlx (l := l) (r := r) i t es rows t' es' rows' (by simpa using hs) (by simpa using hf)
   cases s <;> cases f <;> simp [xu] <;> first | exact ih | exact .inr ih
theorem qpt : ∀ {l r : List ASlot} (i t es : Nat) (rows : List (List D)) (t' es' : Nat) (rows' : List (List D)), l[i]? = some (.uni t es rows) → r[i]? = some (.uni t' es' rows') → (t, t') ∈ xu l r
 | [], _, i, t, es, rows, t', es', rows', h, _ => by simp at h
 | s :: l, [], i, t, es, rows, t', es', rows', _, h => by simp at h
 | s :: l, f :: r, i, t, es, rows, t', es', rows', hs, hf => by
  cases i with
  | zero => simp at hs hf; subst hs hf; simp [xu]
  | succ i =>
   have ih := qpt (l := l) (r := r) i t es rows t' es' rows' (by simpa using hs) (by simpa using hf)
   cases s <;> cases f <;> simp [xu] <;> first | exact ih | exact .inr ih
def vm (os : List AObj) : List Nat → List AObj → List (Nat × Nat)
 | id :: ι, .row fs :: fo => (match os[id]? with | some (.row cs) => xu cs fs | _ => []) ++ vm os ι fo
 | _ :: ι, _ :: fo => vm os ι fo
 | _, _ => []
theorem qpu {os : List AObj} : ∀ {ι : List Nat} {fo : List AObj} (j id : Nat) (cs fs : List ASlot) (p : Nat × Nat), ι[j]? = some id → fo[j]? = some (.row fs) → os[id]? = some (.row cs) → p ∈ xu cs fs → p ∈ vm os ι fo
 | [], _, j, id, cs, fs, p, h, _, _, _ => by simp at h
 | _ :: _, [], j, id, cs, fs, p, _, h, _, _ => by simp at h
 | x :: ι, o :: fo, j, id, cs, fs, p, h1, h2, h3, h4 => by
  cases j with
  | zero =>
   simp at h1 h2
   subst h1 h2
   simp only [vm, h3]
   exact List.mem_append_left _ h4
  | succ j =>
   have ih := qpu (ι := ι) (fo := fo) j id cs fs p (by simpa using h1) (by simpa using h2) h3 h4
   cases o with
   | row gs => simp only [vm]; exact List.mem_append_right _ ih
   | _ => simpa only [vm] using ih
theorem qpv : ∀ {l r : List ASlot}, (∀ s ∈ r, s.toks = []) → xu l r = []
 | [], _, _ => by simp [xu]
 | s :: l, [], _ => by cases s <;> simp [xu]
 | s :: l, f :: r, h => by
  have ih := qpv (l := l) (r := r) fun s hs => h s (List.mem_cons_of_mem _ hs)
  have hf := h f List.mem_cons_self
  cases s <;> cases f <;> first | (simp [ASlot.toks] at hf; done) | (simpa only [xu] using ih)
theorem qnc {os : List AObj} : ∀ {ι : List Nat} {fo : List AObj}, xh fo = [] → vm os ι fo = []
 | [], [], _ => by simp [vm]
 | [], _ :: _, _ => by simp [vm]
 | _ :: _, [], _ => by simp [vm]
 | x :: ι, o :: fo, h => by
  simp only [xh, List.append_eq_nil_iff, List.flatMap_eq_nil_iff] at h
  have ih := qnc (os := os) (ι := ι) h.2
  cases o with
  | row fs =>
   simp only [vm, ih, List.append_nil]
   split
   ·exact qpv h.1
   ·rfl
  | _ => simpa only [vm] using ih
structure Fits (live : List Nat) (as fa : List ASlot) (ι : List Nat) (k : Nat) (H : List (Nat × Nat)) : Prop where
 all : yp as (fa.map (ASlot.ren ι))
 inK : fa.all (ASlot.inK k) = true
 lv : ∀ p ∈ H, p.1 ∈ live
 nd1 : (H.map (·.1)).Nodup
structure ObjFit (os : List AObj) (fo fo' : List AObj) (ι : List Nat) : Prop where
 nd : ι.Nodup
 len : ι.length = fo'.length
 le : fo.length ≤ fo'.length
 olds : qdq ι os ι fo
 news : ∀ id ∈ ι.drop fo.length, os[id]? = some .none
 inK : fo.all (AObj.inK fo.length) = true
theorem qd8 {κ : List Nat} {os : List AObj} : ∀ {ι : List Nat} {fo : List AObj}, qdq κ os ι fo → ∀ (j : Nat) (o : AObj), fo[j]? = some o → ∃ id c, ι[j]? = some id ∧ os[id]? = some c ∧ xa6 c (o.ren κ)
 | _, [], _, j, o, h => by simp at h
 | [], _ :: _, h, _, _, _ => h.elim
 | id :: ι, o' :: fo, h, j, o, hj => by
  obtain ⟨⟨c, h1, h2⟩, h3⟩ := h
  cases j with
  | zero => grind
  | succ j => simpa using qd8 h3 j o (by simpa using hj)
theorem qek (hs : List (Nat × Nat)) (ι : List Nat) (g : Ghost) (w : World) : RowsKept g w (xm hs ι g) w := by
 intro b n o hg
 refine ⟨n, o.bind (k8 hs), ?_, Nat.le_refl _, fun _ _ _ h => h⟩
 grind [xm]
theorem yz (ι : List Nat) (d : D) : (d.ren ι).isCell = d.isCell := by cases d <;> rfl
theorem qke (ι : List Nat) (rows : List (List D)) : (D.renR ι rows).flatten = rows.flatten.map (D.ren ι) := by
 rw [D.renR_map, List.map_flatten]
theorem RV.down {hs : List (Nat × Nat)} {ι : List Nat} {k : Nat} (hn : ι.Nodup) (hk : k ≤ ι.length) {v : Value} {x : D} (h : RV g w v x) : ∀ {y : D}, x = y.ren ι → y.inK k = true → RV (xm hs (ι.take k) g) w v y := by
 have hobj : ∀ (b i : Nat), i < k → g b = .obj (ι.getD i 0) → xm hs (ι.take k) g b = .obj i := by
  intro b i hi hg
  have hii : (ι.take k)[i]? = some (ι.getD i 0) := by
   grind
  unfold xm
  rw [hg]
  simp only [qc3 (hn.sublist (List.take_sublist _ _)) hii]
 have hr := qek hs (ι.take k) g w
 induction h with
 | int k n => intro y hx hy; cases y <;> simp [D.ren] at hx; obtain ⟨rfl, rfl⟩ := hx; exact .int _ _
 | bool b => intro y hx hy; cases y <;> simp [D.ren] at hx; grind [bool]
 | str s => intro y hx hy; cases y <;> simp [D.ren] at hx; grind [str]
 | nilsl a c es hz =>
  intro y hx hy
  cases y <;> simp only [D.ren, reduceCtorEq] at hx
  rename_i es' rows'
  simp only [D.sl.injEq] at hx
  obtain ⟨rfl, hx⟩ := hx
  cases rows' with
  | nil => grind [nilsl]
  | cons r l => grind [D.renR]
 | sl b off cap es n o rows f hg hnn hcap hes hcl hcell _ ih =>
  intro y hx hy
  cases y <;> simp only [D.ren, reduceCtorEq] at hx
  rename_i es' rows'
  simp only [D.sl.injEq] at hx
  obtain ⟨rfl, rfl⟩ := hx
  simp only [D.inK, D.inKR_iff] at hy
  have hfl := qke ι rows'
  have hlen : (D.renR ι rows').flatten.length = rows'.flatten.length := by grind
  have hl2 : (D.renR ι rows').length = rows'.length := by rw [D.renR_map, List.length_map]
  obtain ⟨n', o', hg', h1, h2⟩ := hr b n o hg
  rw [hl2]
  refine .sl b off cap _ n' o' rows' f hg' (by omega) (by omega) (fun r hrr => ?_) (fun d hd => ?_) (fun j d hj => ?_) (fun j d hj => ?_)
  ·have := hes (r.map (D.ren ι)) (by rw [D.renR_map]; grind)
   grind
  ·have := hcl (d.ren ι) (by grind)
   grind [yz]
  all_goals grind
 | agg vs ds hl hcl _ ih =>
  intro y hx hy
  cases y <;> simp only [D.ren, reduceCtorEq] at hx
  rename_i ds'
  simp only [D.agg.injEq, D.renL_map] at hx
  subst hx
  simp only [D.inK, D.inKL_iff] at hy
  refine .agg vs ds' (by grind) (fun d hd => ?_) (fun j v d hv hd => ?_)
  ·have := hcl (d.ren ι) (List.mem_map.2 ⟨d, hd, rfl⟩)
   grind [yz]
  grind
 | ptr b off id hg =>
  intro y hx hy
  cases y <;> simp only [D.ren, reduceCtorEq] at hx
  simp only [D.ptr.injEq] at hx
  obtain ⟨rfl, rfl⟩ := hx
  simp only [D.inK, decide_eq_true_eq] at hy
  grind [ptr]
 | refnil a id off es =>
  intro y hx hy
  cases y <;> simp only [D.ren, reduceCtorEq] at hx
  simp only [D.ref.injEq] at hx
  obtain ⟨rfl, rfl, rfl, rfl⟩ := hx
  grind [refnil]
 | ref b off id es len cap hg hcap hm hsz =>
  intro y hx hy
  cases y <;> simp only [D.ren, reduceCtorEq] at hx
  simp only [D.ref.injEq] at hx
  obtain ⟨rfl, rfl, rfl, rfl⟩ := hx
  simp only [D.inK, decide_eq_true_eq] at hy
  grind [ref]
 | nilptr => intro y hx hy; cases y <;> simp [D.ren] at hx; exact .nilptr
 | func fn vf vc df dc hf hc _ _ i1 i2 =>
  intro y hx hy
  cases y <;> simp only [D.ren, reduceCtorEq] at hx
  rename_i fn' a b
  simp only [D.func.injEq, D.renL_map] at hx
  obtain ⟨rfl, rfl, rfl⟩ := hx
  simp only [D.inK, Bool.and_eq_true, D.inKL_iff] at hy
  exact .func _ vf vc a b (by grind) (by grind) (fun j v d hv hd => i1 j v (d.ren ι) hv (by grind) rfl (hy.1 d (List.mem_of_getElem? hd)))
   (fun j v d hv hd => i2 j v (d.ren ι) hv (by grind) rfl (hy.2 d (List.mem_of_getElem? hd)))
 | nilfunc => intro y hx hy; cases y <;> simp [D.ren] at hx; exact .nilfunc
 | iface t v d _ ih =>
  intro y hx hy
  cases y <;> simp only [D.ren, reduceCtorEq] at hx
  simp only [D.iface.injEq] at hx
  obtain ⟨rfl, rfl⟩ := hx
  exact .iface _ v _ (ih rfl (by grind [D.inK]))
 | niliface => intro y hx hy; cases y <;> simp [D.ren] at hx; exact .niliface
 | map b id hg =>
  intro y hx hy
  cases y <;> simp only [D.ren, reduceCtorEq] at hx
  simp only [D.map.injEq] at hx
  subst hx
  simp only [D.inK, decide_eq_true_eq] at hy
  grind [map]
 | nilmap => intro y hx hy; cases y <;> simp [D.ren] at hx; exact .nilmap
 | nils => intro y hx hy; cases y <;> simp [D.ren] at hx; exact .nils
 | any v hv => intro y hx hy; cases y <;> simp [D.ren] at hx; exact .any v hv
theorem RV.up {ι : List Nat} {g1 g' : Ghost} (hr : RowsKept g1 w g' w) (ho : ∀ (b j : Nat), g1 b = .obj j → g' b = .obj (ι.getD j 0)) {v : Value} {y : D} (h : RV g1 w v y) : RV g' w v (y.ren ι) := by
 induction h with
 | int k n => exact .int _ _
 | bool b => exact .bool _
 | str s => exact .str _
 | nilsl a c es hz => exact .nilsl a c es hz
 | sl b off cap es n o rows f hg hnn hcap hes hcl hcell _ ih =>
  obtain ⟨n', o', hg', h1, h2⟩ := hr b n o hg
  have hfl := qke ι rows
  have hlen : (D.renR ι rows).flatten.length = rows.flatten.length := by grind
  have hl2 : rows.length = (D.renR ι rows).length := by rw [D.renR_map, List.length_map]
  simp only [D.ren]
  rw [hl2]
  refine .sl b off cap _ n' o' (D.renR ι rows) f hg' (by omega) (by omega) (fun r hrr => ?_) (fun d hd => ?_) (fun j d hj => ?_) (fun j d hj => ?_)
  ·rw [D.renR_map] at hrr
   grind
  ·rw [hfl] at hd
   obtain ⟨d0, h0, rfl⟩ := List.mem_map.1 hd
   grind [yz]
  all_goals grind
 | agg vs ds hl hcl _ ih =>
  simp only [D.ren, D.renL_map]
  refine .agg vs _ (by grind) (fun d hd => ?_) (fun j v d hv hd => ?_)
  ·obtain ⟨d0, h0, rfl⟩ := List.mem_map.1 hd
   grind [yz]
  grind
 | ptr b off id hg => exact .ptr b _ _ (ho _ _ hg)
 | refnil a id off es => exact .refnil _ _ _ _
 | ref b off id es len cap hg hcap hm hsz => exact .ref b _ _ _ _ cap (ho _ _ hg) hcap hm hsz
 | nilptr => exact .nilptr
 | func fn vf vc df dc hf hc _ _ i1 i2 =>
  grind [D.ren, D.renL_map, func, Option.map_eq_some_iff]
 | nilfunc => exact .nilfunc
 | iface t v d _ ih => exact .iface _ v _ ih
 | niliface => exact .niliface
 | map b id hg => exact .map b _ (ho _ _ hg)
 | nilmap => exact .nilmap
 | nils => exact .nils
 | any v hv => exact .any v hv
theorem q7z {ι : List Nat} {k : Nat} (hk : k ≤ ι.length) {s : ASlot} (h : s.inK k = true) : s.ren ι = s.ren1 ι := by
 cases ι with
 | nil =>
  have hk0 : k = 0 := by grind
  subst hk0
  show s = s.ren1 []
  have hd : ∀ d : D, d.inK 0 = true → d.ren [] = d := fun d hd => D.ren_noPtr [] (qlw hd)
  cases s with
  | d x => grind [ASlot.ren1, ASlot.inK]
  | own t es rows =>
   grind [ASlot.ren1, D.renR_noPtr, qej, ASlot.inK]
  | uni t es rows =>
   grind [ASlot.ren1, D.renR_noPtr, qej, ASlot.inK]
  | full es rows =>
   grind [ASlot.ren1, D.renR_noPtr, qej, ASlot.inK]
  | rd cs =>
   grind [ASlot.ren1, D.renL_noPtr, qei, ASlot.inK]
  | tup l => rfl
  | bad => rfl
 | cons x ι =>
  cases s with
  | tup l => simp [ASlot.inK] at h
  | _ => rfl
end
structure QtX (T : Nat → Prop) (X : Nat → Prop) (g : Ghost) (w : World) (g' : Ghost) (w' : World) (live live' : List Nat) : Prop where
 toG : G g w g' w'
 dom : Dom g' w'
 objH : ∀ b id, g b = .obj id → ¬ X id → w'.heap[b]? = w.heap[b]?
 objB : ∀ b id, g' b = .obj id → ¬ X id → g b = .obj id
 tok : ∀ b n t, T t → t ∈ live' → g b = .row n (some t) → g' b = .row n (some t) ∧ w'.heap[b]? = w.heap[b]?
 liv : ∀ t, T t → t ∈ live' → t ∈ live
 tokU : ∀ b t, T t → t ∈ live' → g b = .uni t → g' b = .uni t ∧ w'.heap[b]? = w.heap[b]?
section
variable {P : Program} {N : Nat} {T T' : Nat → Prop} {g g' : Ghost} {w w' : World} {live live' : List Nat}
theorem QtX.rc {X : Nat → Prop} (h : QtX T X g w g' w' live live') (hd : Dom g w) {v : Value} {s : ASlot} (hs : RC g w live v s) (ht : ∀ t ∈ s.toks, T t) : RC g' w' live' v s := by
 cases s with
 | d x => exact h.toG.rv hd hs
 | own t es rows =>
  refine ⟨h.toG.rv hd hs.1, fun hl => ?_⟩
  have htb : T t := ht t (by simp [ASlot.toks])
  rcases hs.2 (h.liv t htb hl) with hf | ⟨b, cap, cur, e, rfl, hg, hh, h1, h2, h3⟩
  ·exact .inl hf
  ·obtain ⟨k1, k2⟩ := h.tok b _ t htb hl hg
   exact .inr ⟨b, cap, cur, e, rfl, k1, by grind, h1, h2, h3⟩
 | uni t es rows =>
  have htb : T t := ht t (by simp [ASlot.toks])
  exact ⟨hs.1, fun hl => (hs.2 (h.liv t htb hl)).mono (fun b hb => h.tokU b t htb hl hb) (fun _ _ => h.toG.rv hd)⟩
 | full es rows => exact ⟨h.toG.rv hd hs.1, hs.2⟩
 | rd cells =>
  obtain ⟨b, off, n, o, f, rfl, hg, hn, hc⟩ := hs
  obtain ⟨n', o', hg', hnn, hcell⟩ := h.toG.rowsKept hd b n o hg
  refine ⟨b, off, n', o', f, rfl, hg', by omega, fun j d hj => ?_⟩
  obtain ⟨c1, c2, c3⟩ := hc j d hj
  have : j < cells.length := (List.getElem?_eq_some_iff.1 hj).1
  exact ⟨c1, hcell _ _ (by omega) c2, h.toG.rv hd c3⟩
 | tup l => exact hs.elim
 | bad => trivial
theorem QtX.rs {X : Nat → Prop} (h : QtX T X g w g' w' live live') (hd : Dom g w) {v : Value} {s : ASlot} (hs : RS g w live v s) (ht : ∀ t ∈ s.toks, T t) : RS g' w' live' v s := by
 cases s with
 | tup l =>
  obtain ⟨vs, rfl, hl, hc⟩ := hs
  refine ⟨vs, rfl, hl, fun i u s hu hsl => h.rc hd (hc i u s hu hsl) ?_⟩
  intro t htm
  apply ht t
  cases s with
  | own t' es rows =>
   simp only [ASlot.toks, List.mem_singleton] at htm
   subst htm
   simp only [ASlot.toks, List.mem_flatMap]
   exact ⟨_, List.mem_of_getElem? hsl, by simp [qbx]⟩
  | uni t' es rows =>
   simp only [ASlot.toks, List.mem_singleton] at htm
   subst htm
   simp only [ASlot.toks, List.mem_flatMap]
   exact ⟨_, List.mem_of_getElem? hsl, by simp [qbx]⟩
  | tup l' => exact (hc i u _ hu hsl).elim
  | _ => grind [ASlot.toks]
 | _ => exact je (h.rc hd (qas hs (by simp)) ht)
theorem qgj : ∀ (l : List (Nat × AObj)) (os : List AObj), (jd os l).length = os.length
 | [], _ => rfl
 | (id, o) :: l, os => by rw [jd, qgj l, List.length_set]
theorem qam : ∀ (l : List (Nat × AObj)) (os : List AObj) (id : Nat), id ∉ l.map (·.1) → (jd os l)[id]? = os[id]?
 | [], _, _, _ => rfl
 | (i, o) :: l, os, id, h => by
  simp only [List.map_cons, List.mem_cons, not_or] at h
  rw [jd, qam l _ id h.2, List.getElem?_set_ne (fun he => h.1 he.symm)]
theorem qi9 : ∀ (l : List (Nat × AObj)) (os os' : List AObj) (id : Nat), os.length = os'.length → id ∈ l.map (·.1) ∨ os[id]? = os'[id]? → (jd os l)[id]? = (jd os' l)[id]?
 | [], _, _, _, _, h => by grind [jd]
 | (i, o) :: l, os, os', id, hl, h => by
  rw [jd, jd]
  refine qi9 l _ _ id (by simp [hl]) ?_
  by_cases hi : i = id
  ·subst hi
   right
   by_cases hlt : i < os.length
   ·rw [List.getElem?_set_self hlt, List.getElem?_set_self (by omega)]
   ·rw [List.getElem?_eq_none (by simp; omega), List.getElem?_eq_none (by simp; omega)]
  ·rcases h with h | h
   ·simp only [List.map_cons, List.mem_cons] at h
    rcases h with h | h
    ·exact (hi h.symm).elim
    ·exact .inl h
   ·right
    rw [List.getElem?_set_ne hi, List.getElem?_set_ne hi, h]
theorem qtb : ∀ (ι : List Nat) (l : List AObj) (os : List AObj), ι.Nodup → ι.length = l.length → ∀ (j id : Nat), ι[j]? = some id → id < os.length → (jd os (ι.zip l))[id]? = l[j]?
 | [], _, _, _, _, j, id, h, _ => by simp at h
 | x :: ι, [], _, _, hl, _, _, _, _ => by grind
 | x :: ι, o :: l, os, hn, hl, j, id, hj, hlt => by
  rw [List.nodup_cons] at hn
  simp only [List.zip_cons_cons, jd]
  cases j with
  | zero =>
   simp at hj; subst hj
   rw [qam]
   ·grind
   ·intro h
    obtain ⟨p, hp, he⟩ := List.mem_map.1 h
    have := (List.of_mem_zip hp).1
    grind
  | succ j =>
   have := qtb ι l (os.set x o) hn.2 (by simpa using hl) j id (by simpa using hj) (by simpa using hlt)
   simpa using this
theorem SR.quietX {st : St} {a : Act} {ι : List Nat} {l : List AObj} (hs : SR N T g w st a) (h : QtX T (· ∈ ι) g w g' w' st.live live') (hT : ∀ t, T t → T' t) (hl : ∀ t ∈ live', T' t) (hn : ι.Nodup) (hlen : ι.length = l.length)
  (hlt : ∀ id ∈ ι, id < st.os.length)
  (ho : ∀ (j id : Nat) (o : AObj), ι[j]? = some id → l[j]? = some o → o ≠ .none → ObjIs g' w' live' id o)
  (hi : ∀ b b' id, id ∈ ι → g' b = .obj id → g' b' = .obj id → b = b')
  (hd : ∀ b id, id ∈ ι → g' b = .obj id → ∃ (j : Nat) (o : AObj), ι[j]? = some id ∧ l[j]? = some o ∧ o ≠ .none)
  (ht : ∀ o ∈ l, ∀ s ∈ o.cells, ∀ t ∈ s.toks, T' t) :
  SR N T' g' w' { st with os := jd st.os (ι.zip l), live := live' } a := by
 have hmem : ∀ id, id ∉ ι → id ∉ (ι.zip l).map (·.1) := by
  intro id hid h
  obtain ⟨p, hp, rfl⟩ := List.mem_map.1 h
  exact hid (List.of_mem_zip hp).1
 have hget : ∀ (j id : Nat), ι[j]? = some id → (jd st.os (ι.zip l))[id]? = l[j]? := fun j id hj => qtb ι l st.os hn hlen j id hj (hlt id (List.mem_of_getElem? hj))
 refine ⟨h.dom, hs.defers, hs.size, fun k v s hk => ?_, fun id o hoo hne => ?_, fun b b' id hb hb' => ?_, fun b id hb => ?_, ⟨hl, fun k s hk t ht => ?_, fun id o hoo s hs' t htt => ?_⟩⟩
 ·obtain ⟨h1, h2⟩ := hs.slots k v s hk
  exact ⟨fun hv => h.rs hs.dom (h1 hv) (hs.wf.fr k s (by grind)), h2⟩
 ·by_cases hid : id ∈ ι
  ·grind [List.mem_iff_getElem?, id]
  ·simp only [qam _ _ _ (hmem id hid)] at hoo
   rcases hs.objs id o hoo hne with ⟨b, hb, hr⟩ | ⟨hv, hno⟩
   case inr => exact .inr ⟨hv, fun b hb => hno b (h.objB b id hb hid)⟩
   refine .inl ⟨b, (h.toG.obj b id (hs.dom.lt_obj hb) hb).1, ?_⟩
   cases o with
   | none => grind
   | row cells =>
    obtain ⟨c, e, hh, hl', hc⟩ := hr
    refine ⟨c, e, by rw [h.objH b id hb hid]; exact hh, hl', fun i s hs' => ?_⟩
    obtain ⟨v, v1, v2, v3⟩ := hc i s hs'
    exact ⟨v, v1, v2, h.rc hs.dom v3 (hs.wf.os id _ hoo s (List.mem_of_getElem? hs'))⟩
   | map es clock => exact MapIs.mono hr (h.toG.rowsKept hs.dom) (h.objH b id hb hid)
   | iter m since seen last => exact IterIs.mono (R := fun v => RC g w st.live v m) (R' := fun v => RC g' w' live' v m) hr (h.objH b id hb hid) (fun o hv => h.rc hs.dom hv (by
     grind [qpe]))
 ·by_cases hid : id ∈ ι
  ·grind
  ·exact hs.inj b b' id (h.objB b id hb hid) (h.objB b' id hb' hid)
 ·by_cases hid : id ∈ ι
  ·grind
  ·obtain ⟨o, hoo, hne⟩ := hs.ids b id (h.objB b id hb hid)
   grind [qam, id]
 ·exact hT t (hs.wf.fr k s hk t ht)
 ·by_cases hid : id ∈ ι
  ·grind [List.mem_iff_getElem?, id, List.mem_of_getElem?]
  ·simp only [qam _ _ _ (hmem id hid)] at hoo
   exact hT t (hs.wf.os id o hoo s hs' t htt)
end
section
variable {P : Program} {T : Nat → Prop} {g : Ghost} {w : World} {live : List Nat}
set_option maxHeartbeats 2000000 in
theorem xa7 {f : FuncId} {as fa : List ASlot} {r : ASlot} {os fo fo' : List AObj} {ι : List Nat} {H : List (Nat × Nat)} {R : List Nat} (hH : H = xu as fa ++ vm os ι fo) (hR : R = r.toks ++ xh fo') (hc : qg P f fa fo r fo') (hd : Dom g w) (hfit : Fits live as fa ι fo.length H) (hof : ObjFit os fo fo' ι)
  (base : Nat) (hfr : Fresh T base) (hfew : R.length ≤ 16)
  (hobj : ∀ (id : Nat) (o : AObj), os[id]? = some o → o ≠ .none → ObjIs g w live id o) (hinj : ∀ (b b' id : Nat), g b = .obj id → g b' = .obj id → b = b')
  (hids : ∀ (b id : Nat), g b = .obj id → ∃ o, os[id]? = some o ∧ o ≠ .none)
  {vs : List Value} (hvl : vs.length = as.length) (hv : ∀ (i : Nat) (v : Value) (s : ASlot), vs[i]? = some v → as[i]? = some s → RS g w live v s) :
  Calls P f vs.toArray w fun e w' => ∃ v g', e = .returned v ∧
   QtX T (· ∈ ι) g w g' w' live ((live.filter fun t => !(H.map (·.1)).contains t) ++ ((wq R base r).toks ++ xh (fo'.map (AObj.rt R base)))) ∧
   RS g' w' ((live.filter fun t => !(H.map (·.1)).contains t) ++ ((wq R base r).toks ++ xh (fo'.map (AObj.rt R base)))) v ((wq R base r).ren ι) ∧
   (∀ (j id : Nat) (o : AObj), ι[j]? = some id → ((fo'.map (AObj.rt R base)).map (AObj.ren ι))[j]? = some o → o ≠ .none → ObjIs g' w' ((live.filter fun t => !(H.map (·.1)).contains t) ++ ((wq R base r).toks ++ xh (fo'.map (AObj.rt R base)))) id o) ∧
   (∀ b b' id, id ∈ ι → g' b = .obj id → g' b' = .obj id → b = b') ∧
   (∀ b id, id ∈ ι → g' b = .obj id → ∃ (j : Nat) (o : AObj), ι[j]? = some id ∧ ((fo'.map (AObj.rt R base)).map (AObj.ren ι))[j]? = some o ∧ o ≠ .none) := by
 have hsub : ∀ {p : Nat × Nat}, p ∈ xu as fa → p ∈ H := fun h => hH ▸ List.mem_append_left _ h
 have hRr : ∀ u ∈ r.toks, u ∈ R := fun u h => hR ▸ List.mem_append_left _ h
 have hRo : ∀ u ∈ xh fo', u ∈ R := fun u h => hR ▸ List.mem_append_right _ h
 have hI : ∀ {t : Nat}, t ∈ (wq R base r).toks ++ xh (fo'.map (AObj.rt R base)) → base ≤ t ∧ t < base + R.length := fun h => qlu hR h
 obtain ⟨ml, mg⟩ := qnb hfit.all
 rw [List.length_map] at ml
 have hkl : fo.length ≤ ι.length := by rw [hof.len]; exact hof.le
 let κ := ι.take fo.length
 have hκn : κ.Nodup := hof.nd.sublist (List.take_sublist _ _)
 have hκl : κ.length = fo.length := by grind
 have hrk := qek H κ g w
 have hdom : Dom (xm H κ g) w := ⟨fun b hb => by unfold xm; rw [hd.1 b hb], hd.2.ghost fun b n h => by unfold xm; rw [h]⟩
 have hget : ∀ (i : Nat) (s : ASlot), fa[i]? = some s → (fa.map (ASlot.ren ι))[i]? = some (s.ren1 ι) := by
  intro i s h
  rw [List.getElem?_map, h, Option.map_some, q7z hkl (List.all_eq_true.1 hfit.inK s (List.mem_of_getElem? h))]
 have hargs : ∀ (i : Nat) (v : Value) (s : ASlot), vs[i]? = some v → fa[i]? = some s → RC (xm H κ g) w (vy fa ++ xh fo) v s := by
  intro i v s hvi hfi
  have hlt : i < as.length := by grind
  have hai := List.getElem?_eq_getElem hlt
  have hm := mg i _ _ hai (hget i s hfi)
  have hrs := hv i v _ hvi hai
  have hnp : s.inK fo.length = true := List.all_eq_true.1 hfit.inK s (List.mem_of_getElem? hfi)
  have dn : ∀ {v : Value} {y : D}, RV g w v (y.ren ι) → y.inK fo.length = true → RV (xm H κ g) w v y := fun h1 h2 => h1.down hof.nd hkl rfl h2
  generalize hA : as[i] = actual at hm hrs hai
  cases s with
  | d x => exact dn (qvi hrs hm) hnp
  | own t' es' rows' =>
   have hsl : ∀ {v : Value}, RV g w v (.sl es' (D.renR ι rows')) → RV (xm H κ g) w v (.sl es' rows') := fun h => dn (y := .sl es' rows') h (by simp only [D.inK]; exact hnp)
   have hrl : (D.renR ι rows').length = rows'.length := by rw [D.renR_map, List.length_map]
   cases actual with
   | own t es rows =>
    obtain ⟨rfl, he⟩ := hm
    have hmem := hsub (qlx i t es rows t' es rows' hai hfi)
    have hpair := qb8 hfit.nd1 hmem
    refine ⟨hsl (qbq hrs.1 ⟨.inl rfl, he⟩), fun _ => ?_⟩
    have hoo := qps (hrs.2 (hfit.lv _ hmem)) he
    unfold qxz at hoo ⊢
    rw [hrl] at hoo
    rcases hoo with hf | ⟨b, cap, cur, e, h1, h2, h3⟩
    ·grind
    ·refine .inr ⟨b, cap, cur, e, h1, ?_, h3⟩
     grind [xm]
   | full es rows =>
    refine ⟨hsl (qbq hrs.1 hm), fun _ => .inl ?_⟩
    have := qoj hrs.2 hm.2
    grind
   | d y =>
    obtain ⟨rfl, hnil⟩ := xmc hrs hm
    have : rows' = [] := by
     grind
    subst this
    exact ⟨.nilsl none 0 es' (fun _ => rfl), fun _ => .inl ⟨none, rfl⟩⟩
   | _ => exact hm.elim
  | uni t' es' rows' =>
   have hrl : (D.renR ι rows').length = rows'.length := by rw [D.renR_map, List.length_map]
   cases actual with
   | uni t es rows =>
    obtain ⟨rfl, rfl⟩ := hm
    have hmem := hsub (qpt i t es _ t' es rows' hai hfi)
    have hpair := qb8 hfit.nd1 hmem
    refine ⟨by rw [← hrl]; exact hrs.1, fun _ => ?_⟩
    have hoo := hrs.2 (hfit.lv _ hmem)
    simp only [D.inKR_iff, ASlot.inK] at hnp
    unfold UniOk at hoo ⊢
    rw [hrl] at hoo
    rcases hoo with ⟨ad, h1, h2⟩ | ⟨b, cap, cur, e, h1, h2, h3, h4, h5, h6, h7, h8⟩
    ·grind
    ·refine .inr ⟨b, cap, cur, e, h1, ?_, h3, h4, h5, h6, fun r hr => ?_, fun j d hj => ?_⟩
     ·grind [xm]
     ·have := h7 (r.map (D.ren ι)) (by rw [D.renR_map]; grind)
      grind
     ·obtain ⟨c1, u, c2, c3⟩ := h8 j (d.ren ι) (by grind [qke])
      grind [yz, List.mem_of_getElem?]
   | d y =>
    obtain ⟨rfl, hnil⟩ := xmd hrs hm
    have : rows' = [] := by
     grind
    subst this
    exact ⟨⟨none, 0, rfl⟩, fun _ => .inl ⟨none, rfl, rfl⟩⟩
   | _ => exact hm.elim
  | full es' rows' =>
   have hsl : ∀ {v : Value}, RV g w v (.sl es' (D.renR ι rows')) → RV (xm H κ g) w v (.sl es' rows') := fun h => dn (y := .sl es' rows') h (by simp only [D.inK]; exact hnp)
   have hrl : (D.renR ι rows').length = rows'.length := by rw [D.renR_map, List.length_map]
   cases actual with
   | full es rows =>
    refine ⟨hsl (qbq hrs.1 hm), ?_⟩
    have := qoj hrs.2 hm.2
    grind
   | d y =>
    obtain ⟨rfl, hnil⟩ := xgd hrs hm
    have : rows' = [] := by
     grind
    subst this
    exact ⟨.nilsl none 0 es' (fun _ => rfl), none, rfl⟩
   | _ => exact hm.elim
  | rd cs' =>
   cases actual with
   | rd cs =>
    obtain ⟨b, off, n, o, fn, rfl, hg, hn, hcc⟩ := xk6 (live := live) hrs hm
    obtain ⟨n', o', hg', hnn, hcell⟩ := hrk b n o hg
    have hll : (D.renL ι cs').length = cs'.length := by rw [D.renL_map, List.length_map]
    refine ⟨b, off, n', o', fn, rfl, hg', by omega, fun j d hj => ?_⟩
    obtain ⟨c1, c2, c3⟩ := hcc j (d.ren ι) (by grind [D.renL_map])
    have hjl : j < cs'.length := (List.getElem?_eq_some_iff.1 hj).1
    have hnpd : d.inK fo.length = true := (D.inKL_iff _ cs').1 hnp d (List.mem_of_getElem? hj)
    grind [yz]
   | _ => exact hm.elim
  | _ => grind [ASlot.inK]
 have hpos : ∀ (b id j : Nat), g b = .obj id → κ[j]? = some id → xm H κ g b = .obj j := by
  intro b id j hb hj
  unfold xm
  rw [hb]
  simp only [qc3 hκn hj]
 have hposr : ∀ (b j : Nat), xm H κ g b = .obj j → ∃ id, g b = .obj id ∧ κ[j]? = some id := by
  intro b j h
  unfold xm at h
  cases hb : g b with
  | out => grind
  | row n o => grind
  | uni t => grind
  | obj id =>
   rw [hb] at h
   simp only at h
   split at h
   ·rename_i j' hp
    cases h
    exact ⟨id, rfl, qfw hp⟩
   grind
 have hκι : ∀ (j id : Nat), κ[j]? = some id → ι[j]? = some id := by
  grind
 have hικ : ∀ (j id : Nat), j < fo.length → ι[j]? = some id → κ[j]? = some id := by
  grind
 have hobjs : ObjsOk (xm H κ g) w (vy fa ++ xh fo) fo := by
  refine ⟨fun j o hj hne => ?_, fun b b' j h h' => ?_, fun b j h => ?_⟩
  ·obtain ⟨id, c, hid, hcs, hm⟩ := qd8 hof.olds j o hj
   have hjl : j < fo.length := (List.getElem?_eq_some_iff.1 hj).1
   cases o with
   | none => grind
   | map es' c' =>
    cases c with
    | map es c0 =>
     obtain ⟨rfl, rfl⟩ : es = es' ∧ c0 = c' := hm
     rcases hobj id _ hcs (by simp) with ⟨b, hb, hr⟩ | ⟨hv, _⟩
     ·exact .inl ⟨b, hpos b id j hb (hικ j id hjl hid), MapIs.mono hr hrk rfl⟩
     grind
    | _ => exact hm.elim
   | iter m since seen last => cases c <;> exact hm.elim
   | row fs =>
    cases c with
    | none => exact hm.elim
    | map _ _ => exact hm.elim
    | iter _ _ _ _ => exact hm.elim
    | row cs =>
     rcases hobj id _ hcs (by simp) with ⟨b, hb, ca, e, hh, hl, hcc⟩ | ⟨hv, hno⟩
     case inr =>
      have hc0 : cs = [] := by grind
      subst hc0
      have hf0 : fs = [] := by
       cases fs with
       | nil => rfl
       | cons f fs => exact (show qfn [] ((f :: fs).map (ASlot.ren1 ι)) from hm).elim
      subst hf0
      refine .inr ⟨rfl, fun b hb => ?_⟩
      grind
     have hkeep := List.all_eq_true.1 hof.inK _ (List.mem_of_getElem? hj)
     simp only [AObj.inK, List.all_eq_true] at hkeep
     have key : ∀ (cs fs : List ASlot), qfn cs (fs.map (ASlot.ren1 ι)) → fs.length ≤ cs.length ∧ ∀ (i : Nat) (f : ASlot), fs[i]? = some f → ∃ s, cs[i]? = some s ∧ qyn s (f.ren1 ι) := by
      intro cs fs
      induction fs generalizing cs with
      | nil => simp
      | cons f fs ih =>
       intro h
       cases cs with
       | nil => exact h.elim
       | cons s cs =>
        obtain ⟨h1, h2⟩ := h
        grind
     obtain ⟨k1, k2⟩ := key cs fs hm
     refine .inl ⟨b, hpos b id j hb (hικ j id hjl hid), ca, e, hh, by omega, fun i f hf => ?_⟩
     obtain ⟨s, hs, hms⟩ := k2 i f hf
     obtain ⟨v, v1, v2, v3⟩ := hcc i s hs
     refine ⟨v, v1, v2, ?_⟩
     cases f with
     | d x =>
      have hk := hkeep _ (List.mem_of_getElem? hf)
      exact (qvi (je v3) hms).down hof.nd hkl rfl hk
     | bad => trivial
     | own t' es' rows' =>
      cases s with
      | own t es rows =>
       obtain ⟨rfl, he⟩ := hms
       have hk := hkeep _ (List.mem_of_getElem? hf)
       have hrl : (D.renR ι rows').length = rows'.length := by rw [D.renR_map, List.length_map]
       have hsl : ∀ {v : Value}, RV g w v (.sl es (D.renR ι rows')) → RV (xm H κ g) w v (.sl es rows') := fun h => h.down (y := .sl es rows') hof.nd hkl rfl (by simp only [D.inK]; exact hk)
       have hmem : (t, t') ∈ H := hH ▸ List.mem_append_right _ (qpu j id cs fs _ hid hj hcs (qlx i t es rows t' es rows' hs hf))
       have hpair := qb8 hfit.nd1 hmem
       refine ⟨hsl (qbq v3.1 ⟨.inl rfl, he⟩), fun _ => ?_⟩
       have hoo := qps (v3.2 (hfit.lv _ hmem)) he
       unfold qxz at hoo ⊢
       rw [hrl] at hoo
       rcases hoo with hf | ⟨b, cap, cur, e, h1, h2, h3⟩
       ·exact .inl hf
       ·exact .inr ⟨b, cap, cur, e, h1, by unfold xm; rw [h2]; simp only [hpair], h3⟩
      | _ => exact hms.elim
     | _ => cases s <;> exact hms.elim
  ·grind
  ·obtain ⟨id, h1, h2⟩ := hposr b j h
   have hjl : j < fo.length := by grind
   refine ⟨fo[j], List.getElem?_eq_getElem hjl, fun hn => ?_⟩
   obtain ⟨id', c, hid, hcs, hm⟩ := qd8 hof.olds j _ (List.getElem?_eq_getElem hjl)
   rw [hn] at hm
   cases c <;> exact hm.elim
 refine (hc _ w vs hdom (by omega) hargs hobjs).mono ?_
 rintro e w' ⟨v, g1, live1, rfl, hG, hdom1, hlive1, hrs1, hobjs1⟩
 rw [← hR] at hlive1
 have cOut : ∀ b, g b = .out → xm H κ g b = .out := fun b h => by grind [xm]
 have cObj : ∀ b id, g b = .obj id → id ∉ ι → xm H κ g b = .out := fun b id h hid => by
  grind [qpr, id, q7y, List.mem_of_mem_take, xm]
 have cNone : ∀ b n, g b = .row n none → xm H κ g b = .row n none := fun b n h => by grind [xm]
 have cSome : ∀ b n t, g b = .row n (some t) → xm H κ g b = .row n (k8 H t) := fun b n t h => by grind [xm]
 have cUniN : ∀ b t, g b = .uni t → k8 H t = none → xm H κ g b = .out := fun b t h hp => by grind [xm]
 have hfirst : ∀ (b id : Nat), g b = .obj id → id ∈ ι → ∃ j : Nat, κ[j]? = some id := by
  intro b id hb hid
  obtain ⟨j, hj⟩ := List.mem_iff_getElem?.1 hid
  by_cases hjl : j < fo.length
  ·grind
  ·exfalso
   have hm : id ∈ ι.drop fo.length := by
    refine List.mem_iff_getElem?.2 ⟨j - fo.length, ?_⟩
    grind
   obtain ⟨o, h1, h2⟩ := hids b id hb
   rw [hof.news id hm] at h1
   grind
 let ren : Nat → Option Nat := fun u => if u ∈ R then some (base + R.idxOf u) else none
 let G' := qkd H ι w.heap.size ren g g1
 have bOut : ∀ b, b < w.heap.size → g b = .out → G' b = .out := fun b hb h => by simp only [G']; simp_all [qkd, if_pos]
 have bObj : ∀ b id, b < w.heap.size → g b = .obj id → G' b = .obj id := fun b id hb h => by simp only [G']; simp_all [qkd, if_pos]
 have bNone : ∀ b n, b < w.heap.size → g b = .row n none → G' b = .row n none := fun b n hb h => by simp only [G']; simp_all [qkd, if_pos]
 have bKeep : ∀ b n t, b < w.heap.size → g b = .row n (some t) → k8 H t = none → G' b = .row n (some t) := fun b n t hb h hp => by simp only [G']; simp_all [qkd, if_pos]
 have bKeepU : ∀ b t, b < w.heap.size → g b = .uni t → k8 H t = none → G' b = .uni t := fun b t hb h hp => by simp only [G']; simp_all [qkd, if_pos]
 have bUp : ∀ b t t', b < w.heap.size → g b = .uni t → k8 H t = some t' → G' b = upR ι ren (g1 b) := fun b t t' hb h hp => by simp only [G']; simp_all [qkd, if_pos]
 have bNew : ∀ b, ¬ b < w.heap.size → G' b = upR ι ren (g1 b) := fun b hb => by simp only [G']; unfold qkd; grind
 have hid1 : ∀ b j, g1 b = .obj j → j < ι.length := by
  intro b j h
  obtain ⟨o, h1, _⟩ := hobjs1.ids b j h
  rw [hof.len]
  grind
 have oUp : ∀ b j, g1 b = .obj j → G' b = .obj (ι.getD j 0) := by
  intro b j h
  have hj := hid1 b j h
  have hij : ι[j]? = some (ι.getD j 0) := by grind
  by_cases hb : b < w.heap.size
  ·cases hg : g b with
   | out => rw [(hG.out b hb (cOut b hg)).2] at h; cases h
   | row n o =>
    cases o with
    | none => rw [(hG.rowN b n hb (cNone b n hg)).2] at h; cases h
    | some t =>
     have hcb := cSome b n t hg
     cases hp : k8 H t with
     | none => rw [hp] at hcb; rw [(hG.rowN b n hb hcb).2] at h; cases h
     | some t' =>
      rw [hp] at hcb
      obtain ⟨n', o', q1, _⟩ := hG.rowS b n t' hb hcb
      grind
   | uni t =>
    cases hp : k8 H t with
    | none => rw [(hG.out b hb (cUniN b t hg hp)).2] at h; cases h
    | some t' => grind [upR]
   | obj id =>
    by_cases hid : id ∈ ι
    ·obtain ⟨j', hj'⟩ := hfirst b id hg hid
     have := (hG.obj b j' hb (hpos b id j' hg hj')).1
     grind
    ·rw [(hG.out b hb (cObj b id hg hid)).2] at h; cases h
  grind [upR]
 have upObj : ∀ (r : Role) (id : Nat), upR ι ren r = .obj id → ∃ j : Nat, ι[j]? = some id ∧ r = .obj j := by
  intro r id h
  cases r with
  | out => cases h
  | row n o => cases h
  | uni u => grind [upR]
  | obj j =>
   simp only [upR] at h
   grind
 have oBack : ∀ (b id : Nat), G' b = .obj id → id ∈ ι → ∃ j : Nat, ι[j]? = some id ∧ g1 b = .obj j := by
  intro b id h hid
  by_cases hb : b < w.heap.size
  ·cases hgb : g b with
   | out => grind
   | row n o =>
    cases o with
    | none => grind
    | some t =>
     simp only [G'] at h
     unfold qkd at h
     rw [if_pos hb, hgb] at h
     simp only at h
     split at h
     ·split at h <;> cases h
     grind
   | uni t =>
    cases hp : k8 H t with
    | none => grind
    | some t' =>
     grind
   | obj id2 =>
    have := bObj b id2 hb hgb
    rw [h] at this
    cases this
    obtain ⟨j, hj⟩ := hfirst b id hgb hid
    exact ⟨j, hκι j id hj, (hG.obj b j hb (hpos b id j hgb hj)).1⟩
  grind
 have hrow : RowsKept g1 w' G' w' := by
  intro b n o h
  simp only [G']
  unfold qkd
  by_cases hb : b < w.heap.size
  ·rw [if_pos hb]
   cases hg : g b with
   | out => rw [(hG.out b hb (cOut b hg)).2] at h; cases h
   | uni t =>
    cases hp : k8 H t with
    | none => rw [(hG.out b hb (cUniN b t hg hp)).2] at h; cases h
    | some t' =>
     simp only [hp, h]
     exact ⟨_, _, rfl, Nat.le_refl _, fun _ _ _ h => h⟩
   | obj id =>
    exfalso
    by_cases hid : id ∈ ι
    ·obtain ⟨j, hj⟩ := hfirst b id hg hid
     have := (hG.obj b j hb (hpos b id j hg hj)).1
     grind
    ·rw [(hG.out b hb (cObj b id hg hid)).2] at h; cases h
   | row m om =>
    cases om with
    | none =>
     rw [(hG.rowN b m hb (cNone b m hg)).2] at h
     grind
    | some t =>
     cases hp : k8 H t with
     | none =>
      have hcb := cSome b m t hg
      rw [hp] at hcb
      rw [(hG.rowN b m hb hcb).2] at h
      grind
     | some t' =>
      grind
  ·rw [if_neg hb, h]
   exact ⟨_, _, rfl, Nat.le_refl _, fun _ _ _ h => h⟩
 have hown : ∀ b n u, g1 b = .row n (some u) → G' b = .row n (ren u) := by
  intro b n u h
  simp only [G']
  unfold qkd
  by_cases hb : b < w.heap.size
  ·rw [if_pos hb]
   cases hg : g b with
   | out => rw [(hG.out b hb (cOut b hg)).2] at h; cases h
   | uni t =>
    cases hp : k8 H t with
    | none => rw [(hG.out b hb (cUniN b t hg hp)).2] at h; cases h
    | some t' => simp only [hp, h]; rfl
   | obj id =>
    exfalso
    by_cases hid : id ∈ ι
    ·grind
    ·rw [(hG.out b hb (cObj b id hg hid)).2] at h; cases h
   | row m om =>
    cases om with
    | none => rw [(hG.rowN b m hb (cNone b m hg)).2] at h; cases h
    | some t =>
     cases hp : k8 H t with
     | none =>
      have hcb := cSome b m t hg
      rw [hp] at hcb
      rw [(hG.rowN b m hb hcb).2] at h
      cases h
     | some t' => grind
  ·rw [if_neg hb, h]; rfl
 have hownU : ∀ b u u', g1 b = .uni u → ren u = some u' → G' b = .uni u' := by
  intro b u u' h hu
  by_cases hb : b < w.heap.size
  ·cases hg : g b with
   | out => rw [(hG.out b hb (cOut b hg)).2] at h; cases h
   | uni t =>
    cases hp : k8 H t with
    | none => rw [(hG.out b hb (cUniN b t hg hp)).2] at h; cases h
    | some t' => grind [upR]
   | obj id =>
    exfalso
    by_cases hid : id ∈ ι
    ·obtain ⟨j, hj⟩ := hfirst b id hg hid
     have := (hG.obj b j hb (hpos b id j hg hj)).1
     rw [h] at this; cases this
    ·rw [(hG.out b hb (cObj b id hg hid)).2] at h; cases h
   | row m om =>
    exfalso
    cases om with
    | none => rw [(hG.rowN b m hb (cNone b m hg)).2] at h; cases h
    | some t =>
     have hcb := cSome b m t hg
     cases hp : k8 H t with
     | none =>
      rw [hp] at hcb
      rw [(hG.rowN b m hb hcb).2] at h
      cases h
     | some t' =>
      rw [hp] at hcb
      obtain ⟨n', o', q1, _⟩ := hG.rowS b m t' hb hcb
      grind
  ·rw [bNew b hb, h]; simp only [upR, hu]
 have hup : ∀ {u : Value} {x : D}, RV g1 w' u x → RV G' w' u (x.ren ι) := fun h => h.up hrow oUp
 have hrc : ∀ {u : Value} {s : ASlot}, RC g1 w' live1 u s → (∀ t ∈ s.toks, t ∈ R) → RC G' w' ((live.filter fun t => !(H.map (·.1)).contains t) ++ ((wq R base r).toks ++ xh (fo'.map (AObj.rt R base)))) u ((renT R base s).ren1 ι) := by
  intro u s h ht
  have hsl : ∀ {es : Nat} {rows : List (List D)}, RV g1 w' u (.sl es rows) → RV G' w' u (.sl es (D.renR ι rows)) := fun h => hup h
  have hrl : ∀ rows : List (List D), (D.renR ι rows).length = rows.length := fun rows => by rw [D.renR_map, List.length_map]
  cases s with
  | d x => exact hup h
  | own t es rows =>
   have htm : t ∈ R := ht t (by simp [ASlot.toks])
   refine ⟨hsl h.1, fun _ => ?_⟩
   unfold qxz
   rw [hrl]
   rcases h.2 (hlive1 t htm) with hf | ⟨b, cap, cur, e, h1, h2, h3⟩
   ·exact .inl hf
   ·refine .inr ⟨b, cap, cur, e, h1, ?_, h3⟩
    rw [hown b _ t h2]
    simp only [ren, if_pos htm]
  | uni t es rows =>
   have htm : t ∈ R := ht t (by simp [ASlot.toks])
   refine ⟨by simp only [hrl]; exact h.1, fun _ => ?_⟩
   rcases h.2 (hlive1 t htm) with ⟨ad, h1, h2⟩ | ⟨b, cap, cur, e, h1, h2, h3, h4, h5, h6, h7, h8⟩
   ·refine .inl ⟨ad, h1, by rw [h2]; rfl⟩
   ·refine .inr ⟨b, cap, cur, e, by rw [hrl]; exact h1, ?_, h3, by rw [hrl]; exact h4, h5, h6, fun q hq => ?_, fun j d hj => ?_⟩
    ·exact hownU b t _ h2 (by simp only [ren, if_pos htm])
    ·rw [D.renR_map] at hq
     obtain ⟨q0, hq0, rfl⟩ := List.mem_map.1 hq
     simpa using h7 q0 hq0
    ·rw [qke, List.getElem?_map, Option.map_eq_some_iff] at hj
     obtain ⟨d0, hj0, rfl⟩ := hj
     obtain ⟨c1, u', c2, c3⟩ := h8 j d0 hj0
     exact ⟨by rw [yz]; exact c1, u', c2, hup c3⟩
  | full es rows => exact ⟨hsl h.1, by simp only [hrl]; exact h.2⟩
  | rd cells =>
   obtain ⟨b, off, n, o, fn, rfl, hg, hn, hcc⟩ := h
   obtain ⟨n', o', hg', hnn, hcell⟩ := hrow b n o hg
   have hll : (D.renL ι cells).length = cells.length := by rw [D.renL_map, List.length_map]
   refine ⟨b, off, n', o', fn, rfl, hg', by omega, fun j d hj => ?_⟩
   rw [D.renL_map, List.getElem?_map, Option.map_eq_some_iff] at hj
   obtain ⟨d0, hj0, rfl⟩ := hj
   obtain ⟨c1, c2, c3⟩ := hcc j d0 hj0
   have hjl : j < cells.length := (List.getElem?_eq_some_iff.1 hj0).1
   exact ⟨by rw [yz]; exact c1, hcell _ _ (by omega) c2, hup c3⟩
  | tup l => exact h.elim
  | bad => trivial
 have hqx : QtX T (· ∈ ι) g w G' w' live ((live.filter fun t => !(H.map (·.1)).contains t) ++ ((wq R base r).toks ++ xh (fo'.map (AObj.rt R base)))) := by
  refine ⟨⟨hG.os, hG.tape, hG.output, hG.size, fun b hb h => ⟨(hG.out b hb (cOut b h)).1, bOut b hb h⟩, fun b n hb h => ⟨(hG.rowN b n hb (cNone b n h)).1, bNone b n hb h⟩, fun b n t hb h => ?_, fun b id hb h => ⟨bObj b id hb h, ?_⟩⟩, ⟨fun b hb => ?_, hd.2.same fun b n hb h => ⟨(hG.rowN b n hb (cNone b n h)).1, bNone b n hb h⟩⟩, fun b id h hid => ?_, fun b id h hid => ?_, fun b n t htb htl h => ?_, fun t htb htl => ?_, fun b t htb htl h => ?_⟩
  ·cases hp : k8 H t with
   | none =>
    have hcb := cSome b n t h
    rw [hp] at hcb
    obtain ⟨h1, _⟩ := hG.rowN b n hb hcb
    exact ⟨n, some t, bKeep b n t hb h hp, Nat.le_refl _, fun i u _ hu => by rw [ky h1]; exact hu⟩
   | some t' =>
    have hcb := cSome b n t h
    rw [hp] at hcb
    obtain ⟨n', o', q1, q2, q3⟩ := hG.rowS b n t' hb hcb
    refine ⟨n', o'.bind ren, ?_, q2, q3⟩
    simp only [G']
    unfold qkd
    rw [if_pos hb, h]
    simp only [hp, q1]
  ·by_cases hid : id ∈ ι
   ·obtain ⟨j, hj⟩ := hfirst b id h hid
    exact (hG.obj b j hb (hpos b id j h hj)).2
   ·exact Nat.le_of_eq (ji (hG.out b hb (cObj b id h hid)).1).symm
  ·simp only [G']
   unfold qkd
   have := hG.size
   rw [if_neg (by omega), hdom1.1 b hb]
   rfl
  ·exact (hG.out b (hd.lt_obj h) (cObj b id h hid)).1
  ·by_cases hb : b < w.heap.size
   ·cases hgb : g b with
    | out => rw [bOut b hb hgb] at h; cases h
    | row n o =>
     cases o with
     | none => rw [bNone b n hb hgb] at h; cases h
     | some t =>
      simp only [G'] at h
      unfold qkd at h
      rw [if_pos hb, hgb] at h
      simp only at h
      split at h
      ·split at h <;> cases h
      omega
    | uni t =>
     cases hp : k8 H t with
     | none => rw [bKeepU b t hb hgb hp] at h; cases h
     | some t' =>
      rw [bUp b t t' hb hgb hp] at h
      obtain ⟨j, hij, _⟩ := upObj _ _ h
      exact (hid (List.mem_of_getElem? hij)).elim
    | obj id2 =>
     have := bObj b id2 hb hgb
     rw [h] at this
     exact this.symm
   ·rw [bNew b hb] at h
    obtain ⟨j, hij, _⟩ := upObj _ _ h
    exact (hid (List.mem_of_getElem? hij)).elim
  ·have hb := hd.lt_row h
   have hnt : t ∉ H.map (·.1) := by
    rcases List.mem_append.1 htl with h1 | h1
    ·simpa using (List.mem_filter.1 h1).2
    ·exfalso
     have := hI h1
     exact hfr t htb ⟨by omega, by omega⟩
   have hp : k8 H t = none := by
    cases hp : k8 H t with
    | none => rfl
    | some t' => exact (hnt (List.mem_map.2 ⟨(t, t'), qlv hp, rfl⟩)).elim
   have hcb := cSome b n t h
   rw [hp] at hcb
   exact ⟨bKeep b n t hb h hp, (hG.rowN b n hb hcb).1⟩
  ·rcases List.mem_append.1 htl with h1 | h1
   ·exact (List.mem_filter.1 h1).1
   ·exfalso
    have := hI h1
    exact hfr t htb ⟨by omega, by omega⟩
  ·have hb := hd.lt_uni h
   have hnt : t ∉ H.map (·.1) := by
    rcases List.mem_append.1 htl with h1 | h1
    ·simpa using (List.mem_filter.1 h1).2
    ·exfalso
     have := hI h1
     exact hfr t htb ⟨by omega, by omega⟩
   have hp : k8 H t = none := by
    cases hp : k8 H t with
    | none => rfl
    | some t' => exact (hnt (List.mem_map.2 ⟨(t, t'), qlv hp, rfl⟩)).elim
   exact ⟨bKeepU b t hb h hp, (hG.out b hb (cUniN b t h hp)).1⟩
 refine ⟨v, G', rfl, hqx, ?_, fun j id o hj hjo hne => ?_, fun b b' id hid h h' => ?_, fun b id hid h => ?_⟩
 ·have hnoι : ι = [] → ∀ b j, g1 b ≠ .obj j := fun h0 b j h => by have := hid1 b j h; rw [h0] at this; simp at this
  have fin1 : ∀ {u : Value} {s : ASlot}, RC g1 w' live1 u s → (∀ l, s ≠ .tup l) → (∀ t ∈ s.toks, t ∈ R) → RC G' w' ((live.filter fun t => !(H.map (·.1)).contains t) ++ ((wq R base r).toks ++ xh (fo'.map (AObj.rt R base)))) u ((renT R base s).ren ι) := by
   intro u s h hnt ht
   cases hι : ι with
   | cons x l =>
    have := hrc h ht
    rw [hι] at this
    cases s <;> first | exact this | exact (hnt _ rfl).elim
   | nil =>
    show RC G' w' _ u (renT R base s)
    have hno := hnoι hι
    cases s with
    | d x => exact RV.mono_noObj h hrow hno
    | own t es rows =>
     have htm : t ∈ R := ht t (by simp [ASlot.toks])
     refine ⟨RV.mono_noObj h.1 hrow hno, fun _ => ?_⟩
     rcases h.2 (hlive1 t htm) with hf | ⟨b, cap, cur, e, h1, h2, h3⟩
     ·exact .inl hf
     ·refine .inr ⟨b, cap, cur, e, h1, ?_, h3⟩
      rw [hown b _ t h2]
      simp only [ren, if_pos htm]
    | uni t es rows =>
     have htm : t ∈ R := ht t (by simp [ASlot.toks])
     refine ⟨h.1, fun _ => ?_⟩
     rcases h.2 (hlive1 t htm) with h1 | ⟨b, cap, cur, e, h1, h2, h3, h4, h5, h6, h7, h8⟩
     ·exact .inl h1
     ·refine .inr ⟨b, cap, cur, e, h1, ?_, h3, h4, h5, h6, h7, fun j d hj => ?_⟩
      ·exact hownU b t _ h2 (by simp only [ren, if_pos htm])
      ·obtain ⟨c1, u', c2, c3⟩ := h8 j d hj
       exact ⟨c1, u', c2, RV.mono_noObj c3 hrow hno⟩
    | full es rows => exact ⟨RV.mono_noObj h.1 hrow hno, h.2⟩
    | rd cells =>
     obtain ⟨b, off, n, o, fn, rfl, hg, hn, hcc⟩ := h
     obtain ⟨n', o', hg', hnn, hcell⟩ := hrow b n o hg
     refine ⟨b, off, n', o', fn, rfl, hg', by omega, fun j d hj => ?_⟩
     obtain ⟨c1, c2, c3⟩ := hcc j d hj
     have hjl : j < cells.length := (List.getElem?_eq_some_iff.1 hj).1
     exact ⟨c1, hcell _ _ (by omega) c2, RV.mono_noObj c3 hrow hno⟩
    | tup l => exact (hnt l rfl).elim
    | bad => trivial
  cases r with
  | tup l =>
   obtain ⟨us, rfl, hl, hcs⟩ := hrs1
   have htk : ∀ (i : Nat) (u : Value) (s0 : ASlot), us[i]? = some u → l[i]? = some s0 → (∀ l', s0 ≠ .tup l') ∧ ∀ t ∈ s0.toks, t ∈ (ASlot.tup l).toks := by
    intro i u s0 hu hs0
    have hrc0 := hcs i u s0 hu hs0
    cases s0 with
    | own t' es rows =>
     refine ⟨by simp, fun t htt => ?_⟩
     simp only [ASlot.toks, List.mem_singleton] at htt
     subst htt
     simp only [ASlot.toks, List.mem_flatMap]
     exact ⟨_, List.mem_of_getElem? hs0, by simp [qbx]⟩
    | uni t' es rows =>
     refine ⟨by simp, fun t htt => ?_⟩
     simp only [ASlot.toks, List.mem_singleton] at htt
     subst htt
     simp only [ASlot.toks, List.mem_flatMap]
     exact ⟨_, List.mem_of_getElem? hs0, by simp [qbx]⟩
    | tup l' => exact hrc0.elim
    | _ => exact ⟨by simp, fun t htt => by simp [ASlot.toks] at htt⟩
   cases hι : ι with
   | nil =>
    refine ⟨us, rfl, by simp [hl], fun i u s hu hs' => ?_⟩
    simp only [List.getElem?_map, Option.map_eq_some_iff] at hs'
    obtain ⟨s0, hs0, rfl⟩ := hs'
    obtain ⟨q1, q2⟩ := htk i u s0 hu hs0
    have := fin1 (hcs i u s0 hu hs0) q1 fun t ht => hRr t (q2 t ht)
    rw [hι] at this
    exact this
   | cons x κ' =>
    refine ⟨us, rfl, by simp [hl], fun i u s hu hs' => ?_⟩
    simp only [List.getElem?_map, Option.map_eq_some_iff] at hs'
    obtain ⟨s1, ⟨s0, hs0, rfl⟩, rfl⟩ := hs'
    obtain ⟨q1, q2⟩ := htk i u s0 hu hs0
    have := hrc (hcs i u s0 hu hs0) fun t ht => hRr t (q2 t ht)
    rw [hι] at this
    exact this
  | _ => exact je (fin1 (qas hrs1 (by simp)) (by simp) (fun t h => hRr t h))
 ·rw [List.getElem?_map, List.getElem?_map, Option.map_eq_some_iff] at hjo
  obtain ⟨o1, ho1, rfl⟩ := hjo
  rw [Option.map_eq_some_iff] at ho1
  obtain ⟨o0, ho0, rfl⟩ := ho1
  have hne0 : o0 ≠ .none := fun h => hne (by rw [h]; rfl)
  rcases hobjs1.objs j o0 ho0 hne0 with ⟨b, hb, hro⟩ | ⟨rfl, hno⟩
  case inr =>
   refine .inr ⟨rfl, fun b hb => ?_⟩
   obtain ⟨j', hj', h1⟩ := oBack b id hb (List.mem_of_getElem? hj)
   have := qc3 hof.nd hj
   rw [qc3 hof.nd hj'] at this
   cases this
   exact hno b h1
  have hij : ι.getD j 0 = id := by rw [List.getD_eq_getElem?_getD, hj]; rfl
  refine .inl ⟨b, by rw [oUp b j hb, hij], ?_⟩
  cases o0 with
  | none => exact hro.elim
  | map es clock => exact MapIs.mono hro hrow rfl
  | iter m since seen last =>
   refine IterIs.mono (R := fun v => RC g1 w' live1 v m) (R' := fun v => RC G' w' ((live.filter fun t => !(H.map (·.1)).contains t) ++ ((wq R base r).toks ++ xh (fo'.map (AObj.rt R base)))) v (m.ren1 ι)) hro rfl (fun o hv => ?_)
   cases m with
   | d x => exact hup hv
   | bad => trivial
   | own t es rows => cases hv.1
   | uni t es rows => obtain ⟨⟨_, _, h⟩, _⟩ := hv; cases h
   | full es rows => cases hv.1
   | rd cs => obtain ⟨_, _, _, _, _, h, _⟩ := hv; cases h
   | tup l => exact hv.elim
  | row cells =>
   obtain ⟨c, e, hh, hl, hcc⟩ := hro
   refine ⟨c, e, hh, by rw [List.length_map, List.length_map]; exact hl, fun i s hs => ?_⟩
   rw [List.getElem?_map, List.getElem?_map, Option.map_eq_some_iff] at hs
   obtain ⟨s1, hs1, rfl⟩ := hs
   rw [Option.map_eq_some_iff] at hs1
   obtain ⟨s0, hs0, rfl⟩ := hs1
   obtain ⟨u, u1, u2, u3⟩ := hcc i s0 hs0
   refine ⟨u, u1, u2, ?_⟩
   have hn : ∀ l, s0 ≠ .tup l := by rintro l rfl; exact u3.elim
   rw [xma hn]
   exact hrc u3 fun t ht => hRo t (qpq (List.mem_of_getElem? ho0) (List.mem_of_getElem? hs0) ht)
 ·obtain ⟨j, hj, h1⟩ := oBack b id h hid
  obtain ⟨j', hj', h1'⟩ := oBack b' id h' hid
  have := qc3 hof.nd hj
  rw [qc3 hof.nd hj'] at this
  cases this
  exact hobjs1.inj b b' j h1 h1'
 ·obtain ⟨j, hj, h1⟩ := oBack b id h hid
  obtain ⟨o, ho, hne⟩ := hobjs1.ids b j h1
  refine ⟨j, (o.rt R base).ren ι, hj, by rw [List.getElem?_map, List.getElem?_map, ho]; rfl, fun hn => hne ?_⟩
  cases o with
  | none => rfl
  | _ => simp [AObj.ren, AObj.rt] at hn
end
end Go.Abs
namespace Go.Abs
section
variable {P : Program} {N tb : Nat} {T : Nat → Prop} {g : Ghost} {w : World} {st : St} {a : Act} {oper : Oper}
def Next (T : Nat → Prop) (tb : Nat) : Nat → Prop := fun t => T t ∨ (tb ≤ t ∧ t < tb + 16)
def Does (P : Program) (N : Nat) (T : Nat → Prop) (tb : Nat) (g : Ghost) (w : World) (st : St) (a : Act) (oper : Oper) (out : Out) : Prop :=
 ∃ n v w' g', (execOp a.eval oper).run P w = .ok n w' ∧ (n = .value v ∨ (n = .skip ∧ v = undef)) ∧ G g w g' w' ∧
  SR N (Next T tb) g' w' { zu st out.wr with live := qn st.live out } a ∧ RS g' w' (qn st.live out) v out.v ∧ ∀ t ∈ out.v.toks, Next T tb t
theorem xd {live : List Nat} {o : Out} (h1 : o.cons = []) (h2 : o.iss = []) : qn live o = live := by
 simp [qn, h1, h2]
theorem qz {out : Out} (hs : SR N T g w st a) (h : yi P g w st a oper out.v) (hw : out.wr = none) (hc : out.cons = []) (hi : out.iss = []) (ht : ∀ t ∈ out.v.toks, T t) : Does P N T tb g w st a oper out := by
 obtain ⟨v, h1, h2⟩ := h
 refine ⟨_, v, w, g, h1, .inl rfl, G.refl g w, ?_, ?_, fun t htm => .inl (ht t htm)⟩
 ·rw [hw, xd hc hi]
  exact hs.quiet (Qt.refl _ hs.dom _) (fun _ h => .inl h) (fun t htm => .inl (hs.wf.live t htm))
 grind [xd]
theorem qhg {out : Out} (hs : SR N T g w st a) (h : ∃ v w' g', (execOp a.eval oper).run P w = .ok (.value v) w' ∧ Qt T g w g' w' st.live (qn st.live out) ∧ RS g' w' (qn st.live out) v out.v)
  (hw : out.wr = none) (hi : ∀ t ∈ out.iss, Next T tb t) (ht : ∀ t ∈ out.v.toks, Next T tb t) : Does P N T tb g w st a oper out := by
 obtain ⟨v, w', g', h1, h2, h3⟩ := h
 refine ⟨_, v, w', g', h1, .inl rfl, h2.toG, ?_, h3, ht⟩
 rw [hw]
 exact hs.quiet h2 (fun _ h => .inl h) (fun t htm => by
  rcases jf.1 htm with ⟨h, _⟩ | h
  ·exact .inl (hs.wf.live t h)
  grind)
theorem qe7 {out : Out} (h : ∃ v w' g', (execOp a.eval oper).run P w = .ok (.value v) w' ∧ G g w g' w' ∧ SR N T g' w' (zu st out.wr) a ∧ RS g' w' st.live v out.v)
  (hc : out.cons = []) (hi : out.iss = []) (ht : ∀ t ∈ out.v.toks, T t) : Does P N T tb g w st a oper out := by
 obtain ⟨v, w', g', h1, h2, h3, h4⟩ := h
 have hl : (zu st out.wr).live = st.live := by unfold zu; grind
 refine ⟨_, v, w', g', h1, .inl rfl, h2, ?_, ?_, fun t htm => .inl (ht t htm)⟩
 ·rw [xd hc hi, ← hl]
  exact h3.quiet (live' := (zu st out.wr).live) (Qt.refl _ h3.dom _) (fun _ h => .inl h) (fun t htm => .inl (h3.wf.live t htm))
 grind [xd]
theorem qyo (hs : SR N T g w st a) (n : Option Nat) (s : ASlot) : ∀ t ∈ (wm n st.os s).v.toks, T t := by
 intro t ht
 unfold wm at ht
 split at ht
 ·rename_i id off
  split at ht
  ·simp only at ht
   by_cases h : off < (qh st.os id).length
   ·have hg : (qh st.os id).getD off .bad = (qh st.os id)[off] := by grind
    rw [hg] at ht
    have hm : (qh st.os id)[off] ∈ qh st.os id := List.getElem_mem h
    unfold qh at h hm ht
    cases ho : st.os[id]? with
    | none => grind
    | some o =>
     simp only [ho] at hm ht
     exact hs.wf.os id o ho _ hm t ht
   grind [qh, id, List.getD, ASlot.toks]
  grind [ASlot.toks]
 all_goals grind [ASlot.toks, Out.bad]
theorem qyp {l : List ASlot} {i t : Nat} (h : t ∈ (l.getD i .bad).toks) (hn : ∀ x ∈ l, ∀ m, x ≠ .tup m) : t ∈ (ASlot.tup l).toks := by
 by_cases hi : i < l.length
 ·have hg : l.getD i .bad = l[i] := by grind
  rw [hg] at h
  simp only [ASlot.toks, List.mem_flatMap]
  refine ⟨l[i], List.getElem_mem hi, ?_⟩
  cases hx : l[i] <;> rw [hx] at h <;> simp [ASlot.toks] at h
  all_goals grind [qbx, List.getElem_mem]
 grind [List.getD, ASlot.toks]
theorem qnd {mx : Bool} {x y : Operand} {x' y' : Opd} {ts : Array TypeId} (ho : (oper.op = .call { callee := .builtin .min, args := #[x, y], argTypes := ts } ∧ mx = false) ∨ (oper.op = .call { callee := .builtin .max, args := #[x, y], argTypes := ts } ∧ mx = true))
  (hx : qp x = some x') (hy : qp y = some y') (hs : SR N T g w st a) (hob : (sem tb (.minmax mx x' y') st).ob) : yi P g w st a oper (sem tb (.minmax mx x' y') st).v := by
 simp only [sem] at hob ⊢
 cases h1 : x'.get st.fr with
 | d p =>
  cases p with
  | int k1 n =>
   cases h2 : y'.get st.fr with
   | d q =>
    cases q with
    | int k2 m =>
     simp only [h1, h2] at hob ⊢
     obtain ⟨o1, o2, rfl⟩ := hob
     have r1 := xc hs hx o1
     have r2 := xc hs hy o2
     rw [h1] at r1; rw [h2] at r2
     have e1 := vg (wj r1)
     have e2 := vg (wj r2)
     rcases ho with ⟨ho, rfl⟩ | ⟨ho, rfl⟩
     ·exact ⟨_, by simp [execOp, ho, resolve, invoke, builtin, Builtin.min_, Builtin.min2, e1, e2], .int _ _⟩
     ·exact ⟨_, by simp [execOp, ho, resolve, invoke, builtin, Builtin.max_, Builtin.max2, e1, e2], .int _ _⟩
    | _ => grind [Out.bad]
   | _ => grind [Out.bad]
  | _ => grind [Out.bad]
 | _ => grind [Out.bad]
theorem qi0 {t kt et : TypeId} {x k v : Operand} {x' k' v' : Opd} {kd : KD} (ho : oper.op = .mapUpdate t x k v ∨ oper.op = .insert t x k v) (ht : P.underlying t = some (.map kt et)) (hx : qp x = some x') (hk : qp k = some k') (hv : qp v = some v')
  (hkd : kdOf P kt = some kd) (hs : SR N T g w st a) (hob : (sem tb (.mapUpdate kd x' k' v') st).ob) : Does P N T tb g w st a oper (sem tb (.mapUpdate kd x' k' v') st) := by
 obtain ⟨w', q1, q2, q3⟩ := qsi ho ht hx hk hv hkd hs hob
 have hcons : (sem tb (.mapUpdate kd x' k' v') st).cons = [] ∧ (sem tb (.mapUpdate kd x' k' v') st).iss = [] ∧ (sem tb (.mapUpdate kd x' k' v') st).v = .bad := by
  simp only [sem, xy]
  split <;> exact ⟨rfl, rfl, rfl⟩
 have hl : (zu st (sem tb (.mapUpdate kd x' k' v') st).wr).live = st.live := by unfold zu; grind
 refine ⟨_, undef, w', g, q1, .inr ⟨rfl, rfl⟩, q2, ?_, ?_, ?_⟩
 ·rw [xd hcons.1 hcons.2.1, ← hl]
  exact q3.quiet (live' := (zu st (sem tb (.mapUpdate kd x' k' v') st).wr).live) (Qt.refl _ q3.dom _) (fun _ h => .inl h) (fun t htm => .inl (q3.wf.live t htm))
 ·rw [hcons.2.2]; trivial
 grind [ASlot.toks]
set_option linter.unusedVariables false in
theorem xa8 {uu oo : Bool} {back : Nat} {o : SOp} (hc : xa P uu oo back oper.op = some o) (hs : SR N T g w st a) (hfr : Fresh T tb) (hob : (sem tb o st).ob) (hlv : ∀ t ∈ (sem tb o st).cons, t ∈ st.live) : Does P N T tb g w st a oper (sem tb o st) := by
 generalize hop : oper.op = op at hc
 cases op with
 | move x =>
  simp only [xa, Option.map_eq_some_iff] at hc
  obtain ⟨y, hx, rfl⟩ := hc
  exact qz hs (qx4 (.inl hop) hx hs hob) rfl rfl rfl (qe5 hs hx (by first | exact hob | exact hob.1))
 | assign x =>
  simp only [xa, Option.map_eq_some_iff] at hc
  obtain ⟨y, hx, rfl⟩ := hc
  exact qz hs (qx4 (.inr hop) hx hs hob) rfl rfl rfl (qe5 hs hx (by first | exact hob | exact hob.1))
 | pick c x y =>
  simp only [xa] at hc
  grind [q7m, qz, sem, Out.bad, ASlot.toks]
 | box t x =>
  simp only [xa, Option.map_eq_some_iff] at hc
  obtain ⟨y, hx, rfl⟩ := hc
  exact qe7 (xgb hop hx hs hob) rfl rfl (by simp [sem, ASlot.toks])
 | alloc t =>
  simp only [xa, Option.map_eq_some_iff] at hc
  obtain ⟨z, hz, rfl⟩ := hc
  exact qe7 (q7s hop hz hs hob) rfl rfl (by simp [sem, ASlot.toks])
 | build t parts =>
  simp only [xa] at hc
  split at hc
  ·rename_i z ps fs h1 h2 h3
   split at hc
   ·rename_i h4; cases hc
    exact qz hs (qpd hop h1 h2 (.inl ⟨fs, h3, h4⟩) hs hob) rfl rfl rfl (by simp [sem, ASlot.toks])
   grind
  ·rename_i z ps n e h1 h2 h3
   split at hc
   ·rename_i h4; cases hc
    exact qz hs (qpd hop h1 h2 (.inr ⟨n, e, h3, h4⟩) hs hob) rfl rfl rfl (by simp [sem, ASlot.toks])
   grind
  grind
 | buildSlice t len parts =>
  simp only [xa] at hc
  split at hc
  ·rename_i e ht
   split at hc
   ·rename_i z ps i h1 h2 h3
    split at hc
    ·rename_i h4; cases hc
     refine qhg hs (qpi hop ht h3 h1 h2 h4.1 h4.2.1 h4.2.2 hs hfr hob) ?_ ?_ ?_ <;> simp only [sem] <;> first | rfl | grind [ASlot.toks, Next]
    grind
   grind
  grind
 | load t x =>
  simp only [xa] at hc
  split at hc
  ·rename_i n y h1 h2
   cases hc
   refine qz hs (qs7 hop h1 h2 hs hob) ?_ ?_ ?_ (qyo hs n _) <;> simp only [sem, wm] <;> split <;> first | rfl | grind
  grind
 | store t x v =>
  simp only [xa] at hc
  split at hc
  ·rename_i n y z h1 h2 h3
   cases hc
   obtain ⟨w', q1, q2, q3⟩ := q7t hop h1 h2 h3 hs hob
   have hcons : (sem tb (.store n y z) st).cons = [] ∧ (sem tb (.store n y z) st).iss = [] ∧ (sem tb (.store n y z) st).v = .bad := by
    simp only [sem, w6]
    split
    ·split
     ·simp
     ·split <;> exact ⟨rfl, rfl, rfl⟩
    ·exact ⟨rfl, rfl, rfl⟩
   have hl : (zu st (sem tb (.store n y z) st).wr).live = st.live := by unfold zu; grind
   refine ⟨_, undef, w', g, q1, .inr ⟨rfl, rfl⟩, q2, ?_, ?_, ?_⟩
   ·rw [xd hcons.1 hcons.2.1, ← hl]
    exact q3.quiet (live' := (zu st (sem tb (.store n y z) st).wr).live) (Qt.refl _ q3.dom _) (fun _ h => .inl h) (fun t htm => .inl (q3.wf.live t htm))
   ·rw [hcons.2.2]; trivial
   grind [ASlot.toks]
  grind
 | nilCheck x =>
  simp only [xa, Option.map_eq_some_iff] at hc
  obtain ⟨y, hx, rfl⟩ := hc
  exact qz hs (qse hop hx hs hob) rfl rfl rfl (qe5 hs hx (by first | exact hob | exact hob.1))
 | binOp b t x y u =>
  have hbin : ∀ s1 s2 : ASlot, (binS b s1 s2).wr = none ∧ (binS b s1 s2).cons = [] ∧ (binS b s1 s2).iss = [] ∧ (binS b s1 s2).v.toks = [] := by
   intro s1 s2
   unfold binS
   split
   ·split <;> (refine ⟨rfl, rfl, rfl, ?_⟩) <;> first | rfl | (unfold qjx; split <;> rfl)
   ·refine ⟨rfl, rfl, rfl, ?_⟩
    unfold qm4
    split <;> rfl
   ·exact ⟨rfl, rfl, rfl, rfl⟩
  simp only [xa] at hc
  split at hc
  ·grind [qz, qx5, sem]
  ·grind [qz, qx5, sem]
  ·grind [qz, xat, sem, Out.bad, ASlot.toks]
  ·grind [sem, Out.bad]
  ·grind [qz, qpc, sem, Out.bad, ASlot.toks]
  ·grind [qz, qpc, sem, Out.bad, ASlot.toks]
  all_goals grind [qz, q2f, sem, Out.bad, ASlot.toks]
 | unOp b t x =>
  simp only [xa] at hc
  split at hc
  ·grind [qz, xau, sem, Out.bad, ASlot.toks]
  all_goals grind [qz, xav, sem, Out.bad, ASlot.toks]
 | convert s t x =>
  simp only [xa] at hc
  split at hc
  ·grind [qz, q7n, sem, Out.bad, ASlot.toks]
  ·grind [qz, q2e, sem, Out.bad, ASlot.toks]
  ·grind [qz, xaw, sem, Out.bad, ASlot.toks]
  ·rename_i e y h1 h2 h3
   split at hc
   ·rename_i h4
    cases hc
    cases hr : (y.get st.fr).rows with
    | some p =>
     grind [qz, xaz, sem, Out.bad, ASlot.toks]
    | none =>
     cases hr2 : qbp 1 st.os (y.get st.fr) with
     | some r => grind [qz, qvc, sem, Out.bad, ASlot.toks]
     | none => grind [sem, Out.bad]
   grind
  ·rename_i e y h1 h2 h3
   split at hc
   ·rename_i h4
    cases hc
    grind [qhg, xga, sem, Out.bad, ASlot.toks]
   grind
  grind
 | makeFunc fn first captured =>
  simp only [xa] at hc
  split at hc
  ·rename_i f' c' h1 h2
   cases hc
   exact qz hs (qyb hop h1 h2 hs hob) rfl rfl rfl (by simp [sem, ASlot.toks])
  grind
 | makeSlice t l c =>
  simp only [xa] at hc
  split at hc
  ·rename_i e ht
   split at hc
   ·rename_i z i l' c' h1 h2 h3 h4
    split at hc
    ·rename_i h5
     unfold mkSl at hc
     cases oo with
     | true =>
      simp only [if_true, Option.some.injEq] at hc
      subst hc
      refine qe7 (qpk hop ht h2 h1 h5.1 h5.2 h3 h4 hs hob) ?_ ?_ ?_ <;> simp only [sem] <;> split <;> first | rfl | simp [Out.bad, ASlot.toks]
     | false =>
      simp only [Bool.false_eq_true, if_false, Option.some.injEq] at hc
      subst hc
      refine qhg hs (qsg hop ht h2 h1 h5.1 h5.2 h3 h4 hs hfr hob) ?_ ?_ ?_ <;> simp only [sem] <;> split <;> first | rfl | (simp [Out.bad, ASlot.toks]; done) | grind [ASlot.toks, Next]
    grind
   grind
  grind
 | slice t x lo hi mx =>
  simp only [xa] at hc
  split at hc
  ·rename_i e x' lo' hi' mx' h1 h2 h3 h4 h5
   simp only [Option.map_eq_some_iff] at hc
   obtain ⟨i, hi', rfl⟩ := hc
   refine qz hs (q2k hop h1 hi' h2 h3 h4 h5 hs hob) ?_ ?_ ?_ ?_ <;> simp only [sem, qdu] <;> split <;> first | rfl | grind | (split <;> first | rfl | simp [Out.bad, ASlot.toks])
  ·rename_i x' lo' hi' h1 h2 h3 h4 h5
   cases hc
   have hmx : mx = none := by
    cases mx with
    | none => rfl
    | some m => simp_all
   subst hmx
   refine qz hs (qye hop h1 h2 h3 h4 hs hob) ?_ ?_ ?_ ?_ <;> simp only [sem, qaj] <;> split <;> first | rfl | simp [Out.bad, ASlot.toks]
  ·rename_i n e x' lo' hi' mx' h1 h2 h3 h4 h5
   split at hc
   ·rename_i i h7
    split at hc
    ·cases hc
     refine qz hs (qyc hop h1 h7 h2 h3 h4 h5 hs hob) ?_ ?_ ?_ ?_ <;> simp only [sem, wn] <;> split <;> first | rfl | simp [Out.bad, ASlot.toks]
    grind
   grind
  grind
 | fieldAddr t x f =>
  simp only [xa] at hc
  split at hc
  all_goals grind [qz, q2h, sem, Out.bad, ASlot.toks]
 | field t x f =>
  simp only [xa] at hc
  split at hc
  ·rename_i fs y h1 h2
   split at hc
   ·rename_i fl h3
    simp only [Option.map_eq_some_iff] at hc
    obtain ⟨n, hn, rfl⟩ := hc
    grind [qz, q2i, sem, Out.bad, ASlot.toks]
   grind
  grind
 | indexAddr t x i =>
  simp only [xa] at hc
  split at hc
  ·grind [qz, q2j, sem, Out.bad, ASlot.toks]
  all_goals grind [qz, qx8, sem, Out.bad, ASlot.toks]
 | index t x i =>
  simp only [xa] at hc
  split at hc
  ·grind [qz, qx9, sem, Out.bad, ASlot.toks]
  all_goals grind [qz, qya, sem, Out.bad, ASlot.toks]
 | extract x i =>
  simp only [xa, Option.map_eq_some_iff] at hc
  obtain ⟨y, hx, rfl⟩ := hc
  refine qz hs (qvb hop hx hs hob) ?_ ?_ ?_ ?_
  ·simp only [sem]; split <;> rfl
  ·simp only [sem]; split <;> rfl
  ·simp only [sem]; split <;> rfl
  ·simp only [sem] at hob ⊢
   split
   ·rename_i l hl
    simp only [hl] at hob
    intro t ht
    have hrs := xc hs hx hob.1
    rw [hl] at hrs
    obtain ⟨vs, _, hlen, hc⟩ := hrs
    have hmem := qyp ht (fun s hsl m hm => by
     obtain ⟨j, hj⟩ := List.getElem?_of_mem hsl
     have hlt : j < vs.length := by grind
     have := hc j _ s (List.getElem?_eq_getElem hlt) hj
     rw [hm] at this
     exact this.elim)
    grind [qe5]
   ·simp [Out.bad, ASlot.toks]
 | call c =>
  obtain ⟨callee, args, argTypes⟩ := c
  cases callee with
  | value f =>
   simp only [xa] at hc
   split at hc
   ·cases uu <;> cases hc <;> exact hob.elim
   ·cases hc
  | invoke r m => simp [xa] at hc
  | builtin b =>
  by_cases hlen : b = .len
  ·subst hlen
   simp only [xa] at hc
   split at hc
   ·rename_i x t ha hty
    have ea : args = #[x] := by grind
    have et : argTypes = #[t] := by grind
    subst ea et
    split at hc
    ·grind [qz, q7o, sem, Out.bad, ASlot.toks]
    ·grind [qz, xax, sem, Out.bad, ASlot.toks]
    ·rename_i y kt et h1 h2
     cases hc
     refine qz hs (q7v hop h2 h1 hs hob) ?_ ?_ ?_ ?_ <;> simp only [sem, qa7] <;> split <;> first | rfl | simp [Out.bad, ASlot.toks]
    grind
   grind
  by_cases happ : b = .append
  ·subst happ
   simp only [xa] at hc
   split at hc
   ·rename_i s x t u ha hty
    have ea : args = #[s, x] := by grind
    have et : argTypes = #[t, u] := by grind
    subst ea et
    have fin : ∀ (es bytes : Nat) (s' x' : Opd), (∃ v w' g', (execOp a.eval oper).run P w = .ok (.value v) w' ∧ Qt T g w g' w' st.live (qn st.live (sem tb (.append uu es bytes s' x') st)) ∧
      RS g' w' (qn st.live (sem tb (.append uu es bytes s' x') st)) v (sem tb (.append uu es bytes s' x') st).v) → Does P N T tb g w st a oper (sem tb (.append uu es bytes s' x') st) := by
     intro es bytes s' x' h
     have hU : ∀ (r : Src) (s : ASlot), (qai es bytes tb r s).wr = none ∧ (∀ t ∈ (qai es bytes tb r s).iss, Next T tb t) ∧ ∀ t ∈ (qai es bytes tb r s).v.toks, Next T tb t := by
      intro r s
      unfold qai
      grind [ASlot.toks, Next, Out.bad]
     cases uu with
     | true =>
      grind [qhg, sem, jw, Out.bad, ASlot.toks]
     | false => refine qhg hs h ?_ ?_ ?_ <;> simp only [sem, jw] <;> split <;> first | rfl | grind [Out.bad, ASlot.toks] | grind [Out.bad, ASlot.toks, Next]
    have both : ∀ {e : TypeId} {i : TypeInfo} {z : List D} {s' x' : Opd}, P.underlying t = some (.slice e) → P.info? e = some i → jc P e = some z → i.size = z.length → 0 < i.bytes →
      ((∃ f, P.underlying u = some (.slice f)) ∨ P.underlying u = some .string) → qp s = some s' → qp x = some x' → (sem tb (.append uu i.size i.bytes s' x') st).ob →
      (∀ t ∈ (sem tb (.append uu i.size i.bytes s' x') st).cons, t ∈ st.live) →
      ∃ v w' g', (execOp a.eval oper).run P w = .ok (.value v) w' ∧ Qt T g w g' w' st.live (qn st.live (sem tb (.append uu i.size i.bytes s' x') st)) ∧
      RS g' w' (qn st.live (sem tb (.append uu i.size i.bytes s' x') st)) v (sem tb (.append uu i.size i.bytes s' x') st).v := by
     intro e i z s' x' q1 q2 q3 q4 q5 q6 q7 q8 q9 q10
     cases uu with
     | true => grind [qph]
     | false => grind [qpg]
    have all : ∀ {e : TypeId} {i : TypeInfo} {z : List D} {s' x' : Opd}, P.underlying t = some (.slice e) → P.info? e = some i → jc P e = some z → i.size = z.length → 0 < i.bytes →
      ((∃ f, P.underlying u = some (.slice f)) ∨ P.underlying u = some .string) → qp s = some s' → qp x = some x' → some (qbh uu oo back i.size i.bytes s' x') = some o → Does P N T tb g w st a oper (sem tb o st) := by
     intro e i z s' x' q1 q2 q3 q4 q5 q6 q7 q8 hc
     unfold qbh at hc
     cases oo with
     | true =>
      simp only [if_true, Option.some.injEq] at hc
      cases uu with
      | true =>
       simp only [if_true] at hc
       subst hc
       exact hob.elim
      | false =>
      simp only [Bool.false_eq_true, if_false] at hc
      subst hc
      refine qe7 (qm8 hop q1 q2 q3 q4 q5 q6 q7 q8 hs hob) ?_ ?_ ?_ <;> simp only [sem, jj] <;> split <;> first | rfl | simp [Out.bad, ASlot.toks]
     | false =>
      grind
    grind
   grind
  by_cases hcpy : b = .copy
  ·subst hcpy
   simp only [xa] at hc
   split at hc
   ·rename_i s x t u ha hty
    have ea : args = #[s, x] := by grind
    have et : argTypes = #[t, u] := by grind
    subst ea et
    have fin : ∀ (es : Nat) (s' x' : Opd), (∃ v w' g', (execOp a.eval oper).run P w = .ok (.value v) w' ∧ G g w g' w' ∧ SR N T g' w' (zu st (sem tb (.copy es s' x') st).wr) a ∧ RS g' w' st.live v (sem tb (.copy es s' x') st).v) →
      Does P N T tb g w st a oper (sem tb (.copy es s' x') st) := by
     intro es s' x' h
     refine qe7 h ?_ ?_ ?_ <;> simp only [sem, w7] <;> split <;> first | rfl | simp [Out.bad, ASlot.toks]
    split at hc
    ·rename_i e f a' b' h1 h2 h3 h4
     simp only [Option.map_eq_some_iff] at hc
     obtain ⟨i, h5, rfl⟩ := hc
     grind [qyh]
    all_goals grind [qyh]
   grind
  by_cases hdel : b = .delete
  ·subst hdel
   simp only [xa] at hc
   split at hc
   ·rename_i x k t ts ha hty
    have ea : args = #[x, k] := by grind
    subst ea
    have ht0 : argTypes[0]? = some t := by rw [← Array.getElem?_toList, hty]; rfl
    split at hc
    ·rename_i kt et a' b' h1 h2 h3
     simp only [Option.map_eq_some_iff] at hc
     obtain ⟨kd, hkd, rfl⟩ := hc
     refine qe7 (q2o hop ht0 h1 h2 h3 hkd hs hob) ?_ ?_ ?_ <;> simp only [sem, vj] <;> split <;> first | rfl | simp [Out.bad, ASlot.toks]
    grind
   grind
  by_cases hmin : b = .min
  ·subst hmin
   simp only [xa] at hc
   split at hc
   ·rename_i x y ha
    have ea : args = #[x, y] := by grind
    subst ea
    split at hc
    ·rename_i x' y' h1 h2
     cases hc
     refine qz hs (qnd (mx := false) (.inl ⟨hop, rfl⟩) h1 h2 hs hob) ?_ ?_ ?_ ?_ <;> simp only [sem] <;> split <;> first | rfl | simp [Out.bad, ASlot.toks]
    grind
   grind
  by_cases hmax : b = .max
  ·subst hmax
   simp only [xa] at hc
   split at hc
   ·rename_i x y ha
    have ea : args = #[x, y] := by grind
    subst ea
    split at hc
    ·rename_i x' y' h1 h2
     cases hc
     refine qz hs (qnd (mx := true) (.inr ⟨hop, rfl⟩) h1 h2 hs hob) ?_ ?_ ?_ ?_ <;> simp only [sem] <;> split <;> first | rfl | simp [Out.bad, ASlot.toks]
    grind
   grind
  ·cases b <;> first | (exact (hlen rfl).elim) | grind | (exact (hcpy rfl).elim) | (exact (hdel rfl).elim) | (exact (hmin rfl).elim) | (exact (hmax rfl).elim) | (simp [xa] at hc)
 | makeMap t r =>
  cases r with
  | none =>
   simp only [xa, Option.some.injEq] at hc
   subst hc
   exact qe7 (qyj hop hs hob) rfl rfl (by simp [sem, ASlot.toks])
  | some y => simp [xa] at hc
 | lookup t x k c =>
  simp only [xa] at hc
  split at hc
  ·rename_i kt et a' b' h1 h2 h3
   split at hc
   ·rename_i kd z h4 h5
    cases hc
    obtain ⟨zv, _, hzc⟩ := qs9 h5
    refine qz hs (qyi hop h1 h2 h3 h4 h5 hs hob) ?_ ?_ ?_ ?_ <;> simp only [sem, kz] <;> split <;> first | rfl | grind [q7u, qo5, qu8] | simp [Out.bad, ASlot.toks]
   grind
  grind
 | mapUpdate t x k v =>
  simp only [xa] at hc
  split at hc
  ·rename_i kt et a' b' c' h1 h2 h3 h4
   simp only [Option.map_eq_some_iff] at hc
   obtain ⟨kd, hkd, rfl⟩ := hc
   grind [qi0]
  grind
 | insert t x k v =>
  simp only [xa] at hc
  split at hc
  ·rename_i kt et a' b' c' h1 h2 h3 h4
   simp only [Option.map_eq_some_iff] at hc
   obtain ⟨kd, hkd, rfl⟩ := hc
   exact qi0 (.inr hop) h1 h2 h3 h4 hkd hs hob
  grind
 | range t x =>
  simp only [xa] at hc
  split at hc
  ·rename_i kt et a' h1 h2
   cases hc
   refine qe7 (q2p hop h1 h2 hs hob) ?_ ?_ ?_ <;> simp only [sem, jx] <;> split <;> first | rfl | simp [Out.bad, ASlot.toks]
  grind
 | next x s =>
  cases s with
  | false =>
   simp only [xa, Option.map_eq_some_iff] at hc
   obtain ⟨y, _, rfl⟩ := hc
   grind [sem, Out.bad]
  | true => simp [xa] at hc
 | entry x =>
  simp only [xa, Option.map_eq_some_iff] at hc
  obtain ⟨y, _, rfl⟩ := hc
  grind [sem, Out.bad]
 | sliceToArrayPointer t x =>
  simp only [xa] at hc
  grind [qz, q7q, sem, Out.bad, ASlot.toks]
 | makeInterface t x =>
  simp only [xa] at hc
  grind [qz, qvf, sem, Out.bad, ASlot.toks]
 | typeAssert x u t c =>
  simp only [xa] at hc
  split at hc
  ·cases hc
  ·rename_i d a' hni h1 h2
   cases hc
   refine qz hs (qvg hop h1 (fun ms h => hni ms h) h2 hs hob) ?_ ?_ ?_ ?_ <;> simp only [sem, qak] <;> split <;> first | rfl | grind [ASlot.toks, qbx] | simp [Out.bad, ASlot.toks]
  grind
 | _ => simp [xa] at hc
end
end Go.Abs
