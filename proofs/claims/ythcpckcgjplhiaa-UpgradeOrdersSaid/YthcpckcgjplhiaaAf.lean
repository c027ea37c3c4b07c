/- The abstract layer, part 6: more of the operations that only compute or read. -/
import Derived.Test.YthcpckcgjplhiaaAe
import Derived.Laws.StructEq
import Derived.Laws.BytesString
namespace Go.Abs

section
variable {P : Program} {N tb : Nat} {T : Nat → Prop} {g : Ghost} {w : World} {st : St} {a : Act} {oper : Oper}

theorem run_equal_of {t : TypeId} {u v : Value} {b : Bool} (h : (Op.equalIn (9999 + 1) t u v).run P w = .ok b w) : (Op.equal t u v).run P w = .ok b w := h

theorem run_equal_ptr {t e : TypeId} (ht : P.underlying t = some (.pointer e)) (x : Option Addr) (w : World) : (Op.equal t (.pointer x) (.pointer none)).run P w = .ok x.isNone w :=
  run_equal_of (by rw [Op.equalIn]; cases x <;> simp [run_underlying ht])
theorem run_equal_func {t : TypeId} {p r : Array TypeId} {v : Bool} (ht : P.underlying t = some (.func p r v)) (fn : Fn) (f c : Array Value) (w : World) : (Op.equal t (.func fn f c) .nilFunc).run P w = .ok false w :=
  run_equal_of (by rw [Op.equalIn]; simp [run_underlying ht])
theorem run_equal_nilfunc {t : TypeId} {p r : Array TypeId} {v : Bool} (ht : P.underlying t = some (.func p r v)) (w : World) : (Op.equal t .nilFunc .nilFunc).run P w = .ok true w :=
  run_equal_of (by rw [Op.equalIn]; simp [run_underlying ht])
theorem run_equal_iface {t : TypeId} {m : Array (String × TypeId)} (ht : P.underlying t = some (.interface m)) (s : TypeId) (u : Value) (w : World) : (Op.equal t (.iface s u) .nilIface).run P w = .ok false w :=
  run_equal_of (by rw [Op.equalIn]; simp [run_underlying ht])
theorem run_equal_niliface {t : TypeId} {m : Array (String × TypeId)} (ht : P.underlying t = some (.interface m)) (w : World) : (Op.equal t .nilIface .nilIface).run P w = .ok true w :=
  run_equal_of (by rw [Op.equalIn]; simp [run_underlying ht])
theorem run_equal_map {t k e : TypeId} (ht : P.underlying t = some (.map k e)) (x : Option Nat) (w : World) : (Op.equal t (.map x) (.map none)).run P w = .ok x.isNone w :=
  run_equal_of (by rw [Op.equalIn]; cases x <;> simp [run_underlying ht])

theorem gives_eqnil {neg : Bool} {t u : TypeId} {x y : Operand} {x' : Opd} {d : TypeDesc} {k : NK} (ho : oper.op = .binOp (if neg then .neq else .eql) t x y u) (hx : opdOf x = some x')
    (hd : P.underlying t = some d) (hk : nilKind d y = some k) (hs : SR N T g w st a)
    (hob : (sem tb (.eqnil neg k x') st).ob) : Gives P g w st a oper (sem tb (.eqnil neg k x') st).v := by
  simp only [sem] at hob ⊢
  cases hn : isNil k (x'.get st.fr) with
  | none => simp [hn, Out.bad] at hob
  | some b =>
    simp only [hn] at hob ⊢
    have r1 := opd_rs hs hx hob
    have fin : (do eqGuard (if neg then .neq else .eql) t x y (a.eval x) (a.eval y); binOp (if neg then .neq else .eql) t (a.eval x) (a.eval y) : Sem Value).run P w = .ok (.bool (if neg then !b else b)) w →
        Gives P g w st a oper (.d (.bool (if neg then !b else b))) := fun h => ⟨_, by simp only [execOp, ho]; rw [Sem.run_bind, h]; simp, .bool _⟩
    apply fin
    unfold nilKind at hk
    split at hk <;> simp at hk <;> subst hk
    · cases hx : x'.get st.fr with
      | d p =>
        rw [hx] at hn r1
        cases p <;> simp [isNil] at hn <;> subst hn <;> generalize a.eval x = v at r1 <;> cases rs_d r1 <;> cases neg <;>
          simp [Act.eval, eqGuard_at_pointer, binOp, run_equal_ptr hd]
      | rd cs =>
        rw [hx] at hn r1
        simp [isNil] at hn; subst hn
        obtain ⟨b, off, vs, hv, _⟩ := rs_rd r1
        rw [hv]
        cases neg <;> simp [Act.eval, eqGuard_at_pointer, binOp, run_equal_ptr hd]
      | _ => rw [hx] at hn; simp [isNil] at hn
    · cases hx : x'.get st.fr with
      | d p =>
        rw [hx] at hn r1
        cases p <;> simp [isNil] at hn <;> subst hn <;> generalize a.eval x = v at r1 <;> cases rs_d r1 <;> cases neg <;>
          simp [Act.eval, eqGuard_at_func, eqGuard_at_nilFunc, binOp, run_equal_func hd, run_equal_nilfunc hd]
      | _ => rw [hx] at hn; simp [isNil] at hn
    · cases hx : x'.get st.fr with
      | d p =>
        rw [hx] at hn r1
        cases p <;> simp [isNil] at hn <;> subst hn <;> generalize a.eval x = v at r1 <;> cases rs_d r1 <;> cases neg <;>
          simp [Act.eval, eqGuard_at_iface, eqGuard_nil_constR, binOp, run_equal_iface hd, run_equal_niliface hd]
      | _ => rw [hx] at hn; simp [isNil] at hn
    · cases hx : x'.get st.fr with
      | d p =>
        rw [hx] at hn r1
        cases p <;> simp [isNil] at hn <;> subst hn <;> generalize a.eval x = v at r1 <;> cases rs_d r1 <;> cases neg <;>
          simp [Act.eval, eqGuard_at_map, binOp, run_equal_map hd]
      | _ => rw [hx] at hn; simp [isNil] at hn

/-- Equality of plain structs, as the model reckons it. -/
theorem run_eqFields (xs ys : Array Value) (n : Nat) : ∀ (fs : List Field) (i : Nat) (ks : List CK) (as bs : List D), plainKinds P i fs = some ks → eqOk ks as bs = true →
    (∀ (j : Nat) (d : D), as[j]? = some d → ∃ v, xs[i + j]? = some v ∧ RV g w v d) → (∀ (j : Nat) (d : D), bs[j]? = some d → ∃ v, ys[i + j]? = some v ∧ RV g w v d) →
    (Op.eqFields (n + 1) xs ys fs).run P w = .ok (eqCells as bs) w
  | [], i, ks, as, bs, hk, he, hx, hy => by
    simp [plainKinds] at hk; subst hk
    cases as <;> cases bs <;> simp [eqOk] at he
    simp [Op.eqFields, eqCells]
  | f :: fs, i, ks, as, bs, hk, he, hx, hy => by
    simp only [plainKinds] at hk
    split at hk
    · rename_i hcond
      obtain ⟨hoff, hname, hsize⟩ := hcond
      obtain ⟨ti, hti, hsz⟩ := Option.map_eq_some_iff.1 hsize
      have agg : ∀ d, P.underlying f.type = some d → (∀ fs, d ≠ .struct fs) → (∀ k e, d ≠ .array k e) → aggN P f.type = some none := by
        intro d hd h1 h2
        unfold aggN
        rw [hti, hd]
        cases d <;> simp_all
      have step : ∀ (u v : Value) (r : Bool) (as' bs' : List D) (ks' : List CK), aggN P f.type = some none → xs[i]? = some u → ys[i]? = some v → (Op.equalIn (n + 1) f.type u v).run P w = .ok r w →
          plainKinds P (i + 1) fs = some ks' → eqOk ks' as' bs' = true →
          (∀ (j : Nat) (d : D), as'[j]? = some d → ∃ v, xs[i + 1 + j]? = some v ∧ RV g w v d) → (∀ (j : Nat) (d : D), bs'[j]? = some d → ∃ v, ys[i + 1 + j]? = some v ∧ RV g w v d) →
          (Op.eqFields (n + 1) xs ys (f :: fs)).run P w = .ok (r && eqCells as' bs') w := by
        intro u v r as' bs' ks' hag hu hv hr hk' he' hx' hy'
        have ih := run_eqFields xs ys n fs (i + 1) ks' as' bs' hk' he' hx' hy'
        rw [← hoff] at hu hv
        simp only [Op.eqFields, hname, ne_eq, not_false_eq_true, if_true, Sem.run_bind, run_part_none hag xs f.offset u hu, run_part_none hag ys f.offset v hv, Result.andThen_ok, hr]
        cases r <;> simp [ih]
      have shift : ∀ {l : List D} {d : D} {zs : Array Value}, (∀ (j : Nat) (e : D), (d :: l)[j]? = some e → ∃ v, zs[i + j]? = some v ∧ RV g w v e) → (∀ (j : Nat) (e : D), l[j]? = some e → ∃ v, zs[i + 1 + j]? = some v ∧ RV g w v e) := by
        intro l d zs h j e hj
        have := h (j + 1) e (by simpa using hj)
        rw [show i + (j + 1) = i + 1 + j by omega] at this
        exact this
      split at hk
      · rename_i k r hu hr
        simp at hk; subst hk
        match as, bs, he with
        | .int k1 m1 :: as', .int k2 m2 :: bs', he =>
          simp only [eqOk, Bool.and_eq_true, beq_iff_eq] at he
          obtain ⟨rfl, he⟩ := he
          obtain ⟨u, hu1, hu2⟩ := hx 0 _ rfl
          obtain ⟨v, hv1, hv2⟩ := hy 0 _ rfl
          have e1 := rv_int hu2; have e2 := rv_int hv2; subst e1 e2
          exact step _ _ (m1 == m2) as' bs' r (agg _ hu (by simp) (by simp)) hu1 hv1 (run_equalIn_int w n f.type k1 k m1 m2 hu) hr he (shift hx) (shift hy)
      · rename_i r hu hr
        simp at hk; subst hk
        match as, bs, he with
        | .bool m1 :: as', .bool m2 :: bs', he =>
          simp only [eqOk] at he
          obtain ⟨u, hu1, hu2⟩ := hx 0 _ rfl
          obtain ⟨v, hv1, hv2⟩ := hy 0 _ rfl
          have e1 := rv_bool hu2; have e2 := rv_bool hv2; subst e1 e2
          exact step _ _ (m1 == m2) as' bs' r (agg _ hu (by simp) (by simp)) hu1 hv1 (run_equalIn_bool' w n f.type m1 m2 hu) hr he (shift hx) (shift hy)
      · rename_i r hu hr
        simp at hk; subst hk
        match as, bs, he with
        | .str m1 :: as', .str m2 :: bs', he =>
          simp only [eqOk] at he
          obtain ⟨u, hu1, hu2⟩ := hx 0 _ rfl
          obtain ⟨v, hv1, hv2⟩ := hy 0 _ rfl
          have e1 := rv_str hu2; have e2 := rv_str hv2; subst e1 e2
          have := run_equalIn_string w n f.type ⟨m1.toArray⟩ ⟨m2.toArray⟩ hu
          rw [toList_mk, toList_mk] at this
          exact step _ _ (m1 == m2) as' bs' r (agg _ hu (by simp) (by simp)) hu1 hv1 this hr he (shift hx) (shift hy)
      · cases hk
    · cases hk

theorem gives_eqAgg {neg : Bool} {t u : TypeId} {x y : Operand} {x' y' : Opd} {ks : List CK} (ho : oper.op = .binOp (if neg then .neq else .eql) t x y u) (hx : opdOf x = some x') (hy : opdOf y = some y')
    (hk : plainStruct P t = some ks) (hs : SR N T g w st a)
    (hob : (sem tb (.eqAgg neg ks x' y') st).ob) : Gives P g w st a oper (sem tb (.eqAgg neg ks x' y') st).v := by
  simp only [sem] at hob ⊢
  cases h1 : x'.get st.fr with
  | d p =>
    cases p with
    | agg as =>
      cases h2 : y'.get st.fr with
      | d q =>
        cases q with
        | agg bs =>
          simp only [h1, h2] at hob ⊢
          obtain ⟨o1, o2, o3⟩ := hob
          have r1 := opd_rs hs hx o1
          have r2 := opd_rs hs hy o2
          rw [h1] at r1; rw [h2] at r2
          obtain ⟨us, e1, l1, _, c1⟩ := rv_agg (rs_d r1)
          obtain ⟨vs, e2, l2, _, c2⟩ := rv_agg (rs_d r2)
          unfold plainStruct at hk
          split at hk
          · rename_i fs hu
            split at hk
            · rename_i hc
              have hu' : P.underlying t = some (.struct (P.fieldsOf t)) := by rw [hu, Program.fieldsOf, hu]
              have hfs : P.fieldsOf t = fs := by simp [Program.fieldsOf, hu]
              have hcell : ∀ {ds : List D} {zs : List Value}, zs.length = ds.length → (∀ (j : Nat) (u : Value) (d : D), zs[j]? = some u → ds[j]? = some d → RV g w u d) →
                  ∀ (j : Nat) (d : D), ds[j]? = some d → ∃ v, zs.toArray[0 + j]? = some v ∧ RV g w v d := by
                intro ds zs hl hr j d hd
                have hlt : j < zs.length := by rw [hl]; exact (List.getElem?_eq_some_iff.1 hd).1
                exact ⟨zs[j], by simp [hlt], hr j _ d (List.getElem?_eq_getElem hlt) hd⟩
              have heq : (Op.equalIn 10000 t (.agg us.toArray) (.agg vs.toArray)).run P w = .ok (eqCells as bs) w := by
                rw [show (10000 : Nat) = 9998 + 1 + 1 from rfl, run_equalIn_agg w (9998 + 1) t _ _ hu' hc.1, hfs]
                exact run_eqFields us.toArray vs.toArray 9998 fs.toList 0 ks as bs hk o3 (hcell l1 c1) (hcell l2 c2)
              have heq' : (Op.equal t (.agg us.toArray) (.agg vs.toArray)).run P w = .ok (eqCells as bs) w := heq
              cases neg with
              | false => exact ⟨.bool (eqCells as bs), by simp [execOp, ho, e1, e2, run_eqGuard_agg w _ t x y _ _ hc.2, binOp, heq'], .bool _⟩
              | true => exact ⟨.bool !(eqCells as bs), by simp [execOp, ho, e1, e2, run_eqGuard_agg w _ t x y _ _ hc.2, binOp, heq'], .bool _⟩
            · cases hk
          · cases hk
        | _ => simp [h1, h2, Out.bad] at hob
      | _ => simp [h1, h2, Out.bad] at hob
    | _ => simp [h1, Out.bad] at hob
  | _ => simp [h1, Out.bad] at hob

theorem gives_faddr {t : TypeId} {x : Operand} {y : Opd} {fs : Array Field} {i : Nat} {f : Field} {ti : TypeInfo} (ho : oper.op = .fieldAddr t x i) (ht : P.underlying t = some (.struct fs)) (hf : fs[i]? = some f)
    (hi : P.info? f.type = some ti) (h0 : ti.size ≠ 0) (hx : opdOf x = some y) (hs : SR N T g w st a)
    (hob : (sem tb (.faddr f.offset y) st).ob) : Gives P g w st a oper (sem tb (.faddr f.offset y) st).v := by
  simp only [sem] at hob ⊢
  have run : ∀ b off, a.eval x = .pointer (some ⟨b, off, none⟩) → (execOp a.eval oper).run P w = .ok (.value (.pointer (some ⟨b, off + f.offset, none⟩))) w := by
    intro b off hv
    simp [execOp, ho, Instr.fieldAt, run_underlying ht, hf, hv, Instr.sureAddr, fieldPlace, run_sizeOf_info hi, h0, Addr.add_lit]
  cases h1 : y.get st.fr with
  | d p =>
    cases p with
    | ptr id off =>
      simp only [h1] at hob ⊢
      have r1 := opd_rs hs hx hob
      rw [h1] at r1
      have hrv := rs_d r1
      generalize hv : a.eval x = v at hrv
      cases hrv with
      | ptr b _ _ hg => exact ⟨_, run b off hv, .ptr b _ id hg⟩
    | _ => simp [h1, Out.bad] at hob
  | rd cs =>
    simp only [h1] at hob ⊢
    have r1 := opd_rs hs hx hob.1
    rw [h1] at r1
    obtain ⟨b, off, n, o, fn, hv, hg, hn, hc⟩ := r1
    refine ⟨_, run b off hv, b, off + f.offset, n, o, fun j => fn (f.offset + j), rfl, hg, by simp; omega, fun j d hj => ?_⟩
    obtain ⟨c1, c2, c3⟩ := hc (f.offset + j) d (by simpa using hj)
    exact ⟨c1, by rw [show off + f.offset + j = off + (f.offset + j) by omega]; exact c2, c3⟩
  | _ => simp [h1, Out.bad] at hob

theorem gives_field {t : TypeId} {x : Operand} {y : Opd} {fs : Array Field} {i : Nat} {f : Field} {n : Option Nat} (ho : oper.op = .field t x i) (ht : P.underlying t = some (.struct fs)) (hf : fs[i]? = some f)
    (hn : aggN P f.type = some n) (hx : opdOf x = some y) (hs : SR N T g w st a)
    (hob : (sem tb (.field n f.offset y) st).ob) : Gives P g w st a oper (sem tb (.field n f.offset y) st).v := by
  simp only [sem] at hob ⊢
  cases h1 : y.get st.fr with
  | d p =>
    cases p with
    | agg cs =>
      simp only [h1] at hob ⊢
      cases n with
      | none =>
        have r1 := opd_rs hs hx hob.1
        rw [h1] at r1
        obtain ⟨vs, hv, hl, hcl, hc⟩ := rv_agg (rs_d r1)
        have hlt : f.offset < vs.length := by rw [hl]; exact hob.2
        have hlt' : f.offset < cs.length := hob.2
        refine ⟨vs[f.offset], ?_, ?_⟩
        · have := run_part_none hn vs.toArray f.offset vs[f.offset] (by simp [hlt]) w
          simp [execOp, ho, Instr.field, run_underlying ht, hf, hv, asAgg, this]
        · have : cs.getD f.offset default = cs[f.offset] := by simp [List.getD, hlt']
          simp only [this]
          exact hc f.offset _ _ (List.getElem?_eq_getElem hlt) (List.getElem?_eq_getElem hlt')
      | some k =>
        have r1 := opd_rs hs hx hob.1
        rw [h1] at r1
        obtain ⟨vs, hv, hl, hcl, hc⟩ := rv_agg (rs_d r1)
        refine ⟨.agg ((vs.drop f.offset).take k).toArray, ?_, rv_agg_part hl hcl hc f.offset k⟩
        have := run_part_some hn vs.toArray f.offset w
        have he : vs.toArray.extract f.offset (f.offset + k) = ((vs.drop f.offset).take k).toArray := by
          simp [List.extract_toArray, List.extract_eq_take_drop]
        simp [execOp, ho, Instr.field, run_underlying ht, hf, hv, asAgg, this]
    | _ => simp [h1, Out.bad] at hob
  | _ => simp [h1, Out.bad] at hob

theorem gives_iaddr {t e : TypeId} {x i : Operand} {x' i' : Opd} {ti : TypeInfo} (ho : oper.op = .indexAddr t x i) (ht : P.underlying t = some (.slice e)) (hi : P.info? e = some ti) (hx : opdOf x = some x') (hy : opdOf i = some i')
    (hs : SR N T g w st a) (hob : (sem tb (.iaddr ti.size x' i') st).ob) : Gives P g w st a oper (sem tb (.iaddr ti.size x' i') st).v := by
  simp only [sem] at hob ⊢
  cases h1 : (x'.get st.fr).rows with
  | none =>
    cases h2 : i'.get st.fr with
    | d q =>
      cases q with
      | int k n =>
        simp only [h1, h2] at hob ⊢
        cases h3 : x'.get st.fr with
        | d p =>
          cases p with
          | ref id off es m =>
            simp only [h3] at hob ⊢
            obtain ⟨o1, o2, rfl, o4, o5⟩ := hob
            have r1 := opd_rs hs hx o1
            have r2 := opd_rs hs hy o2
            rw [h2] at r2
            rw [h3] at r1
            have e2 := rv_int (rs_d r2)
            have hrv := rs_d r1
            generalize hv : a.eval x = v at hrv
            cases hrv with
            | ref b _ _ _ _ cap hg hcap hmx hsz =>
              refine ⟨.pointer (some ⟨b, off + n.toNat * ti.size, none⟩), ?_, .ptr b _ id hg⟩
              simp [execOp, ho, Instr.indexAt, run_underlying ht, hv, e2, asIntOf, o4, o5, run_sizeOf_info hi, Addr.add_lit]
            | refnil ad => omega
          | _ => simp [h3, Out.bad] at hob
        | _ => simp [h3, Out.bad] at hob
      | _ => simp [h1, h2, Out.bad] at hob
    | _ => simp [h1, h2, Out.bad] at hob
  | some p =>
    obtain ⟨es, l⟩ := p
    cases h2 : i'.get st.fr with
    | d q =>
      cases q with
      | int k n =>
        simp only [h1, h2] at hob ⊢
        obtain ⟨o1, o2, rfl, o4, o5⟩ := hob
        have r1 := rs_rows (opd_rs hs hx o1) h1
        have r2 := opd_rs hs hy o2
        rw [h2] at r2
        have e2 := rv_int (rs_d r2)
        have hlt : n.toNat < l.length := by omega
        rcases rv_sl r1 with ⟨_, rfl⟩ | ⟨b, off, cap, m, o, f, hv, hg, hn, hcap, hes, hcl, hcell, hrv⟩
        · simp at hlt
        · refine ⟨.pointer (some ⟨b, off + n.toNat * ti.size, none⟩), ?_, ?_⟩
          · simp [execOp, ho, Instr.indexAt, run_underlying ht, hv, e2, asIntOf, o4, o5, run_sizeOf_info hi, Addr.add_lit]
          · have hrow : (l.getD n.toNat []).length = ti.size := hes _ (by rw [List.getD_eq_getElem?_getD, List.getElem?_eq_getElem hlt]; exact List.getElem_mem hlt)
            have hfl := flat_length hes
            refine ⟨b, off + n.toNat * ti.size, m, o, fun j => f (n.toNat * ti.size + j), rfl, hg, ?_, fun j d hj => ?_⟩
            · rw [hrow]
              have : (n.toNat + 1) * ti.size ≤ l.length * ti.size := Nat.mul_le_mul_right _ hlt
              rw [Nat.succ_mul] at this
              omega
            · have hj' := flat_getD hes n.toNat j d hj
              exact ⟨hcl d (List.mem_of_getElem? hj'), by rw [Nat.add_assoc]; exact hcell _ d hj', hrv _ d hj'⟩
      | _ => simp [h1, h2, Out.bad] at hob
    | _ => simp [h1, h2, Out.bad] at hob

theorem gives_iaddrA {t e : TypeId} {x i : Operand} {x' i' : Opd} {ti : TypeInfo} {len : Nat} (ho : oper.op = .indexAddr t x i) (ht : P.underlying t = some (.array len e)) (hi : P.info? e = some ti) (hx : opdOf x = some x') (hy : opdOf i = some i')
    (hs : SR N T g w st a) (hob : (sem tb (.iaddrA len ti.size x' i') st).ob) : Gives P g w st a oper (sem tb (.iaddrA len ti.size x' i') st).v := by
  simp only [sem] at hob ⊢
  have run : ∀ b off k (n : Int), a.eval x = .pointer (some ⟨b, off, none⟩) → a.eval i = .int k n → 0 ≤ n → n < len →
      (execOp a.eval oper).run P w = .ok (.value (.pointer (some ⟨b, off + n.toNat * ti.size, none⟩))) w := by
    intro b off k n hv hn h0 h1
    simp [execOp, ho, Instr.indexAt, run_underlying ht, hv, hn, asIntOf, h0, h1, run_sizeOf_info hi, Addr.add_lit, Instr.sureAddr]
  cases h2 : i'.get st.fr with
  | d q =>
    cases q with
    | int k n =>
      cases h1 : x'.get st.fr with
      | d p =>
        cases p with
        | ptr id off =>
          simp only [h1, h2] at hob ⊢
          obtain ⟨o1, o2, o3, o4⟩ := hob
          have r1 := opd_rs hs hx o1
          have r2 := opd_rs hs hy o2
          rw [h1] at r1; rw [h2] at r2
          have e2 := rv_int (rs_d r2)
          have hrv := rs_d r1
          generalize hv : a.eval x = v at hrv
          cases hrv with
          | ptr b _ _ hg => exact ⟨_, run b off k n hv e2 o3 o4, .ptr b _ id hg⟩
        | _ => simp [h1, h2, Out.bad] at hob
      | rd cs =>
        simp only [h1, h2] at hob ⊢
        obtain ⟨o1, o2, o3, o4, o5⟩ := hob
        have r1 := opd_rs hs hx o1
        have r2 := opd_rs hs hy o2
        rw [h1] at r1; rw [h2] at r2
        have e2 := rv_int (rs_d r2)
        obtain ⟨b, off, m, o, fn, hv, hg, hn, hc⟩ := r1
        have hle : n.toNat * ti.size ≤ cs.length := by
          have : n.toNat * ti.size ≤ len * ti.size := Nat.mul_le_mul_right _ (by omega)
          omega
        refine ⟨_, run b off k n hv e2 o3 o4, b, off + n.toNat * ti.size, m, o, fun j => fn (n.toNat * ti.size + j), rfl, hg, by simp; omega, fun j d hj => ?_⟩
        obtain ⟨c1, c2, c3⟩ := hc (n.toNat * ti.size + j) d (by simpa using hj)
        exact ⟨c1, by rw [Nat.add_assoc]; exact c2, c3⟩
      | _ => simp [h1, h2, Out.bad] at hob
    | _ => cases h1 : x'.get st.fr with
      | d p => cases p <;> simp [h1, h2, Out.bad] at hob
      | _ => simp [h1, h2, Out.bad] at hob
  | _ => cases h1 : x'.get st.fr with
    | d p => cases p <;> simp [h1, h2, Out.bad] at hob
    | _ => simp [h1, h2, Out.bad] at hob

theorem gives_indexS {t : TypeId} {x i : Operand} {x' i' : Opd} (ho : oper.op = .index t x i) (ht : P.underlying t = some .string) (hx : opdOf x = some x') (hy : opdOf i = some i')
    (hs : SR N T g w st a) (hob : (sem tb (.indexS x' i') st).ob) : Gives P g w st a oper (sem tb (.indexS x' i') st).v := by
  simp only [sem] at hob ⊢
  cases h1 : x'.get st.fr with
  | d p =>
    cases p with
    | str l =>
      cases h2 : i'.get st.fr with
      | d q =>
        cases q with
        | int k n =>
          simp only [h1, h2] at hob ⊢
          obtain ⟨o1, o2, o3, o4⟩ := hob
          have r1 := opd_rs hs hx o1
          have r2 := opd_rs hs hy o2
          rw [h1] at r1; rw [h2] at r2
          have e1 := rv_str (rs_d r1)
          have e2 := rv_int (rs_d r2)
          have hlt : n.toNat < l.length := by omega
          refine ⟨.int .u8 (l.getD n.toNat 0).toNat, ?_, .int _ _⟩
          have hb : (⟨l.toArray⟩ : ByteArray)[n.toNat]? = some (l.getD n.toNat 0) := by
            show (if h : n.toNat < (⟨l.toArray⟩ : ByteArray).size then some _ else none) = _
            rw [dif_pos (by simpa [size_mk] using hlt)]
            simp [List.getD, hlt]
            rfl
          simp [execOp, ho, Instr.index, run_underlying ht, e1, e2, asIntOf, o3, hb]
        | _ => simp [h1, h2, Out.bad] at hob
      | _ => simp [h1, h2, Out.bad] at hob
    | _ => simp [h1, Out.bad] at hob
  | _ => simp [h1, Out.bad] at hob

theorem gives_indexA {t e : TypeId} {x i : Operand} {x' i' : Opd} {ti : TypeInfo} {len : Nat} {n : Option Nat} (ho : oper.op = .index t x i) (ht : P.underlying t = some (.array len e)) (hi : P.info? e = some ti) (hn : aggN P e = some n)
    (hx : opdOf x = some x') (hy : opdOf i = some i') (hs : SR N T g w st a) (hob : (sem tb (.indexA len ti.size n x' i') st).ob) : Gives P g w st a oper (sem tb (.indexA len ti.size n x' i') st).v := by
  simp only [sem] at hob ⊢
  cases h1 : x'.get st.fr with
  | d p =>
    cases p with
    | agg cs =>
      cases h2 : i'.get st.fr with
      | d q =>
        cases q with
        | int k j =>
          simp only [h1, h2] at hob ⊢
          cases n with
          | none =>
            obtain ⟨o1, o2, o3, o4, o5⟩ := hob
            have r1 := opd_rs hs hx o1
            have r2 := opd_rs hs hy o2
            rw [h1] at r1; rw [h2] at r2
            have e2 := rv_int (rs_d r2)
            obtain ⟨vs, hv, hl, hcl, hc⟩ := rv_agg (rs_d r1)
            have hlt : j.toNat * ti.size < vs.length := by rw [hl]; exact o5
            refine ⟨vs[j.toNat * ti.size], ?_, ?_⟩
            · have := run_part_none hn vs.toArray (j.toNat * ti.size) vs[j.toNat * ti.size] (by simp [hlt]) w
              simp [execOp, ho, Instr.index, run_underlying ht, hv, e2, asIntOf, o3, o4, run_sizeOf_info hi, this]
            · have : cs.getD (j.toNat * ti.size) default = cs[j.toNat * ti.size] := by simp [List.getD, o5]
              simp only [this]
              exact hc _ _ _ (List.getElem?_eq_getElem hlt) (List.getElem?_eq_getElem o5)
          | some m =>
            obtain ⟨o1, o2, o3, o4, o5⟩ := hob
            have r1 := opd_rs hs hx o1
            have r2 := opd_rs hs hy o2
            rw [h1] at r1; rw [h2] at r2
            have e2 := rv_int (rs_d r2)
            obtain ⟨vs, hv, hl, hcl, hc⟩ := rv_agg (rs_d r1)
            refine ⟨.agg ((vs.drop (j.toNat * ti.size)).take m).toArray, ?_, rv_agg_part hl hcl hc _ m⟩
            have := run_part_some hn vs.toArray (j.toNat * ti.size) w
            simp [execOp, ho, Instr.index, run_underlying ht, hv, e2, asIntOf, o3, o4, run_sizeOf_info hi, this]
        | _ => simp [h1, h2, Out.bad] at hob
      | _ => simp [h1, h2, Out.bad] at hob
    | _ => simp [h1, Out.bad] at hob
  | _ => simp [h1, Out.bad] at hob

theorem gives_extract {x : Operand} {y : Opd} {i : Nat} (ho : oper.op = .extract x i) (hx : opdOf x = some y) (hs : SR N T g w st a)
    (hob : (sem tb (.extract i y) st).ob) : Gives P g w st a oper (sem tb (.extract i y) st).v := by
  simp only [sem] at hob ⊢
  cases h1 : y.get st.fr with
  | tup l =>
    simp only [h1] at hob ⊢
    have r1 := opd_rs hs hx hob.1
    rw [h1] at r1
    obtain ⟨vs, hv, hl, hc⟩ := r1
    have hlt : i < l.length := hob.2
    have hlt' : i < vs.length := by omega
    refine ⟨vs[i], ?_, ?_⟩
    · simp [execOp, ho, Instr.extract, hv, hlt']
    · have : l.getD i .bad = l[i] := by simp [List.getD, hlt]
      simp only [this]
      exact rs_of_rc (hc i _ _ (List.getElem?_eq_getElem hlt') (List.getElem?_eq_getElem hlt))
  | _ => simp [h1, Out.bad] at hob

theorem rowsBytes_byteRows : ∀ l : List UInt8, rowsBytes (byteRows l) = l
  | [] => rfl
  | c :: l => by
    have ih := rowsBytes_byteRows l
    simp only [byteRows, List.map_cons, rowsBytes] at ih ⊢
    rw [ih]
    simp

theorem foldl_push_bytes : ∀ (l : List UInt8) (acc : ByteArray), (l.map fun c => (c.toNat : Int)).foldl (fun r n => r.push (UInt8.ofNat n.toNat)) acc = ⟨(acc.data.toList ++ l).toArray⟩
  | [], acc => by simp
  | c :: l, acc => by
    simp only [List.map_cons, List.foldl_cons]
    rw [foldl_push_bytes l]
    simp

theorem flat_byteRows : ∀ l : List UInt8, (byteRows l).flatten = l.map fun c => D.int .u8 c.toNat
  | [] => rfl
  | c :: l => by
    have ih := flat_byteRows l
    simp only [byteRows, List.map_cons, List.flatten_cons] at ih ⊢
    rw [ih]
    rfl

theorem gives_b2s {s t e : TypeId} {x : Operand} {y : Opd} {es : Nat} {r : List (List D)} (h1 : (y.get st.fr).rows = some (es, r)) (ho : oper.op = .convert s t x) (hsrc : P.underlying s = some (.slice e)) (he : P.underlying e = some (.int .u8)) (hdst : P.underlying t = some .string)
    (hx : opdOf x = some y) (hs : SR N T g w st a) (hob : (sem tb (.b2s y) st).ob) : Gives P g w st a oper (sem tb (.b2s y) st).v := by
  simp only [sem] at hob ⊢
  · simp only [h1] at hob ⊢
    obtain ⟨hok, l, rfl⟩ := hob
    have r1 := rs_rows (opd_rs hs hx hok) h1
    rw [rowsBytes_byteRows]
    refine ⟨.string ⟨l.toArray⟩, ?_, .str l⟩
    have hflat := flat_byteRows l
    rcases rv_sl r1 with ⟨⟨ad, cp, hv, hn0⟩, hl⟩ | ⟨b, off, cap, n, o, f, hv, hg, hn, hcap, hes, hcl, hcell, hrv⟩
    · have : l = [] := by cases l <;> simp [byteRows] at hl ⊢
      subst this
      cases ad with
      | none =>
        simp [execOp, ho, hv, run_convert_bytes_string w s t e _ _ _ hsrc he hdst, Conv.bytesToString]
        rfl
      | some a0 =>
        have hload : (loadCells a0 0).run P w = .ok (([] : List Int).map (Value.int .u8)).toArray w := by simpa using run_loadCells_list (P := P) w a0 [] (by simp)
        have hrun := run_bytesToString w a0 0 cp [] hload
        simp only [execOp, ho, hv, Sem.run_bind, run_convert_bytes_string w s t e _ _ _ hsrc he hdst, hrun]
        simp [ByteArray.empty, ByteArray.emptyWithCapacity]
        rfl
    · have hload : (loadCells ⟨b, off, none⟩ (byteRows l).length).run P w = .ok ((l.map fun c => (c.toNat : Int)).map (Value.int .u8)).toArray w := by
        have := run_loadCells_list (P := P) w ⟨b, off, none⟩ ((l.map fun c => (c.toNat : Int)).map (Value.int .u8)) (by
          intro j v hj
          simp only [List.map_map, List.getElem?_map, Option.map_eq_some_iff] at hj
          obtain ⟨c, hc, rfl⟩ := hj
          have hd : (byteRows l).flatten[j]? = some (D.int .u8 c.toNat) := by rw [hflat]; simp [hc]
          have h1 := hcell j _ hd
          have h2 := rv_int (hrv j _ hd)
          rw [Addr.add_lit, h1, h2]
          rfl)
        simpa [byteRows] using this
      have hrun := run_bytesToString w ⟨b, off, none⟩ (byteRows l).length cap (l.map fun c => (c.toNat : Int)) hload
      rw [foldl_push_bytes] at hrun
      simp only [execOp, ho, hv, Sem.run_bind, run_convert_bytes_string w s t e _ _ _ hsrc he hdst, hrun]
      simp [ByteArray.empty, ByteArray.emptyWithCapacity]
      rfl

theorem opds_rs : ∀ {l : List Operand} {r : List Opd}, l.mapM opdOf = some r → (∀ x ∈ r, x.ok st.fr = true ∧ ∃ d, x.get st.fr = .d d) → SR N T g w st a →
    (l.map a.eval).length = (r.map fun x => (x.get st.fr).cellD).length ∧ ∀ (j : Nat) (v : Value) (d : D), (l.map a.eval)[j]? = some v → (r.map fun x => (x.get st.fr).cellD)[j]? = some d → RV g w v d := by
  intro l r h hok hs
  obtain ⟨h1, h2⟩ := mapM_some h
  refine ⟨by simp [h1], fun j v d hv hd => ?_⟩
  simp only [List.getElem?_map, Option.map_eq_some_iff] at hv hd
  obtain ⟨y, hy, rfl⟩ := hv
  obtain ⟨x, hx, rfl⟩ := hd
  obtain ⟨o1, d, o2⟩ := hok x (List.mem_of_getElem? hx)
  have := opd_rs hs (h2 j y x hy hx) o1
  rw [o2] at this ⊢
  exact this

theorem gives_mkFunc {fn : Fn} {first captured : Array Operand} {f' c' : List Opd} (ho : oper.op = .makeFunc fn first captured) (hf : first.toList.mapM opdOf = some f') (hc : captured.toList.mapM opdOf = some c')
    (hs : SR N T g w st a) (hob : (sem tb (.mkFunc fn f' c') st).ob) : Gives P g w st a oper (sem tb (.mkFunc fn f' c') st).v := by
  simp only [sem] at hob ⊢
  obtain ⟨h1, h2⟩ := opds_rs hf hob.1 hs
  obtain ⟨h3, h4⟩ := opds_rs hc hob.2 hs
  have := RV.func (g := g) (w := w) fn _ _ _ _ h1 h3 h2 h4
  refine ⟨_, ?_, this⟩
  have ha : ∀ (xs : Array Operand), xs.map a.eval = (xs.toList.map a.eval).toArray := fun xs => by apply Array.ext'; simp
  simp only [execOp, ho, Instr.makeFunc, ha]
  simp

end
end Go.Abs
