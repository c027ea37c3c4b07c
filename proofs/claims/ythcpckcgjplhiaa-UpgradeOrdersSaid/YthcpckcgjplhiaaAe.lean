/- The abstract layer, part 5: the operations that only compute or read, each held against the model's. -/
import Derived.Test.YthcpckcgjplhiaaAd
namespace Go.Abs

section
variable {P : Program} {N tb : Nat} {T : Nat → Prop} {g : Ghost} {w : World} {st : St} {a : Act} {oper : Oper}

/-- The operation gives a value and leaves the world alone. -/
def Gives (P : Program) (g : Ghost) (w : World) (st : St) (a : Act) (oper : Oper) (s : ASlot) : Prop :=
  ∃ v, (execOp a.eval oper).run P w = .ok (.value v) w ∧ RS g w st.live v s

theorem flat_getD {es : Nat} : ∀ {rows : List (List D)} (_ : ∀ r ∈ rows, r.length = es) (i j : Nat) (d : D), (rows.getD i [])[j]? = some d → rows.flatten[i * es + j]? = some d
  | [], _, i, j, d, h => by simp at h
  | r :: rows, hes, i, j, d, h => by
    have hr : r.length = es := hes r (by simp)
    cases i with
    | zero =>
      simp at h
      have hj : j < r.length := (List.getElem?_eq_some_iff.1 h).1
      simp [List.getElem?_append_left hj, h]
    | succ i =>
      have ih := flat_getD (rows := rows) (fun r hr => hes r (by simp [hr])) i j d (by simpa using h)
      rw [List.flatten_cons, List.getElem?_append_right (by rw [hr, Nat.succ_mul]; omega)]
      rw [hr, Nat.succ_mul, show i * es + es + j - es = i * es + j by omega]
      exact ih

theorem flat_length {es : Nat} : ∀ {rows : List (List D)} (_ : ∀ r ∈ rows, r.length = es), rows.flatten.length = rows.length * es
  | [], _ => by simp
  | r :: rows, h => by
    have h1 : r.length = es := h r (by simp)
    have h2 := flat_length (rows := rows) (fun r hr => h r (by simp [hr]))
    simp only [List.flatten_cons, List.length_append, h1, h2, List.length_cons, Nat.succ_mul]
    omega

theorem flat_drop {es : Nat} : ∀ {rows : List (List D)} (_ : ∀ r ∈ rows, r.length = es) (k : Nat), (rows.drop k).flatten = rows.flatten.drop (k * es)
  | [], _, k => by simp
  | r :: rows, h, 0 => by simp
  | r :: rows, h, k + 1 => by
    have h1 : r.length = es := h r (by simp)
    have h2 := flat_drop (rows := rows) (fun r hr => h r (by simp [hr])) k
    simp only [List.drop_succ_cons, List.flatten_cons, h2]
    rw [List.drop_append, h1, Nat.succ_mul]
    have : r.drop (k * es + es) = [] := List.drop_eq_nil_of_le (by rw [h1]; omega)
    rw [this, List.nil_append]
    congr 1
    omega

theorem flat_take {es : Nat} : ∀ {rows : List (List D)} (_ : ∀ r ∈ rows, r.length = es) (k : Nat), (rows.take k).flatten = rows.flatten.take (k * es)
  | [], _, k => by simp
  | r :: rows, h, 0 => by simp
  | r :: rows, h, k + 1 => by
    have h1 : r.length = es := h r (by simp)
    have h2 := flat_take (rows := rows) (fun r hr => h r (by simp [hr])) k
    simp only [List.take_succ_cons, List.flatten_cons, h2]
    rw [List.take_append, h1, Nat.succ_mul]
    have : r.take (k * es + es) = r := List.take_of_length_le (by rw [h1]; omega)
    rw [this]
    congr 2
    omega

theorem gives_mov {x : Operand} {y : Opd} (ho : oper.op = .move x ∨ oper.op = .assign x) (hx : opdOf x = some y) (hs : SR N T g w st a) (hok : y.ok st.fr = true) :
    Gives P g w st a oper (y.get st.fr) := by
  refine ⟨a.eval x, ?_, opd_rs hs hx hok⟩
  rcases ho with ho | ho <;> simp [execOp, ho]

theorem gives_pick {c x y : Operand} {c' x' y' : Opd} (ho : oper.op = .pick c x y) (hc : opdOf c = some c') (hx : opdOf x = some x') (hy : opdOf y = some y') (hs : SR N T g w st a)
    (hob : (sem tb (.pick c' x' y') st).ob) : Gives P g w st a oper (sem tb (.pick c' x' y') st).v := by
  simp only [sem] at hob ⊢
  cases h1 : c'.get st.fr with
  | d c1 =>
    cases c1 with
    | bool cb =>
      cases h2 : x'.get st.fr with
      | d x1 =>
        cases x1 with
        | bool xb =>
          cases h3 : y'.get st.fr with
          | d y1 =>
            cases y1 with
            | bool yb =>
              simp only [h1, h2, h3] at hob ⊢
              obtain ⟨o1, o2, o3⟩ := hob
              have r1 := opd_rs hs hc o1
              rw [h1] at r1
              have e1 := rv_bool (rs_d r1)
              cases cb with
              | true =>
                have r2 := opd_rs hs hx (o2 rfl)
                rw [h2] at r2
                have e2 := rv_bool (rs_d r2)
                exact ⟨.bool xb, by simp [execOp, ho, e1, e2, asBool], .bool _⟩
              | false =>
                have r3 := opd_rs hs hy (o3 rfl)
                rw [h3] at r3
                have e3 := rv_bool (rs_d r3)
                exact ⟨.bool yb, by simp [execOp, ho, e1, e3, asBool], .bool _⟩
            | _ => simp [h1, h2, h3, Out.bad] at hob
          | _ => simp [h1, h2, h3, Out.bad] at hob
        | _ => simp [h1, h2, Out.bad] at hob
      | _ => simp [h1, h2, Out.bad] at hob
    | _ => simp [h1, Out.bad] at hob
  | _ => simp [h1, Out.bad] at hob

theorem ro_block (hs : SR N T g w st a) {b id : Nat} (hb : g b = .obj id) :
    ∃ (c : Array Value) (e : TypeId), w.heap[b]? = some (.cells c e (0, 0)) ∧ (objCells st.os id).length ≤ c.size ∧
      ∀ (i : Nat) (s : ASlot), (objCells st.os id)[i]? = some s → ∃ v, c[i]? = some v ∧ v.oneCell' = true ∧ RC g w st.live v s := by
  obtain ⟨o, ho, hn⟩ := hs.ids b id hb
  obtain ⟨b', hb', hr⟩ := (hs.objs id o ho hn).resolve_right (fun h => h.2 b hb)
  have : b' = b := hs.inj b' b id hb' hb
  subst this
  cases o with
  | none => exact (hn rfl).elim
  | row cells => simpa [objCells, ho, AObj.cells, RO] using hr

theorem ro_obj (hs : SR N T g w st a) {b id : Nat} (hb : g b = .obj id) (_hne : 0 < (objCells st.os id).length) :
    ∃ (c : Array Value) (e : TypeId), w.heap[b]? = some (.cells c e (0, 0)) ∧ (objCells st.os id).length ≤ c.size ∧
      ∀ (i : Nat) (s : ASlot), (objCells st.os id)[i]? = some s → ∃ v, c[i]? = some v ∧ v.oneCell' = true ∧ RC g w st.live v s := ro_block hs hb

theorem cellD_rv {v : Value} {s : ASlot} (h : RC g w st.live v s) (hd : s.isCellD = true) : RV g w v s.cellD ∧ s.cellD.isCell = true := by
  cases s with
  | d x => exact ⟨h, hd⟩
  | own t es rows => exact ⟨h.1, rfl⟩
  | full es rows => exact ⟨h.1, rfl⟩
  | _ => simp [ASlot.isCellD] at hd

theorem gives_load {t : TypeId} {x : Operand} {y : Opd} {n : Option Nat} (ho : oper.op = .load t x) (hn : aggN P t = some n) (hx : opdOf x = some y) (hs : SR N T g w st a)
    (hob : (sem tb (.load n y) st).ob) : Gives P g w st a oper (sem tb (.load n y) st).v := by
  simp only [sem] at hob ⊢
  obtain ⟨hok, hob⟩ := hob
  have hr := opd_rs hs hx hok
  cases hy : y.get st.fr with
  | d p =>
    cases p with
    | ptr id off =>
      rw [hy] at hr
      simp only [hy, loadOut] at hob ⊢
      have hrv := rs_d hr
      generalize hv : a.eval x = v at hrv
      cases hrv with
      | ptr b _ _ hg =>
      cases n with
      | none =>
        obtain ⟨c, e, hheap, hsize, hcells⟩ := ro_obj hs hg (by have h : off < (objCells st.os id).length := hob; omega)
        obtain ⟨v, hv1, _, hv2⟩ := hcells off _ (List.getElem?_eq_getElem hob)
        refine ⟨v, ?_, ?_⟩
        · have hc : w.cell? ⟨b, off, none⟩ = some v := by simp [World.cell?, hheap, hv1]
          simp [execOp, ho, hv, Instr.loadAt, Instr.sureAddr, run_loadVar_none hn _ v hc]
        · have hob' : off < (objCells st.os id).length := hob
          have : (objCells st.os id).getD off .bad = (objCells st.os id)[off] := by simp [List.getD, hob']
          simp only [this]
          exact rs_of_rc hv2
      | some k =>
        obtain ⟨h0, h1, h2⟩ := hob
        obtain ⟨c, e, hheap, hsize, hcells⟩ := ro_obj hs hg h0
        have hlen : ((c.toList.drop off).take k).length = k := by simp; omega
        refine ⟨.agg ((c.toList.drop off).take k).toArray, ?_, ?_⟩
        · have hc : ∀ (j : Nat) (u : Value), ((c.toList.drop off).take k)[j]? = some u → w.cell? ((⟨b, off, none⟩ : Addr).add j) = some u := by
            intro j u hj
            rw [List.getElem?_take] at hj
            split at hj
            · rw [Addr.add_lit]
              simpa [World.cell?, hheap] using hj
            · cases hj
          simp [execOp, ho, hv, Instr.loadAt, Instr.sureAddr, run_loadVar_some hn _ _ hlen hc]
        · have hall : ∀ s ∈ ((objCells st.os id).drop off).take k, s.isCellD = true := List.all_eq_true.1 h2
          refine RV.agg _ _ (by simp; omega) (fun d hd => ?_) (fun j u d hu hd => ?_)
          · obtain ⟨s, hs', rfl⟩ := List.mem_map.1 hd
            have := hall s hs'
            cases s <;> simp_all [ASlot.isCellD, ASlot.cellD] <;> rfl
          · simp only [List.getElem?_map, Option.map_eq_some_iff] at hd
            obtain ⟨s, hs', rfl⟩ := hd
            have hsj : (objCells st.os id)[off + j]? = some s := by rw [List.getElem?_take] at hs'; split at hs' <;> simp_all
            have huj : c[off + j]? = some u := by rw [List.getElem?_take] at hu; split at hu <;> simp_all
            obtain ⟨v, hv1, _, hv2⟩ := hcells (off + j) s hsj
            rw [huj] at hv1
            cases hv1
            exact (cellD_rv (st := st) hv2 (hall s (List.mem_of_getElem? hs'))).1
    | _ => simp [hy, loadOut, Out.bad] at hob
  | rd cs =>
    rw [hy] at hr
    simp only [hy, loadOut] at hob ⊢
    obtain ⟨b, off, vs, hv, hl, hc, hcl, hrv⟩ := rs_rd hr
    cases n with
    | none =>
      have hlt : 0 < vs.length := by omega
      refine ⟨vs[0], ?_, ?_⟩
      · have hcell := hc 0 vs[0] (List.getElem?_eq_getElem hlt)
        rw [Addr.add_zero'] at hcell
        simp [execOp, ho, hv, Instr.loadAt, Instr.sureAddr, run_loadVar_none hn _ _ hcell]
      · have hob' : 0 < cs.length := hob
        have : cs.getD 0 default = cs[0] := by simp [List.getD, hob']
        simp only [this]
        exact hrv 0 vs[0] cs[0] (List.getElem?_eq_getElem hlt) (List.getElem?_eq_getElem hob)
    | some k =>
      refine ⟨.agg (vs.take k).toArray, ?_, ?_⟩
      · have hlen : (vs.take k).length = k := by simp; omega
        have hcell : ∀ (j : Nat) (u : Value), (vs.take k)[j]? = some u → w.cell? ((⟨b, off, none⟩ : Addr).add j) = some u := by
          intro j u hj
          rw [List.getElem?_take] at hj
          split at hj
          · exact hc j u hj
          · cases hj
        simp [execOp, ho, hv, Instr.loadAt, Instr.sureAddr, run_loadVar_some hn _ _ hlen hcell]
      · have := rv_agg_part hl hcl hrv 0 k
        simp only [List.drop_zero] at this
        exact this
  | _ => simp [hy, loadOut, Out.bad] at hob

theorem gives_nilCheck {x : Operand} {y : Opd} (ho : oper.op = .nilCheck x) (hx : opdOf x = some y) (hs : SR N T g w st a)
    (hob : (sem tb (.nilCheck y) st).ob) : Gives P g w st a oper (sem tb (.nilCheck y) st).v := by
  simp only [sem] at hob ⊢
  obtain ⟨hok, hob⟩ := hob
  have hr := opd_rs hs hx hok
  refine ⟨a.eval x, ?_, hr⟩
  cases hy : y.get st.fr with
  | d p =>
    rw [hy] at hr
    have hrv := rs_d hr
    cases p with
    | ptr id off => generalize hv : a.eval x = v at hrv; cases hrv; simp [execOp, ho, hv]
    | func fn f c =>
      cases fn with
      | func f => generalize hv : a.eval x = v at hrv; cases hrv; simp [execOp, ho, hv]
      | _ => simp [hy] at hob
    | _ => simp [hy] at hob
  | rd cs =>
    rw [hy] at hr
    obtain ⟨b, off, vs, hv, _⟩ := rs_rd hr
    simp [execOp, ho, hv]
  | _ => simp [hy] at hob

theorem gives_bin {op : BinOp} {t u : TypeId} {x y : Operand} {x' y' : Opd} (ho : oper.op = .binOp op t x y u) (hx : opdOf x = some x') (hy : opdOf y = some y') (hs : SR N T g w st a)
    (hob : (sem tb (.bin op x' y') st).ob) : Gives P g w st a oper (sem tb (.bin op x' y') st).v := by
  simp only [sem] at hob ⊢
  obtain ⟨h1, h2, h3⟩ := hob
  obtain ⟨r, hr1, hr2⟩ := run_binS (P := P) (t := t) h3 (opd_rs hs hx h1) (opd_rs hs hy h2) x y
  refine ⟨r, ?_, hr2⟩
  simp only [execOp, ho]
  rw [Sem.run_bind, hr1]
  simp

theorem run_equal_bool {t : TypeId} (ht : P.underlying t = some .bool) (b c : Bool) (w : World) : (Op.equal t (.bool b) (.bool c)).run P w = .ok (b == c) w := by
  show (Op.equalIn (9999 + 1) t (.bool b) (.bool c)).run P w = _
  rw [Op.equalIn]
  simp [run_underlying ht]

theorem size_mk (l : List UInt8) : (⟨l.toArray⟩ : ByteArray).size = l.length := rfl

theorem gives_eqb {neg : Bool} {t u : TypeId} {x y : Operand} {x' y' : Opd} (ho : oper.op = .binOp (if neg then .neq else .eql) t x y u) (ht : P.underlying t = some .bool) (hx : opdOf x = some x') (hy : opdOf y = some y')
    (hs : SR N T g w st a) (hob : (sem tb (.eqb neg x' y') st).ob) : Gives P g w st a oper (sem tb (.eqb neg x' y') st).v := by
  simp only [sem] at hob ⊢
  cases h1 : x'.get st.fr with
  | d p =>
    cases p with
    | bool b =>
      cases h2 : y'.get st.fr with
      | d q =>
        cases q with
        | bool c =>
          simp only [h1, h2] at hob ⊢
          have r1 := opd_rs hs hx hob.1
          have r2 := opd_rs hs hy hob.2
          rw [h1] at r1; rw [h2] at r2
          have e1 := rv_bool (rs_d r1); have e2 := rv_bool (rs_d r2)
          cases neg with
          | false => exact ⟨.bool (b == c), by simp [execOp, ho, e1, e2, eqGuard_at_bool, binOp, run_equal_bool ht], .bool _⟩
          | true => exact ⟨.bool !(b == c), by simp [execOp, ho, e1, e2, eqGuard_at_bool, binOp, run_equal_bool ht], .bool _⟩
        | _ => simp [h1, h2, Out.bad] at hob
      | _ => simp [h1, h2, Out.bad] at hob
    | _ => simp [h1, Out.bad] at hob
  | _ => simp [h1, Out.bad] at hob

theorem gives_not {t : TypeId} {x : Operand} {y : Opd} (ho : oper.op = .unOp .not t x) (hx : opdOf x = some y) (hs : SR N T g w st a)
    (hob : (sem tb (.not y) st).ob) : Gives P g w st a oper (sem tb (.not y) st).v := by
  simp only [sem] at hob ⊢
  cases h1 : y.get st.fr with
  | d p =>
    cases p with
    | bool b =>
      simp only [h1] at hob ⊢
      have r1 := opd_rs hs hx hob
      rw [h1] at r1
      exact ⟨.bool !b, by simp [execOp, ho, rv_bool (rs_d r1), Op.unary], .bool _⟩
    | _ => simp [h1, Out.bad] at hob
  | _ => simp [h1, Out.bad] at hob

theorem gives_neg {t : TypeId} {x : Operand} {y : Opd} (ho : oper.op = .unOp .neg t x) (hx : opdOf x = some y) (hs : SR N T g w st a)
    (hob : (sem tb (.neg y) st).ob) : Gives P g w st a oper (sem tb (.neg y) st).v := by
  simp only [sem] at hob ⊢
  cases h1 : y.get st.fr with
  | d p =>
    cases p with
    | int k n =>
      simp only [h1] at hob ⊢
      have r1 := opd_rs hs hx hob
      rw [h1] at r1
      exact ⟨.int k (k.wrap (0 - n)), by simp [execOp, ho, rv_int (rs_d r1), Op.unary, Op.intArith], .int _ _⟩
    | _ => simp [h1, Out.bad] at hob
  | _ => simp [h1, Out.bad] at hob

theorem gives_conv {s t : TypeId} {k j : IntKind} {x : Operand} {y : Opd} (ho : oper.op = .convert s t x) (hsrc : P.underlying s = some (.int j)) (hdst : P.underlying t = some (.int k)) (hx : opdOf x = some y) (hs : SR N T g w st a)
    (hob : (sem tb (.conv k y) st).ob) : Gives P g w st a oper (sem tb (.conv k y) st).v := by
  simp only [sem] at hob ⊢
  cases h1 : y.get st.fr with
  | d p =>
    cases p with
    | int k' n =>
      simp only [h1] at hob ⊢
      have r1 := opd_rs hs hx hob
      rw [h1] at r1
      exact ⟨.int k (k.wrap n), by simp [execOp, ho, rv_int (rs_d r1), convert, run_underlying hsrc, run_underlying hdst, Conv.intToInt], .int _ _⟩
    | _ => simp [h1, Out.bad] at hob
  | _ => simp [h1, Out.bad] at hob

theorem gives_asStr {s t : TypeId} {x : Operand} {y : Opd} (ho : oper.op = .convert s t x) (hsrc : P.underlying s = some .string) (hdst : P.underlying t = some .string) (hx : opdOf x = some y) (hs : SR N T g w st a)
    (hob : (sem tb (.asStr y) st).ob) : Gives P g w st a oper (sem tb (.asStr y) st).v := by
  simp only [sem] at hob ⊢
  cases h1 : y.get st.fr with
  | d p =>
    cases p with
    | str l =>
      simp only [h1] at hob ⊢
      have r1 := opd_rs hs hx hob
      rw [h1] at r1
      exact ⟨_, by simp [execOp, ho, rv_str (rs_d r1), convert, run_underlying hsrc, run_underlying hdst], .str l⟩
    | _ => simp [h1, Out.bad] at hob
  | _ => simp [h1, Out.bad] at hob

theorem gives_i2s {s t : TypeId} {j : IntKind} {x : Operand} {y : Opd} (ho : oper.op = .convert s t x) (hsrc : P.underlying s = some (.int j)) (hdst : P.underlying t = some .string) (hx : opdOf x = some y) (hs : SR N T g w st a)
    (hob : (sem tb (.i2s y) st).ob) : Gives P g w st a oper (sem tb (.i2s y) st).v := by
  simp only [sem] at hob ⊢
  cases h1 : y.get st.fr with
  | d p =>
    cases p with
    | int k' n =>
      simp only [h1] at hob ⊢
      have r1 := opd_rs hs hx hob
      rw [h1] at r1
      refine ⟨.string (Utf8.encode n), by simp [execOp, ho, rv_int (rs_d r1), convert, run_underlying hsrc, run_underlying hdst, Conv.intToString], ?_⟩
      have := RV.str (g := g) (w := w) (Utf8.encode n).data.toList
      exact this
    | _ => simp [h1, Out.bad] at hob
  | _ => simp [h1, Out.bad] at hob

theorem gives_lenS {t : TypeId} {x : Operand} {y : Opd} (ho : oper.op = .call { callee := .builtin .len, args := #[x], argTypes := #[t] })
    (ht : P.underlying t = some .string) (hx : opdOf x = some y) (hs : SR N T g w st a)
    (hob : (sem tb (.lenS y) st).ob) : Gives P g w st a oper (sem tb (.lenS y) st).v := by
  simp only [sem] at hob ⊢
  cases h1 : y.get st.fr with
  | d p =>
    cases p with
    | str l =>
      simp only [h1] at hob ⊢
      have r1 := opd_rs hs hx hob
      rw [h1] at r1
      refine ⟨.int .i64 l.length, ?_, .int _ _⟩
      simp [execOp, ho, resolve, invoke, builtin, Builtin.len_, run_underlying ht, rv_str (rs_d r1), goInt, size_mk]
    | _ => simp [h1, Out.bad] at hob
  | _ => simp [h1, Out.bad] at hob

theorem len_rv {live : List Nat} {v : Value} {s : ASlot} {n : Nat} (h : RS g w live v s) (hn : s.len? = some n) : ∃ a c, v = .slice a n c := by
  cases s with
  | d x =>
    have h' : RV g w v x := h
    cases x <;> simp [ASlot.len?] at hn <;> subst hn
    · exact rv_sl_len h'
    · generalize hy : D.ref _ _ _ _ = y at h'
      cases h' <;> cases hy
      · exact ⟨_, _, rfl⟩
      · exact ⟨_, _, rfl⟩
    · generalize hy : D.nilsl = y at h'
      cases h' <;> cases hy
      exact ⟨_, _, rfl⟩
  | own t es rows => simp [ASlot.len?] at hn; subst hn; exact rv_sl_len h.1
  | uni t es rows => simp [ASlot.len?] at hn; subst hn; exact h.1
  | full es rows => simp [ASlot.len?] at hn; subst hn; exact rv_sl_len h.1
  | _ => simp [ASlot.len?] at hn

theorem gives_len {t e : TypeId} {x : Operand} {y : Opd} (ho : oper.op = .call { callee := .builtin .len, args := #[x], argTypes := #[t] })
    (ht : P.underlying t = some (.slice e)) (hx : opdOf x = some y) (hs : SR N T g w st a)
    (hob : (sem tb (.len y) st).ob) : Gives P g w st a oper (sem tb (.len y) st).v := by
  simp only [sem] at hob ⊢
  cases h1 : (y.get st.fr).len? with
  | none => simp [h1, Out.bad] at hob
  | some n =>
    simp only [h1] at hob ⊢
    obtain ⟨ad, c, hv⟩ := len_rv (opd_rs hs hx hob) h1
    refine ⟨.int .i64 n, ?_, .int _ _⟩
    simp [execOp, ho, resolve, invoke, builtin, Builtin.len_, run_underlying ht, hv, goInt]

end
end Go.Abs
