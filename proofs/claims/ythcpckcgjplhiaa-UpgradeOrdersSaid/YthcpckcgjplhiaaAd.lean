/- The abstract layer, part 4: the relation between abstract states and the model's; the laws of the operations that only compute. -/
import Derived.Test.YthcpckcgjplhiaaAc
import Derived.Laws.Slices
import Derived.Laws.Closers25
namespace Go.Abs

def ASlot.toks : ASlot → List Nat
  | .own t _ _ => [t]
  | .uni t _ _ => [t]
  | .tup l => l.flatMap tokOf
  | _ => []

structure St.Wf (T : Nat → Prop) (st : St) : Prop where
  live : ∀ t ∈ st.live, T t
  fr : ∀ (k : Nat) (s : ASlot), st.fr.get k = some (true, s) → ∀ t ∈ s.toks, T t
  os : ∀ (id : Nat) (o : AObj), st.os[id]? = some o → ∀ s ∈ o.cells, ∀ t ∈ s.toks, T t

/-- An object's memory; one without cells may have none. -/
def ObjIs (g : Ghost) (w : World) (live : List Nat) (id : Nat) (o : AObj) : Prop := (∃ b, g b = .obj id ∧ RO g w live b o) ∨ (o = .row [] ∧ ∀ b, g b ≠ .obj id)

theorem ObjIs.block {g : Ghost} {w : World} {live : List Nat} {id : Nat} {o : AObj} (h : ObjIs g w live id o) (hn : o.cells ≠ []) : ∃ b, g b = .obj id ∧ RO g w live b o :=
  h.resolve_right fun h => hn (by rw [h.1]; rfl)

structure SR (N : Nat) (T : Nat → Prop) (g : Ghost) (w : World) (st : St) (a : Act) : Prop where
  dom : Dom g w
  defers : a.defers = []
  size : a.tmps.size = N
  slots : ∀ (k : Nat) (v : Bool) (s : ASlot), st.fr.get k = some (v, s) →
    (v = true → RS g w st.live (a.tmps.getD k undef) s) ∧ (v = false → a.tmps.getD k undef = undef)
  objs : ∀ (id : Nat) (o : AObj), st.os[id]? = some o → o ≠ .none → ObjIs g w st.live id o
  inj : ∀ (b b' id : Nat), g b = .obj id → g b' = .obj id → b = b'
  ids : ∀ (b id : Nat), g b = .obj id → ∃ o, st.os[id]? = some o ∧ o ≠ .none
  wf : st.Wf T

theorem constD_rv {g : Ghost} {w : World} {v : Value} {d : D} (h : constD v = some d) : RV g w v d := by
  unfold constD at h
  split at h <;> simp at h <;> subst h
  · exact .int _ _
  · exact .bool _
  · rename_i s
    have := RV.str (g := g) (w := w) s.data.toList
    simpa using this
  · exact .nilptr
  · exact .nilfunc
  · exact .niliface
  · exact .nilmap
  · exact .nils

theorem constD_cell {v : Value} {d : D} (h : constD v = some d) : d.isCell = true := by
  unfold constD at h
  split at h <;> simp at h <;> subst h <;> rfl

theorem mapM_some {α β : Type} {f : α → Option β} : ∀ {l : List α} {r : List β}, l.mapM f = some r → l.length = r.length ∧ ∀ (i : Nat) (x : α) (y : β), l[i]? = some x → r[i]? = some y → f x = some y
  | [], r, h => by simp at h; subst h; simp
  | x :: l, r, h => by
    simp only [List.mapM_cons, Option.bind_eq_bind, Option.pure_def] at h
    cases hx : f x with
    | none => simp [hx] at h
    | some y =>
      cases hl : l.mapM f with
      | none => simp [hx, hl] at h
      | some r' =>
        simp [hx, hl] at h
        subst h
        obtain ⟨h1, h2⟩ := mapM_some hl
        refine ⟨by simp [h1], fun i u v hu hv => ?_⟩
        cases i with
        | zero => simp at hu hv; subst hu hv; exact hx
        | succ i => exact h2 i u v (by simpa using hu) (by simpa using hv)

theorem constS_rc {g : Ghost} {w : World} {live : List Nat} {v : Value} {s : ASlot} (h : constS v = some s) : RC g w live v s := by
  unfold constS at h
  split at h
  · rename_i cs
    cases hm : cs.toList.mapM constD with
    | none => simp [hm] at h
    | some l =>
      simp [hm] at h
      subst h
      obtain ⟨h1, h2⟩ := mapM_some hm
      have : RV g w (.agg cs.toList.toArray) (.agg l) := .agg _ _ h1
        (fun d hd => by
          obtain ⟨i, hi⟩ := List.getElem?_of_mem hd
          have hlt : i < cs.toList.length := by rw [h1]; exact (List.getElem?_eq_some_iff.1 hi).1
          exact constD_cell (h2 i cs.toList[i] d (List.getElem?_eq_getElem hlt) hi))
        (fun j v d hv hd => constD_rv (h2 j v d hv hd))
      simpa [RC] using this
  · cases hc : constD v with
    | none => simp [hc] at h
    | some d => simp [hc] at h; subst h; exact constD_rv hc

theorem constS_notTup {v : Value} {s : ASlot} (h : constS v = some s) : ∀ l, s ≠ .tup l := by
  unfold constS at h
  split at h
  · rename_i cs
    cases hm : cs.toList.mapM constD with
    | none => simp [hm] at h
    | some l => simp [hm] at h; subst h; simp
  · cases hc : constD v with
    | none => simp [hc] at h
    | some d => simp [hc] at h; subst h; simp

theorem constS_toks {v : Value} {s : ASlot} (h : constS v = some s) : s.toks = [] := by
  unfold constS at h
  split at h
  · rename_i cs
    cases hm : cs.toList.mapM constD with
    | none => simp [hm] at h
    | some l => simp [hm] at h; subst h; rfl
  · cases hc : constD v with
    | none => simp [hc] at h
    | some d => simp [hc] at h; subst h; rfl

theorem rs_of_rc {g : Ghost} {w : World} {live : List Nat} {v : Value} {s : ASlot} (h : RC g w live v s) : RS g w live v s := by
  cases s <;> first | exact h | exact h.elim

theorem rc_of_rs {g : Ghost} {w : World} {live : List Nat} {v : Value} {s : ASlot} (h : RS g w live v s) (hn : ∀ l, s ≠ .tup l) : RC g w live v s := by
  cases s <;> first | exact h | exact (hn _ rfl).elim

theorem opd_rs {N : Nat} {T : Nat → Prop} {g : Ghost} {w : World} {st : St} {a : Act} (hs : SR N T g w st a) {y : Operand} {x : Opd} (h : opdOf y = some x) (hok : x.ok st.fr = true) :
    RS g w st.live (a.eval y) (x.get st.fr) := by
  cases y with
  | tmp t =>
    simp [opdOf] at h; subst h
    simp only [Opd.ok, Opd.get] at hok ⊢
    cases hg : st.fr.get t with
    | none => simp [hg] at hok
    | some p =>
      obtain ⟨v, s⟩ := p
      simp [hg] at hok
      exact (hs.slots t v s hg).1 hok
  | const v =>
    simp only [opdOf, Option.map_eq_some_iff] at h
    obtain ⟨s, h1, rfl⟩ := h
    exact rs_of_rc (constS_rc h1)
  | func f =>
    simp [opdOf] at h; subst h
    show RV g w (.func (.func f) #[] #[]) (.func (.func f) [] [])
    exact .func (.func f) [] [] [] [] rfl rfl (by simp) (by simp)
  | global g => simp [opdOf] at h

theorem opd_toks {N : Nat} {T : Nat → Prop} {g : Ghost} {w : World} {st : St} {a : Act} (hs : SR N T g w st a) {y : Operand} {x : Opd} (h : opdOf y = some x) (hok : x.ok st.fr = true) :
    ∀ t ∈ (x.get st.fr).toks, T t := by
  cases y with
  | tmp t =>
    simp [opdOf] at h; subst h
    simp only [Opd.get, Opd.ok] at hok ⊢
    cases hg : st.fr.get t with
    | none => simp [ASlot.toks]
    | some p =>
      obtain ⟨v, s⟩ := p
      simp [hg] at hok
      subst hok
      exact hs.wf.fr t s hg
  | const v =>
    simp only [opdOf, Option.map_eq_some_iff] at h
    obtain ⟨s, h1, rfl⟩ := h
    simp [Opd.get, constS_toks h1]
  | func f => simp [opdOf] at h; subst h; simp [Opd.get, ASlot.toks]
  | global g => simp [opdOf] at h

/-- A slot that is a plain value. -/
theorem rs_d {g : Ghost} {w : World} {live : List Nat} {v : Value} {x : D} (h : RS g w live v (.d x)) : RV g w v x := h

theorem rv_int {g : Ghost} {w : World} {v : Value} {k : IntKind} {n : Int} (h : RV g w v (.int k n)) : v = .int k n := by cases h; rfl
theorem rv_bool {g : Ghost} {w : World} {v : Value} {b : Bool} (h : RV g w v (.bool b)) : v = .bool b := by cases h; rfl
theorem rv_str {g : Ghost} {w : World} {v : Value} {s : List UInt8} (h : RV g w v (.str s)) : v = .string ⟨s.toArray⟩ := by cases h; rfl

/-- What is read as a slice. -/
theorem rs_rows {g : Ghost} {w : World} {live : List Nat} {v : Value} {s : ASlot} {es : Nat} {rows : List (List D)} (h : RS g w live v s) (hr : s.rows = some (es, rows)) : RV g w v (.sl es rows) := by
  cases s with
  | d x =>
    cases x <;> simp [ASlot.rows] at hr
    · obtain ⟨rfl, rfl⟩ := hr
      exact h
    · obtain ⟨rfl, rfl⟩ := hr
      cases h
      exact .nilsl none 0 0 (fun _ => rfl)
  | own t e r => simp [ASlot.rows] at hr; obtain ⟨rfl, rfl⟩ := hr; exact h.1
  | full e r => simp [ASlot.rows] at hr; obtain ⟨rfl, rfl⟩ := hr; exact h.1
  | _ => simp [ASlot.rows] at hr

/-- A slice's value: nil, or an address in a row. -/
theorem rv_sl {g : Ghost} {w : World} {v : Value} {es : Nat} {rows : List (List D)} (h : RV g w v (.sl es rows)) :
    ((∃ a c, v = .slice a 0 c ∧ (a = none → c = 0)) ∧ rows = []) ∨
    ∃ b off cap n o, ∃ f : Nat → Value, v = .slice (some ⟨b, off, none⟩) rows.length cap ∧ g b = .row n o ∧ off + rows.flatten.length ≤ n ∧ rows.length ≤ cap ∧
      (∀ r ∈ rows, r.length = es) ∧ (∀ d ∈ rows.flatten, d.isCell = true) ∧
      (∀ (j : Nat) (d : D), rows.flatten[j]? = some d → w.cell? ⟨b, off + j, none⟩ = some (f j)) ∧ (∀ (j : Nat) (d : D), rows.flatten[j]? = some d → RV g w (f j) d) := by
  cases h with
  | nilsl a c _ hn => exact .inl ⟨⟨a, c, rfl, hn⟩, rfl⟩
  | sl b off cap _ n o _ f hg hn hcap hes hcl hcell hrv => exact .inr ⟨b, off, cap, n, o, f, rfl, hg, hn, hcap, hes, hcl, hcell, hrv⟩

theorem rv_sl_len {g : Ghost} {w : World} {v : Value} {es : Nat} {rows : List (List D)} (h : RV g w v (.sl es rows)) : ∃ a c, v = .slice a rows.length c := by
  rcases rv_sl h with ⟨⟨a, c, rfl, _⟩, rfl⟩ | ⟨b, off, cap, n, o, f, rfl, _⟩
  · exact ⟨a, c, rfl⟩
  · exact ⟨_, _, rfl⟩

theorem rv_agg {g : Ghost} {w : World} {v : Value} {ds : List D} (h : RV g w v (.agg ds)) :
    ∃ vs : List Value, v = .agg vs.toArray ∧ vs.length = ds.length ∧ (∀ d ∈ ds, d.isCell = true) ∧ ∀ (j : Nat) (u : Value) (d : D), vs[j]? = some u → ds[j]? = some d → RV g w u d := by
  cases h with
  | agg vs _ hl hcl h => exact ⟨vs, rfl, hl, hcl, h⟩

/-- The aggregate of a stretch of an aggregate's cells. -/
theorem rv_agg_part {g : Ghost} {w : World} {vs : List Value} {ds : List D} (hl : vs.length = ds.length) (hcl : ∀ d ∈ ds, d.isCell = true)
    (h : ∀ (j : Nat) (u : Value) (d : D), vs[j]? = some u → ds[j]? = some d → RV g w u d) (off k : Nat) :
    RV g w (.agg ((vs.drop off).take k).toArray) (.agg ((ds.drop off).take k)) :=
  .agg _ _ (by simp [hl]) (fun d hd => hcl d (List.mem_of_mem_drop (List.mem_of_mem_take hd)))
    (fun j u d hu hd => h (off + j) u d (by simp [List.getElem?_take] at hu; exact hu.2) (by simp [List.getElem?_take] at hd; exact hd.2))

section pure
variable {P : Program} {g : Ghost} {w : World} {live : List Nat}

theorem run_binInt {op : BinOp} {t : TypeId} {k : IntKind} {a b : Int} (h : (binInt op k a b).2) (hop : op ≠ .shl ∧ op ≠ .shr) :
    ∃ v, (binOp op t (.int k a) (.int k b)).run P w = .ok v w ∧ RS g w live v (binInt op k a b).1 := by
  cases op <;> simp only [binInt] at h ⊢ <;> first
    | (exact (hop.1 rfl).elim)
    | (exact (hop.2 rfl).elim)
    | (refine ⟨_, by simp [binOp, Op.intArith]; rfl, ?_⟩; exact .int _ _)
    | (refine ⟨_, by simp [binOp, Op.intDiv, h]; rfl, ?_⟩; exact .int _ _)
    | (refine ⟨_, by simp [binOp]; rfl, ?_⟩; exact .int _ _)
    | (refine ⟨_, by simp [binOp, Op.intCmp]; rfl, ?_⟩; exact .bool _)

theorem toList_mk (l : List UInt8) : (⟨l.toArray⟩ : ByteArray).toList = l := by
  rw [ByteArray.toList_eq]

theorem run_binStr {op : BinOp} {t : TypeId} {a b : List UInt8} (h : (binStr op a b).2) :
    ∃ v, (binOp op t (.string ⟨a.toArray⟩) (.string ⟨b.toArray⟩)).run P w = .ok v w ∧ RS g w live v (binStr op a b).1 := by
  by_cases hop : op = .add
  case neg =>
    cases op <;> simp only [binStr] at h ⊢ <;> first
      | exact h.elim
      | exact (hop rfl).elim
      | (refine ⟨_, by simp only [binOp, Op.stringOp, toList_mk]; rfl, ?_⟩; exact .bool _)
  subst hop
  simp only [binStr] at h ⊢
  refine ⟨.string ⟨(a ++ b).toArray⟩, ?_, .str _⟩
  have hsz : ∀ l : List UInt8, (⟨l.toArray⟩ : ByteArray).size = l.length := fun l => by simp [ByteArray.size]
  have h' : ¬ ((9223372036854775807 : Int) < (a.length : Int) + (b.length : Int)) := by have := h; omega
  have hap : (⟨a.toArray⟩ : ByteArray) ++ ⟨b.toArray⟩ = ⟨(a ++ b).toArray⟩ := by
    apply ByteArray.ext
    simp [ByteArray.data_append]
  simp [binOp, Op.stringOp, hsz, h', hap]

theorem run_binS {op : BinOp} {t : TypeId} {x y : ASlot} {u v : Value} (h : (binS op x y).ob) (hx : RS g w live u x) (hy : RS g w live v y) (ex ey : Operand) :
    ∃ r, (do eqGuard op t ex ey u v; binOp op t u v : Sem Value).run P w = .ok r w ∧ RS g w live r (binS op x y).v := by
  cases x with
  | d x =>
    cases y with
    | d y =>
      cases x with
      | int k a =>
        cases y with
        | int k' b =>
          have hu := rv_int (rs_d hx); have hv := rv_int (rs_d hy); subst hu hv
          by_cases hl : op = .shl
          · subst hl
            simp only [binS] at h ⊢
            refine ⟨.int k (k.wrap (a * 2 ^ (min b.toNat k.bits))), ?_, .int _ _⟩
            have : ¬ (b < 0) := by omega
            simp [eqGuard_at_int, binOp, Op.shift, this]
          · by_cases hr : op = .shr
            · subst hr
              simp only [binS] at h ⊢
              refine ⟨.int k (a.fdiv (2 ^ (min b.toNat k.bits))), ?_, .int _ _⟩
              have : ¬ (b < 0) := by omega
              simp [eqGuard_at_int, binOp, Op.shift, this]
            · have hb : (binS op (.d (.int k a)) (.d (.int k' b))) = { v := (binInt op k a b).1, ob := k = k' ∧ (binInt op k a b).2 } := by
                cases op <;> first | rfl | (exact (hl rfl).elim) | (exact (hr rfl).elim)
              rw [hb] at h ⊢
              obtain ⟨rfl, h2⟩ := h
              obtain ⟨r, hr1, hr2⟩ := run_binInt (P := P) (g := g) (w := w) (live := live) (t := t) h2 ⟨hl, hr⟩
              exact ⟨r, by simp [eqGuard_at_int, hr1], hr2⟩
        | _ => simp [binS, Out.bad] at h
      | str a =>
        cases y with
        | str b =>
          have hu := rv_str (rs_d hx); have hv := rv_str (rs_d hy); subst hu hv
          simp only [binS] at h ⊢
          obtain ⟨r, hr1, hr2⟩ := run_binStr (P := P) (g := g) (w := w) (live := live) (t := t) h
          exact ⟨r, by simp [eqGuard_at_string, hr1], hr2⟩
        | _ => simp [binS, Out.bad] at h
      | _ => simp [binS, Out.bad] at h
    | _ => cases x <;> simp [binS, Out.bad] at h
  | _ => simp [binS, Out.bad] at h

/-- The cells of a pointer's target that stand for good. -/
theorem rs_rd {v : Value} {cells : List D} (h : RS g w live v (.rd cells)) :
    ∃ b off, ∃ vs : List Value, v = .pointer (some ⟨b, off, none⟩) ∧ vs.length = cells.length ∧ (∀ (j : Nat) (u : Value), vs[j]? = some u → w.cell? ((⟨b, off, none⟩ : Addr).add j) = some u) ∧
      (∀ d ∈ cells, d.isCell = true) ∧ ∀ (j : Nat) (u : Value) (d : D), vs[j]? = some u → cells[j]? = some d → RV g w u d := by
  obtain ⟨b, off, n, o, f, rfl, hg, hn, hc⟩ := h
  refine ⟨b, off, (List.range cells.length).map f, rfl, by simp, ?_, ?_, ?_⟩
  · intro j u hj
    simp only [List.getElem?_map, Option.map_eq_some_iff] at hj
    obtain ⟨i, hi, rfl⟩ := hj
    have hlt : j < cells.length := by have := (List.getElem?_eq_some_iff.1 hi).1; simpa using this
    have hij : i = j := by rw [List.getElem?_range hlt] at hi; exact (Option.some.inj hi).symm
    subst hij
    rw [Addr.add_lit]
    exact (hc i cells[i] (List.getElem?_eq_getElem hlt)).2.1
  · intro d hd
    obtain ⟨i, hi⟩ := List.getElem?_of_mem hd
    exact (hc i d hi).1
  · intro j u d hj hd
    simp only [List.getElem?_map, Option.map_eq_some_iff] at hj
    obtain ⟨i, hi, rfl⟩ := hj
    have hlt : j < cells.length := (List.getElem?_eq_some_iff.1 hd).1
    have hij : i = j := by rw [List.getElem?_range hlt] at hi; exact (Option.some.inj hi).symm
    subst hij
    exact (hc i d hd).2.2

theorem aggN_some {t : TypeId} {n : Nat} (h : aggN P t = some (some n)) : ∃ i, P.info? t = some i ∧ i.size = n ∧ ((∃ fs, P.underlying t = some (.struct fs)) ∨ ∃ k e, P.underlying t = some (.array k e)) := by
  unfold aggN at h
  split at h <;> simp at h
  · rename_i i fs hi hu; exact ⟨i, hi, h, .inl ⟨fs, hu⟩⟩
  · rename_i i k e hi hu; exact ⟨i, hi, h, .inr ⟨k, e, hu⟩⟩

theorem aggN_none {t : TypeId} (h : aggN P t = some none) : ∃ i d, P.info? t = some i ∧ i.size = 1 ∧ P.underlying t = some d ∧ (∀ fs, d ≠ .struct fs) ∧ ∀ k e, d ≠ .array k e := by
  unfold aggN at h
  split at h <;> simp at h
  rename_i i d h1 h2 hi hu
  refine ⟨i, d, hi, h, hu, fun fs e => ?_, fun k el e => ?_⟩
  · subst e; exact h1 fs rfl
  · subst e; exact h2 k el rfl

theorem run_isAgg_some {t : TypeId} {n : Nat} (h : aggN P t = some (some n)) (w : World) : (isAgg t).run P w = .ok true w := by
  obtain ⟨i, _, _, hu | hu⟩ := aggN_some h
  · obtain ⟨fs, hu⟩ := hu; simp [isAgg, run_underlying hu]
  · obtain ⟨k, e, hu⟩ := hu; simp [isAgg, run_underlying hu]

theorem run_isAgg_none {t : TypeId} (h : aggN P t = some none) (w : World) : (isAgg t).run P w = .ok false w := by
  obtain ⟨i, d, _, _, hu, h1, h2⟩ := aggN_none h
  unfold isAgg
  rw [Sem.run_bind, run_underlying hu]
  cases d <;> simp_all

theorem run_sizeOf_info {t : TypeId} {i : TypeInfo} (h : P.info? t = some i) (w : World) : (sizeOf t).run P w = .ok i.size w := by
  simp [sizeOf, typeInfo, h]

theorem run_part_some {t : TypeId} {n : Nat} (h : aggN P t = some (some n)) (cs : Array Value) (off : Nat) (w : World) : (part t cs off).run P w = .ok (.agg (cs.extract off (off + n))) w := by
  obtain ⟨i, hi, rfl, _⟩ := aggN_some h
  simp [part, run_isAgg_some h, run_sizeOf_info hi]

theorem run_part_none {t : TypeId} (h : aggN P t = some none) (cs : Array Value) (off : Nat) (v : Value) (hv : cs[off]? = some v) (w : World) : (part t cs off).run P w = .ok v w := by
  simp [part, run_isAgg_none h, hv]

theorem run_loadVar_some {t : TypeId} {n : Nat} (h : aggN P t = some (some n)) (a : Addr) (cs : List Value) (hl : cs.length = n) (hc : ∀ (j : Nat) (u : Value), cs[j]? = some u → w.cell? (a.add j) = some u) :
    (loadVar t a).run P w = .ok (.agg cs.toArray) w := by
  obtain ⟨i, hi, hin, _⟩ := aggN_some h
  have hl' := run_loadCells_list (P := P) w a cs hc
  simp [loadVar, run_isAgg_some h, run_sizeOf_info hi, hin, ← hl, hl']

theorem run_loadVar_none {t : TypeId} (h : aggN P t = some none) (a : Addr) (v : Value) (hc : w.cell? a = some v) : (loadVar t a).run P w = .ok v w := by
  simp [loadVar, run_isAgg_none h, hc]

end pure
end Go.Abs
