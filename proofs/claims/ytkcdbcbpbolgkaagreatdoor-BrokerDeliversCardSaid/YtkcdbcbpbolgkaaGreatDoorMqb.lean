/- Texts Ad, Ae. -/
import Derived.Test.YtkcdbcbpbolgkaaGreatDoorMqa
import Derived.Laws.Slices
import Derived.Laws.Closers25
set_option linter.unusedSimpArgs false
set_option linter.unusedVariables false
namespace Go.Abs
def ASlot.toks : ASlot → List Nat
 | .own t _ _ => [t]
 | .uni t _ _ => [t]
 | .tup l => l.flatMap qbx
 | _ => []
structure St.Wf (T : Nat → Prop) (st : St) : Prop where
 live : ∀ t ∈ st.live, T t
 fr : ∀ (k : Nat) (s : ASlot), st.fr.get k = some (true, s) → ∀ t ∈ s.toks, T t
 os : ∀ (id : Nat) (o : AObj), st.os[id]? = some o → ∀ s ∈ o.cells, ∀ t ∈ s.toks, T t
def ObjIs (g : Ghost) (w : World) (live : List Nat) (id : Nat) (o : AObj) : Prop := (∃ b, g b = .obj id ∧ RO g w live b o) ∨ (o = .row [] ∧ ∀ b, g b ≠ .obj id)
theorem ObjIs.block {g : Ghost} {w : World} {live : List Nat} {id : Nat} {o : AObj} (h : ObjIs g w live id o) (hn : o.cells ≠ []) : ∃ b, g b = .obj id ∧ RO g w live b o :=
 h.resolve_right fun h => hn (by rw [h.1]; rfl)
structure SR (N : Nat) (T : Nat → Prop) (g : Ghost) (w : World) (st : St) (a : Act) : Prop where
 dom : Dom g w
 defers : True
 size : a.tmps.size = N
 slots : ∀ (k : Nat) (v : Bool) (s : ASlot), st.fr.get k = some (v, s) →
  (v = true → RS g w st.live (a.tmps.getD k undef) s) ∧ (v = false → a.tmps.getD k undef = undef)
 objs : ∀ (id : Nat) (o : AObj), st.os[id]? = some o → o ≠ .none → ObjIs g w st.live id o
 inj : ∀ (b b' id : Nat), g b = .obj id → g b' = .obj id → b = b'
 ids : ∀ (b id : Nat), g b = .obj id → ∃ o, st.os[id]? = some o ∧ o ≠ .none
 wf : st.Wf T
theorem qj0 {g : Ghost} {w : World} {v : Value} {d : D} (h : qcl v = some d) : RV g w v d := by
 unfold qcl at h
 split at h <;> simp at h <;> subst h
 ·exact .int _ _
 ·exact .bool _
 ·rename_i s
  have := RV.str (g := g) (w := w) s.data.toList
  omega
 ·exact .nilptr
 ·exact .nilfunc
 ·exact .niliface
 ·exact .nilmap
 ·exact .nils
theorem qi6 {v : Value} {d : D} (h : qcl v = some d) : d.isCell = true := by
 unfold qcl at h
 split at h <;> simp at h <;> subst h <;> rfl
theorem jy {α β : Type} {f : α → Option β} : ∀ {l : List α} {r : List β}, l.mapM f = some r → l.length = r.length ∧ ∀ (i : Nat) (x : α) (y : β), l[i]? = some x → r[i]? = some y → f x = some y
 | [], r, h => by grind
 | x :: l, r, h => by
  simp only [List.mapM_cons, Option.bind_eq_bind, Option.pure_def] at h
  cases hx : f x with
  | none => simp [hx] at h
  | some y =>
   cases hl : l.mapM f with
   | none => simp [hx, hl] at h
   | some r' =>
    simp [hx, hl] at h
    subst h
    obtain ⟨h1, h2⟩ := jy hl
    refine ⟨by simp [h1], fun i u v hu hv => ?_⟩
    cases i with
    | zero => simp at hu hv; subst hu hv; exact hx
    | succ i => exact h2 i u v (by simpa using hu) (by simpa using hv)
theorem qj1 {g : Ghost} {w : World} {live : List Nat} {v : Value} {s : ASlot} (h : qjy v = some s) : RC g w live v s := by
 unfold qjy at h
 split at h
 ·rename_i cs
  cases hm : cs.toList.mapM qcl with
  | none => grind
  | some l =>
   simp [hm] at h
   subst h
   obtain ⟨h1, h2⟩ := jy hm
   have : RV g w (.agg cs.toList.toArray) (.agg l) := .agg _ _ h1
    (fun d hd => by
     obtain ⟨i, hi⟩ := List.getElem?_of_mem hd
     have hlt : i < cs.toList.length := by grind
     exact qi6 (h2 i cs.toList[i] d (List.getElem?_eq_getElem hlt) hi))
    (fun j v d hv hd => qj0 (h2 j v d hv hd))
   simp_all [RC]
 ·cases hc : qcl v with
  | none => grind
  | some d => simp [hc] at h; subst h; exact qj0 hc
theorem qu8 {v : Value} {s : ASlot} (h : qjy v = some s) : ∀ l, s ≠ .tup l := by
 unfold qjy at h
 split at h
 ·rename_i cs
  cases hm : cs.toList.mapM qcl with
  | none => grind
  | some l => grind
 ·cases hc : qcl v with
  | none => grind
  | some d => grind
theorem qo5 {v : Value} {s : ASlot} (h : qjy v = some s) : s.toks = [] := by
 unfold qjy at h
 split at h
 ·rename_i cs
  cases hm : cs.toList.mapM qcl with
  | none => grind
  | some l => simp [hm] at h; subst h; rfl
 ·cases hc : qcl v with
  | none => grind
  | some d => simp [hc] at h; subst h; rfl
theorem je {g : Ghost} {w : World} {live : List Nat} {v : Value} {s : ASlot} (h : RC g w live v s) : RS g w live v s := by
 cases s <;> first | exact h | exact h.elim
theorem qas {g : Ghost} {w : World} {live : List Nat} {v : Value} {s : ASlot} (h : RS g w live v s) (hn : ∀ l, s ≠ .tup l) : RC g w live v s := by
 cases s <;> first | exact h | grind
theorem xc {N : Nat} {T : Nat → Prop} {g : Ghost} {w : World} {st : St} {a : Act} (hs : SR N T g w st a) {y : Operand} {x : Opd} (h : qp y = some x) (hok : x.ok st.fr = true) :
  RS g w st.live (a.eval y) (x.get st.fr) := by
 cases y with
 | tmp t =>
  simp [qp] at h; subst h
  simp only [Opd.ok, Opd.get] at hok ⊢
  cases hg : st.fr.get t with
  | none => grind
  | some p =>
   obtain ⟨v, s⟩ := p
   simp [hg] at hok
   exact (hs.slots t v s hg).1 hok
 | const v =>
  simp only [qp, Option.map_eq_some_iff] at h
  obtain ⟨s, h1, rfl⟩ := h
  exact je (qj1 h1)
 | func f =>
  simp [qp] at h; subst h
  show RV g w (.func (.func f) #[] #[]) (.func (.func f) [] [])
  exact .func (.func f) [] [] [] [] rfl rfl (by simp) (by simp)
 | global k =>
  simp only [qp] at h
  split at h
  ·rename_i hk
   simp only [Option.some.injEq] at h
   subst h
   obtain ⟨n, v, h1, h2, h3⟩ := hs.dom.2 k (by simpa using hk)
   refine ⟨k, 0, n + 1, none, fun _ => v, rfl, h1, by simp, fun j d hj => ?_⟩
   cases j with
   | zero => simp at hj; subst hj; exact ⟨rfl, h2, .any v (xar h3)⟩
   | succ j => simp at hj
  ·cases h
theorem qe5 {N : Nat} {T : Nat → Prop} {g : Ghost} {w : World} {st : St} {a : Act} (hs : SR N T g w st a) {y : Operand} {x : Opd} (h : qp y = some x) (hok : x.ok st.fr = true) :
  ∀ t ∈ (x.get st.fr).toks, T t := by
 cases y with
 | tmp t =>
  simp [qp] at h; subst h
  simp only [Opd.get, Opd.ok] at hok ⊢
  cases hg : st.fr.get t with
  | none => grind
  | some p =>
   obtain ⟨v, s⟩ := p
   simp [hg] at hok
   subst hok
   exact hs.wf.fr t s hg
 | const v =>
  simp only [qp, Option.map_eq_some_iff] at h
  obtain ⟨s, h1, rfl⟩ := h
  simp [Opd.get, qo5 h1]
 | func f => grind [qp, Opd.get, ASlot.toks]
 | global k =>
  simp only [qp] at h
  split at h
  ·simp only [Option.some.injEq] at h
   subst h
   simp [Opd.get, ASlot.toks]
  ·cases h
theorem wj {g : Ghost} {w : World} {live : List Nat} {v : Value} {x : D} (h : RS g w live v (.d x)) : RV g w v x := h
theorem vg {g : Ghost} {w : World} {v : Value} {k : IntKind} {n : Int} (h : RV g w v (.int k n)) : v = .int k n := by cases h; rfl
theorem y9 {g : Ghost} {w : World} {v : Value} {b : Bool} (h : RV g w v (.bool b)) : v = .bool b := by cases h; rfl
theorem qcm {g : Ghost} {w : World} {v : Value} {s : List UInt8} (h : RV g w v (.str s)) : v = .string ⟨s.toArray⟩ := by cases h; rfl
theorem qi7 {g : Ghost} {w : World} {live : List Nat} {v : Value} {s : ASlot} {es : Nat} {rows : List (List D)} (h : RS g w live v s) (hr : s.rows = some (es, rows)) : RV g w v (.sl es rows) := by
 cases s with
 | d x =>
  cases x <;> simp [ASlot.rows] at hr
  ·obtain ⟨rfl, rfl⟩ := hr
   exact h
  ·obtain ⟨rfl, rfl⟩ := hr
   cases h
   exact .nilsl none 0 0 (fun _ => rfl)
 | own t e r => simp [ASlot.rows] at hr; obtain ⟨rfl, rfl⟩ := hr; exact h.1
 | full e r => simp [ASlot.rows] at hr; obtain ⟨rfl, rfl⟩ := hr; exact h.1
 | _ => grind [ASlot.rows]
theorem qsd {g : Ghost} {w : World} {v : Value} {es : Nat} {rows : List (List D)} (h : RV g w v (.sl es rows)) :
  ((∃ a c, v = .slice a 0 c ∧ (a = none → c = 0)) ∧ rows = []) ∨
  ∃ b off cap n o, ∃ f : Nat → Value, v = .slice (some ⟨b, off, none⟩) rows.length cap ∧ g b = .row n o ∧ off + rows.flatten.length ≤ n ∧ rows.length ≤ cap ∧
   (∀ r ∈ rows, r.length = es) ∧ (∀ d ∈ rows.flatten, d.isCell = true) ∧
   (∀ (j : Nat) (d : D), rows.flatten[j]? = some d → w.cell? ⟨b, off + j, none⟩ = some (f j)) ∧ (∀ (j : Nat) (d : D), rows.flatten[j]? = some d → RV g w (f j) d) := by
 cases h with
 | nilsl a c _ hn => grind
 | sl b off cap _ n o _ f hg hn hcap hes hcl hcell hrv => exact .inr ⟨b, off, cap, n, o, f, rfl, hg, hn, hcap, hes, hcl, hcell, hrv⟩
theorem qj2 {g : Ghost} {w : World} {v : Value} {es : Nat} {rows : List (List D)} (h : RV g w v (.sl es rows)) : ∃ a c, v = .slice a rows.length c := by
 rcases qsd h with ⟨⟨a, c, rfl, _⟩, rfl⟩ | ⟨b, off, cap, n, o, f, rfl, _⟩
 all_goals simp
theorem qdp {g : Ghost} {w : World} {v : Value} {ds : List D} (h : RV g w v (.agg ds)) :
  ∃ vs : List Value, v = .agg vs.toArray ∧ vs.length = ds.length ∧ (∀ d ∈ ds, d.isCell = true) ∧ ∀ (j : Nat) (u : Value) (d : D), vs[j]? = some u → ds[j]? = some d → RV g w u d := by
 cases h with
 | agg vs _ hl hcl h => grind
theorem qi8 {g : Ghost} {w : World} {vs : List Value} {ds : List D} (hl : vs.length = ds.length) (hcl : ∀ d ∈ ds, d.isCell = true)
  (h : ∀ (j : Nat) (u : Value) (d : D), vs[j]? = some u → ds[j]? = some d → RV g w u d) (off k : Nat) :
  RV g w (.agg ((vs.drop off).take k).toArray) (.agg ((ds.drop off).take k)) :=
 .agg _ _ (by simp [hl]) (fun d hd => hcl d (List.mem_of_mem_drop (List.mem_of_mem_take hd)))
  (fun j u d hu hd => h (off + j) u d (by grind) (by grind))
section pure
variable {P : Program} {g : Ghost} {w : World} {live : List Nat}
theorem q7k {op : BinOp} {t : TypeId} {k : IntKind} {a b : Int} (h : (qjx op k a b).2) (hop : op ≠ .shl ∧ op ≠ .shr) :
  ∃ v, (binOp op t (.int k a) (.int k b)).run P w = .ok v w ∧ RS g w live v (qjx op k a b).1 := by
 cases op <;> simp only [qjx] at h ⊢ <;> first
  | (exact (hop.1 rfl).elim)
  | (exact (hop.2 rfl).elim)
  | (refine ⟨_, by simp [binOp, Op.intArith]; rfl, ?_⟩; exact .int _ _)
  | (refine ⟨_, by simp [binOp, Op.intDiv, h]; rfl, ?_⟩; exact .int _ _)
  | (refine ⟨_, by simp [binOp]; rfl, ?_⟩; exact .int _ _)
  | (refine ⟨_, by simp [binOp, Op.intCmp]; rfl, ?_⟩; exact .bool _)
theorem qo6 (l : List UInt8) : (⟨l.toArray⟩ : ByteArray).toList = l := by
 simp
theorem q7l {op : BinOp} {t : TypeId} {a b : List UInt8} (h : (qm4 op a b).2) :
  ∃ v, (binOp op t (.string ⟨a.toArray⟩) (.string ⟨b.toArray⟩)).run P w = .ok v w ∧ RS g w live v (qm4 op a b).1 := by
 by_cases hop : op = .add
 case neg =>
  cases op <;> simp only [qm4] at h ⊢ <;> first
   | exact h.elim
   | grind
   | (refine ⟨_, by simp only [binOp, Op.stringOp, qo6]; rfl, ?_⟩; exact .bool _)
 subst hop
 simp only [qm4] at h ⊢
 refine ⟨.string ⟨(a ++ b).toArray⟩, ?_, .str _⟩
 have hsz : ∀ l : List UInt8, (⟨l.toArray⟩ : ByteArray).size = l.length := fun l => by rfl
 have h' : ¬ ((9223372036854775807 : Int) < (a.length : Int) + (b.length : Int)) := by omega
 have hap : (⟨a.toArray⟩ : ByteArray) ++ ⟨b.toArray⟩ = ⟨(a ++ b).toArray⟩ := by
  rfl
 simp_all [binOp, Op.stringOp]
theorem xf7 {op : BinOp} {t : TypeId} {x y : ASlot} {u v : Value} (h : (binS op x y).ob) (hx : RS g w live u x) (hy : RS g w live v y) (ex ey : Operand) :
  ∃ r, (do eqGuard op t ex ey u v; binOp op t u v : Sem Value).run P w = .ok r w ∧ RS g w live r (binS op x y).v := by
 cases x with
 | d x =>
  cases y with
  | d y =>
   cases x with
   | int k a =>
    cases y with
    | int k' b =>
     have hu := vg (wj hx); have hv := vg (wj hy); subst hu hv
     by_cases hl : op = .shl
     ·subst hl
      simp only [binS] at h ⊢
      refine ⟨.int k (k.wrap (a * 2 ^ (min b.toNat k.bits))), ?_, .int _ _⟩
      have : ¬ (b < 0) := by omega
      simp [eqGuard_at_int, binOp, Op.shift, this]
     ·by_cases hr : op = .shr
      ·subst hr
       simp only [binS] at h ⊢
       refine ⟨.int k (a.fdiv (2 ^ (min b.toNat k.bits))), ?_, .int _ _⟩
       have : ¬ (b < 0) := by omega
       simp [eqGuard_at_int, binOp, Op.shift, this]
      ·have hb : (binS op (.d (.int k a)) (.d (.int k' b))) = { v := (qjx op k a b).1, ob := k = k' ∧ (qjx op k a b).2 } := by
        cases op <;> first | rfl | grind | grind
       rw [hb] at h ⊢
       obtain ⟨rfl, h2⟩ := h
       simp_all [q7k, eqGuard_at_int]
    | _ => simp [binS, Out.bad] at h
   | str a =>
    cases y with
    | str b =>
     have hu := qcm (wj hx); have hv := qcm (wj hy); simp_all [binS, q7l, eqGuard_at_string]
    | _ => simp [binS, Out.bad] at h
   | _ => simp [binS, Out.bad] at h
  | _ => grind [binS, Out.bad]
 | _ => simp [binS, Out.bad] at h
theorem xl7 {v : Value} {cells : List D} (h : RS g w live v (.rd cells)) :
  ∃ b off, ∃ vs : List Value, v = .pointer (some ⟨b, off, none⟩) ∧ vs.length = cells.length ∧ (∀ (j : Nat) (u : Value), vs[j]? = some u → w.cell? ((⟨b, off, none⟩ : Addr).add j) = some u) ∧
   (∀ d ∈ cells, d.isCell = true) ∧ ∀ (j : Nat) (u : Value) (d : D), vs[j]? = some u → cells[j]? = some d → RV g w u d := by
 obtain ⟨b, off, n, o, f, rfl, hg, hn, hc⟩ := h
 refine ⟨b, off, (List.range cells.length).map f, rfl, by simp, ?_, ?_, ?_⟩
 ·intro j u hj
  simp only [List.getElem?_map, Option.map_eq_some_iff] at hj
  obtain ⟨i, hi, rfl⟩ := hj
  have hlt : j < cells.length := by grind
  simp_all [List.getElem?_range, Option.some.inj, Addr.add_lit, List.getElem?_eq_getElem]
 ·grind [List.getElem?_of_mem]
 grind
theorem qj3 {t : TypeId} {n : Nat} (h : aggN P t = some (some n)) : ∃ i, P.info? t = some i ∧ i.size = n ∧ ((∃ fs, P.underlying t = some (.struct fs)) ∨ ∃ k e, P.underlying t = some (.array k e)) := by
 grind [aggN]
theorem qx3 {t : TypeId} (h : aggN P t = some none) : ∃ i d, P.info? t = some i ∧ i.size = 1 ∧ P.underlying t = some d ∧ (∀ fs, d ≠ .struct fs) ∧ ∀ k e, d ≠ .array k e := by
 unfold aggN at h
 grind
theorem qix {t : TypeId} {n : Nat} (h : aggN P t = some (some n)) (w : World) : (isAgg t).run P w = .ok true w := by
 obtain ⟨i, _, _, hu | hu⟩ := qj3 h
 ·obtain ⟨fs, hu⟩ := hu; simp [isAgg, run_underlying hu]
 ·obtain ⟨k, e, hu⟩ := hu; simp [isAgg, run_underlying hu]
theorem qiy {t : TypeId} (h : aggN P t = some none) (w : World) : (isAgg t).run P w = .ok false w := by
 obtain ⟨i, d, _, _, hu, h1, h2⟩ := qx3 h
 simp_all [isAgg, Sem.run_bind, run_underlying]
theorem qt {t : TypeId} {i : TypeInfo} (h : P.info? t = some i) (w : World) : (sizeOf t).run P w = .ok i.size w := by
 simp [sizeOf, typeInfo, h]
theorem qb4 {t : TypeId} {n : Nat} (h : aggN P t = some (some n)) (cs : Array Value) (off : Nat) (w : World) : (part t cs off).run P w = .ok (.agg (cs.extract off (off + n))) w := by
 obtain ⟨i, hi, rfl, _⟩ := qj3 h
 simp [part, qix h, qt hi]
theorem yn {t : TypeId} (h : aggN P t = some none) (cs : Array Value) (off : Nat) (v : Value) (hv : cs[off]? = some v) (w : World) : (part t cs off).run P w = .ok v w := by
 simp [part, qiy h, hv]
theorem qg6 {t : TypeId} {n : Nat} (h : aggN P t = some (some n)) (a : Addr) (cs : List Value) (hl : cs.length = n) (hc : ∀ (j : Nat) (u : Value), cs[j]? = some u → w.cell? (a.add j) = some u) :
  (loadVar t a).run P w = .ok (.agg cs.toArray) w := by
 obtain ⟨i, hi, hin, _⟩ := qj3 h
 have hl' := run_loadCells_list (P := P) w a cs hc
 simp_all [loadVar, qix, qt]
theorem qg7 {t : TypeId} (h : aggN P t = some none) (a : Addr) (v : Value) (hc : w.cell? a = some v) : (loadVar t a).run P w = .ok v w := by
 simp [loadVar, qiy h, hc]
end pure
end Go.Abs
namespace Go.Abs
section
variable {P : Program} {N tb : Nat} {T : Nat → Prop} {g : Ghost} {w : World} {st : St} {a : Act} {oper : Oper}
def yi (P : Program) (g : Ghost) (w : World) (st : St) (a : Act) (oper : Oper) (s : ASlot) : Prop :=
 ∃ v, (execOp a.eval oper).run P w = .ok (.value v) w ∧ RS g w st.live v s
theorem qo7 {es : Nat} : ∀ {rows : List (List D)} (_ : ∀ r ∈ rows, r.length = es) (i j : Nat) (d : D), (rows.getD i [])[j]? = some d → rows.flatten[i * es + j]? = some d
 | [], _, i, j, d, h => by simp at h
 | r :: rows, hes, i, j, d, h => by
  have hr : r.length = es := hes r (by simp)
  cases i with
  | zero =>
   simp at h
   have hj : j < r.length := (List.getElem?_eq_some_iff.1 h).1
   simp [List.getElem?_append_left hj, h]
  | succ i =>
   have ih := qo7 (rows := rows) (fun r hr => hes r (by simp [hr])) i j d (by simpa using h)
   rw [List.flatten_cons, List.getElem?_append_right (by rw [hr, Nat.succ_mul]; omega)]
   rw [hr, Nat.succ_mul, show i * es + es + j - es = i * es + j by omega]
   exact ih
theorem xf {es : Nat} : ∀ {rows : List (List D)} (_ : ∀ r ∈ rows, r.length = es), rows.flatten.length = rows.length * es
 | [], _ => by simp
 | r :: rows, h => by
  have h1 : r.length = es := h r (by simp)
  have h2 := xf (rows := rows) (fun r hr => h r (by simp [hr]))
  simp only [List.flatten_cons, List.length_append, h1, h2, List.length_cons, Nat.succ_mul]
  omega
theorem flat_drop {es : Nat} : ∀ {rows : List (List D)} (_ : ∀ r ∈ rows, r.length = es) (k : Nat), (rows.drop k).flatten = rows.flatten.drop (k * es)
 | [], _, k => by simp
 | r :: rows, h, 0 => by simp
 | r :: rows, h, k + 1 => by
  have h1 : r.length = es := h r (by simp)
  have h2 := flat_drop (rows := rows) (fun r hr => h r (by simp [hr])) k
  simp only [List.drop_succ_cons, List.flatten_cons, h2]
  rw [List.drop_append, h1, Nat.succ_mul]
  have : r.drop (k * es + es) = [] := List.drop_eq_nil_of_le (by rw [h1]; omega)
  rw [this, List.nil_append]
  congr 1
  omega
theorem flat_take {es : Nat} : ∀ {rows : List (List D)} (_ : ∀ r ∈ rows, r.length = es) (k : Nat), (rows.take k).flatten = rows.flatten.take (k * es)
 | [], _, k => by simp
 | r :: rows, h, 0 => by simp
 | r :: rows, h, k + 1 => by
  have h1 : r.length = es := h r (by simp)
  have h2 := flat_take (rows := rows) (fun r hr => h r (by simp [hr])) k
  simp only [List.take_succ_cons, List.flatten_cons, h2]
  rw [List.take_append, h1, Nat.succ_mul]
  have : r.take (k * es + es) = r := List.take_of_length_le (by rw [h1]; omega)
  rw [this]
  congr 2
  omega
theorem qx4 {x : Operand} {y : Opd} (ho : oper.op = .move x ∨ oper.op = .assign x) (hx : qp x = some y) (hs : SR N T g w st a) (hok : y.ok st.fr = true) :
  yi P g w st a oper (y.get st.fr) := by
 refine ⟨a.eval x, ?_, xc hs hx hok⟩
 rcases ho with ho | ho <;> simp [execOp, ho]
theorem q7m {c x y : Operand} {c' x' y' : Opd} (ho : oper.op = .pick c x y) (hc : qp c = some c') (hx : qp x = some x') (hy : qp y = some y') (hs : SR N T g w st a)
  (hob : (sem tb (.pick c' x' y') st).ob) : yi P g w st a oper (sem tb (.pick c' x' y') st).v := by
 simp only [sem] at hob ⊢
 generalize h1 : c'.get st.fr = s1 at hob ⊢
 generalize h2 : x'.get st.fr = s2 at hob ⊢
 generalize h3 : y'.get st.fr = s3 at hob ⊢
 have fin : ∀ {cb : Bool}, s1 = .d (.bool cb) → c'.ok st.fr = true → a.eval c = .bool cb := fun e o => by
  have r1 := xc hs hc o
  rw [h1, e] at r1
  exact y9 (wj r1)
 have fx : ∀ {b : Bool}, s2 = .d (.bool b) → x'.ok st.fr = true → a.eval x = .bool b := fun e o => by
  have r1 := xc hs hx o
  rw [h2, e] at r1
  exact y9 (wj r1)
 have fy : ∀ {b : Bool}, s3 = .d (.bool b) → y'.ok st.fr = true → a.eval y = .bool b := fun e o => by
  have r1 := xc hs hy o
  rw [h3, e] at r1
  exact y9 (wj r1)
 split at hob
 ·rename_i cb xb yb
  obtain ⟨o1, o2, o3⟩ := hob
  have e1 := fin rfl o1
  cases cb with
  | true => exact ⟨.bool xb, by simp [execOp, ho, e1, fx rfl (o2 rfl), asBool], .bool _⟩
  | false => exact ⟨.bool yb, by simp [execOp, ho, e1, fy rfl (o3 rfl), asBool], .bool _⟩
 ·rename_i yb
  obtain ⟨o1, o3⟩ := hob
  exact ⟨.bool yb, by simp [execOp, ho, fin rfl o1, fy rfl o3, asBool], .bool _⟩
 ·rename_i xb
  obtain ⟨o1, o2⟩ := hob
  exact ⟨.bool xb, by simp [execOp, ho, fin rfl o1, fx rfl o2, asBool], .bool _⟩
 ·exact hob.elim
theorem qoh (hs : SR N T g w st a) {b id : Nat} (hb : g b = .obj id) (hrow : qgh st.os id = true) :
  ∃ (c : Array Value) (e : TypeId), w.heap[b]? = some (.cells c e (0, 0)) ∧ (qh st.os id).length ≤ c.size ∧
   ∀ (i : Nat) (s : ASlot), (qh st.os id)[i]? = some s → ∃ v, c[i]? = some v ∧ v.oneCell' = true ∧ RC g w st.live v s := by
 obtain ⟨o, ho, hn⟩ := hs.ids b id hb
 obtain ⟨b', hb', hr⟩ := (hs.objs id o ho hn).resolve_right (fun h => h.2 b hb)
 have : b' = b := hs.inj b' b id hb' hb
 subst this
 cases o with
 | none => grind
 | row cells => grind [qh, AObj.cells, RO]
 | map es clock => grind [qgh]
 | iter m since seen last => grind [qgh]
theorem q5a {os : List AObj} {id : Nat} (h : 0 < (qh os id).length) : qgh os id = true := by
 grind [qh, qgh, AObj.cells]
theorem qs6 (hs : SR N T g w st a) {b id : Nat} (hb : g b = .obj id) (hne : 0 < (qh st.os id).length) :
  ∃ (c : Array Value) (e : TypeId), w.heap[b]? = some (.cells c e (0, 0)) ∧ (qh st.os id).length ≤ c.size ∧
   ∀ (i : Nat) (s : ASlot), (qh st.os id)[i]? = some s → ∃ v, c[i]? = some v ∧ v.oneCell' = true ∧ RC g w st.live v s := qoh hs hb (q5a hne)
theorem qu9 {v : Value} {s : ASlot} (h : RC g w st.live v s) (hd : s.isCellD = true) : RV g w v s.cellD ∧ s.cellD.isCell = true := by
 cases s with
 | d x => exact ⟨h, hd⟩
 | own t es rows => exact ⟨h.1, rfl⟩
 | full es rows => exact ⟨h.1, rfl⟩
 | _ => grind [ASlot.isCellD]
theorem qs7 {t : TypeId} {x : Operand} {y : Opd} {n : Option Nat} (ho : oper.op = .load t x) (hn : aggN P t = some n) (hx : qp x = some y) (hs : SR N T g w st a)
  (hob : (sem tb (.load n y) st).ob) : yi P g w st a oper (sem tb (.load n y) st).v := by
 simp only [sem] at hob ⊢
 obtain ⟨hok, hob⟩ := hob
 have hr := xc hs hx hok
 cases hy : y.get st.fr with
 | d p =>
  cases p with
  | ptr id off =>
   rw [hy] at hr
   simp only [hy, wm] at hob ⊢
   have hrv := wj hr
   generalize hv : a.eval x = v at hrv
   cases hrv with
   | ptr b _ _ hg =>
   cases n with
   | none =>
    obtain ⟨c, e, hheap, hsize, hcells⟩ := qs6 hs hg (by omega)
    obtain ⟨v, hv1, _, hv2⟩ := hcells off _ (List.getElem?_eq_getElem hob)
    refine ⟨v, ?_, ?_⟩
    ·simp_all [World.cell?, execOp, Instr.loadAt, Instr.sureAddr, qg7]
    grind [qh, id, List.getD, je]
   | some k =>
    obtain ⟨h0, h1, h2⟩ := hob
    obtain ⟨c, e, hheap, hsize, hcells⟩ := qs6 hs hg h0
    have hlen : ((c.toList.drop off).take k).length = k := by grind
    refine ⟨.agg ((c.toList.drop off).take k).toArray, ?_, ?_⟩
    ·have hc : ∀ (j : Nat) (u : Value), ((c.toList.drop off).take k)[j]? = some u → w.cell? ((⟨b, off, none⟩ : Addr).add j) = some u := by
      grind [Addr.add_lit, World.cell?]
     simp [execOp, ho, hv, Instr.loadAt, Instr.sureAddr, qg6 hn _ _ hlen hc]
    ·have hall : ∀ s ∈ ((qh st.os id).drop off).take k, s.isCellD = true := List.all_eq_true.1 h2
     refine RV.agg _ _ (by grind) (fun d hd => ?_) (fun j u d hu hd => ?_)
     ·obtain ⟨s, hs', rfl⟩ := List.mem_map.1 hd
      have := hall s hs'
      cases s <;> simp_all [ASlot.isCellD, ASlot.cellD] <;> rfl
     ·simp only [List.getElem?_map, Option.map_eq_some_iff] at hd
      obtain ⟨s, hs', rfl⟩ := hd
      grind [qh, id, qu9, List.mem_of_getElem?]
  | _ => grind [wm, Out.bad]
 | rd cs =>
  rw [hy] at hr
  simp only [hy, wm] at hob ⊢
  obtain ⟨b, off, vs, hv, hl, hc, hcl, hrv⟩ := xl7 hr
  cases n with
  | none =>
   have hlt : 0 < vs.length := by omega
   refine ⟨vs[0], ?_, ?_⟩
   ·have hcell := hc 0 vs[0] (List.getElem?_eq_getElem hlt)
    simp_all [Addr.add_zero', execOp, Instr.loadAt, Instr.sureAddr, qg7]
   ·have hob' : 0 < cs.length := hob
    have : cs.getD 0 default = cs[0] := by grind
    simp only [this]
    exact hrv 0 vs[0] cs[0] (List.getElem?_eq_getElem hlt) (List.getElem?_eq_getElem hob)
  | some k =>
   refine ⟨.agg (vs.take k).toArray, ?_, ?_⟩
   ·have hlen : (vs.take k).length = k := by grind
    have hcell : ∀ (j : Nat) (u : Value), (vs.take k)[j]? = some u → w.cell? ((⟨b, off, none⟩ : Addr).add j) = some u := by
     grind
    simp [execOp, ho, hv, Instr.loadAt, Instr.sureAddr, qg6 hn _ _ hlen hcell]
   ·have := qi8 hl hcl hrv 0 k
    simp only [List.drop_zero] at this
    exact this
 | _ => grind [wm, Out.bad]
theorem qse {x : Operand} {y : Opd} (ho : oper.op = .nilCheck x) (hx : qp x = some y) (hs : SR N T g w st a)
  (hob : (sem tb (.nilCheck y) st).ob) : yi P g w st a oper (sem tb (.nilCheck y) st).v := by
 simp only [sem] at hob ⊢
 obtain ⟨hok, hob⟩ := hob
 have hr := xc hs hx hok
 refine ⟨a.eval x, ?_, hr⟩
 cases hy : y.get st.fr with
 | d p =>
  rw [hy] at hr
  have hrv := wj hr
  cases p with
  | ptr id off => generalize hv : a.eval x = v at hrv; cases hrv; simp [execOp, ho, hv]
  | func fn f c =>
   cases fn with
   | func f => generalize hv : a.eval x = v at hrv; cases hrv; simp [execOp, ho, hv]
   | _ => grind
  | _ => grind
 | rd cs =>
  rw [hy] at hr
  obtain ⟨b, off, vs, hv, _⟩ := xl7 hr
  simp [execOp, ho, hv]
 | _ => grind
theorem qx5 {op : BinOp} {t u : TypeId} {x y : Operand} {x' y' : Opd} (ho : oper.op = .binOp op t x y u) (hx : qp x = some x') (hy : qp y = some y') (hs : SR N T g w st a)
  (hob : (sem tb (.bin op x' y') st).ob) : yi P g w st a oper (sem tb (.bin op x' y') st).v := by
 simp only [sem] at hob ⊢
 obtain ⟨h1, h2, h3⟩ := hob
 obtain ⟨r, hr1, hr2⟩ := xf7 (P := P) (t := t) h3 (xc hs hx h1) (xc hs hy h2) x y
 refine ⟨r, ?_, hr2⟩
 simp only [execOp, ho]
 rw [Sem.run_bind, hr1]
 simp
theorem qiz {t : TypeId} (ht : P.underlying t = some .bool) (b c : Bool) (w : World) : (Op.equal t (.bool b) (.bool c)).run P w = .ok (b == c) w := by
 show (Op.equalIn (9999 + 1) t (.bool b) (.bool c)).run P w = _
 rw [Op.equalIn]
 simp [run_underlying ht]
theorem qo8 (l : List UInt8) : (⟨l.toArray⟩ : ByteArray).size = l.length := rfl
theorem xat {neg : Bool} {t u : TypeId} {x y : Operand} {x' y' : Opd} (ho : oper.op = .binOp (if neg then .neq else .eql) t x y u) (ht : P.underlying t = some .bool) (hx : qp x = some x') (hy : qp y = some y')
  (hs : SR N T g w st a) (hob : (sem tb (.eqb neg x' y') st).ob) : yi P g w st a oper (sem tb (.eqb neg x' y') st).v := by
 simp only [sem] at hob ⊢
 cases h1 : x'.get st.fr with
 | d p =>
  cases p with
  | bool b =>
   cases h2 : y'.get st.fr with
   | d q =>
    cases q with
    | bool c =>
     simp only [h1, h2] at hob ⊢
     have r1 := xc hs hx hob.1
     have r2 := xc hs hy hob.2
     rw [h1] at r1; rw [h2] at r2
     have e1 := y9 (wj r1); have e2 := y9 (wj r2)
     cases neg with
     | false => exact ⟨.bool (b == c), by simp_all [execOp, eqGuard_at_bool, binOp, qiz], .bool _⟩
     | true => exact ⟨.bool !(b == c), by simp_all [execOp, eqGuard_at_bool, binOp, qiz], .bool _⟩
    | _ => grind [Out.bad]
   | _ => grind [Out.bad]
  | _ => grind [Out.bad]
 | _ => grind [Out.bad]
theorem xau {t : TypeId} {x : Operand} {y : Opd} (ho : oper.op = .unOp .not t x) (hx : qp x = some y) (hs : SR N T g w st a)
  (hob : (sem tb (.not y) st).ob) : yi P g w st a oper (sem tb (.not y) st).v := by
 simp only [sem] at hob ⊢
 cases h1 : y.get st.fr with
 | d p =>
  cases p with
  | bool b =>
   simp only [h1] at hob ⊢
   have r1 := xc hs hx hob
   rw [h1] at r1
   exact ⟨.bool !b, by simp [execOp, ho, y9 (wj r1), Op.unary], .bool _⟩
  | _ => grind [Out.bad]
 | _ => grind [Out.bad]
theorem xav {t : TypeId} {x : Operand} {y : Opd} (ho : oper.op = .unOp .neg t x) (hx : qp x = some y) (hs : SR N T g w st a)
  (hob : (sem tb (.neg y) st).ob) : yi P g w st a oper (sem tb (.neg y) st).v := by
 simp only [sem] at hob ⊢
 cases h1 : y.get st.fr with
 | d p =>
  cases p with
  | int k n =>
   simp only [h1] at hob ⊢
   have r1 := xc hs hx hob
   rw [h1] at r1
   exact ⟨.int k (k.wrap (0 - n)), by simp [execOp, ho, vg (wj r1), Op.unary, Op.intArith], .int _ _⟩
  | _ => grind [Out.bad]
 | _ => grind [Out.bad]
theorem q7n {s t : TypeId} {k j : IntKind} {x : Operand} {y : Opd} (ho : oper.op = .convert s t x) (hsrc : P.underlying s = some (.int j)) (hdst : P.underlying t = some (.int k)) (hx : qp x = some y) (hs : SR N T g w st a)
  (hob : (sem tb (.conv k y) st).ob) : yi P g w st a oper (sem tb (.conv k y) st).v := by
 simp only [sem] at hob ⊢
 cases h1 : y.get st.fr with
 | d p =>
  cases p with
  | int k' n =>
   simp only [h1] at hob ⊢
   have r1 := xc hs hx hob
   rw [h1] at r1
   exact ⟨.int k (k.wrap n), by simp [execOp, ho, vg (wj r1), convert, run_underlying hsrc, run_underlying hdst, Conv.intToInt], .int _ _⟩
  | _ => grind [Out.bad]
 | _ => grind [Out.bad]
theorem q2e {s t : TypeId} {x : Operand} {y : Opd} (ho : oper.op = .convert s t x) (hsrc : P.underlying s = some .string) (hdst : P.underlying t = some .string) (hx : qp x = some y) (hs : SR N T g w st a)
  (hob : (sem tb (.asStr y) st).ob) : yi P g w st a oper (sem tb (.asStr y) st).v := by
 simp only [sem] at hob ⊢
 cases h1 : y.get st.fr with
 | d p =>
  cases p with
  | str l =>
   simp only [h1] at hob ⊢
   have r1 := xc hs hx hob
   rw [h1] at r1
   exact ⟨_, by simp [execOp, ho, qcm (wj r1), convert, run_underlying hsrc, run_underlying hdst], .str l⟩
  | _ => grind [Out.bad]
 | _ => grind [Out.bad]
theorem xaw {s t : TypeId} {j : IntKind} {x : Operand} {y : Opd} (ho : oper.op = .convert s t x) (hsrc : P.underlying s = some (.int j)) (hdst : P.underlying t = some .string) (hx : qp x = some y) (hs : SR N T g w st a)
  (hob : (sem tb (.i2s y) st).ob) : yi P g w st a oper (sem tb (.i2s y) st).v := by
 simp only [sem] at hob ⊢
 cases h1 : y.get st.fr with
 | d p =>
  cases p with
  | int k' n =>
   simp only [h1] at hob ⊢
   have r1 := xc hs hx hob
   rw [h1] at r1
   refine ⟨.string (Utf8.encode n), by simp [execOp, ho, vg (wj r1), convert, run_underlying hsrc, run_underlying hdst, Conv.intToString], ?_⟩
   have := RV.str (g := g) (w := w) (Utf8.encode n).data.toList
   exact this
  | _ => grind [Out.bad]
 | _ => grind [Out.bad]
theorem q7o {t : TypeId} {x : Operand} {y : Opd} (ho : oper.op = .call { callee := .builtin .len, args := #[x], argTypes := #[t] })
  (ht : P.underlying t = some .string) (hx : qp x = some y) (hs : SR N T g w st a)
  (hob : (sem tb (.lenS y) st).ob) : yi P g w st a oper (sem tb (.lenS y) st).v := by
 simp only [sem] at hob ⊢
 cases h1 : y.get st.fr with
 | d p =>
  cases p with
  | str l =>
   simp only [h1] at hob ⊢
   have r1 := xc hs hx hob
   rw [h1] at r1
   refine ⟨.int .i64 l.length, ?_, .int _ _⟩
   simp [execOp, ho, resolve, invoke, builtin, Builtin.len_, run_underlying ht, qcm (wj r1), goInt, qo8]
  | _ => grind [Out.bad]
 | _ => grind [Out.bad]
theorem xpp {live : List Nat} {v : Value} {s : ASlot} {n : Nat} (h : RS g w live v s) (hn : s.len? = some n) : ∃ a c, v = .slice a n c := by
 cases s with
 | d x =>
  have h' : RV g w v x := h
  cases x <;> simp [ASlot.len?] at hn <;> subst hn
  ·exact qj2 h'
  ·generalize hy : D.ref _ _ _ _ = y at h'
   cases h' <;> cases hy
   all_goals simp
  ·generalize hy : D.nilsl = y at h'
   cases h' <;> cases hy
   simp
 | own t es rows => simp [ASlot.len?] at hn; subst hn; exact qj2 h.1
 | uni t es rows => simp [ASlot.len?] at hn; subst hn; exact h.1
 | full es rows => simp [ASlot.len?] at hn; subst hn; exact qj2 h.1
 | _ => grind [ASlot.len?]
theorem xax {t e : TypeId} {x : Operand} {y : Opd} (ho : oper.op = .call { callee := .builtin .len, args := #[x], argTypes := #[t] })
  (ht : P.underlying t = some (.slice e)) (hx : qp x = some y) (hs : SR N T g w st a)
  (hob : (sem tb (.len y) st).ob) : yi P g w st a oper (sem tb (.len y) st).v := by
 simp only [sem] at hob ⊢
 cases h1 : (y.get st.fr).len? with
 | none => grind [Out.bad]
 | some n =>
  simp only [h1] at hob ⊢
  obtain ⟨ad, c, hv⟩ := xpp (xc hs hx hob) h1
  refine ⟨.int .i64 n, ?_, .int _ _⟩
  simp [execOp, ho, resolve, invoke, builtin, Builtin.len_, run_underlying ht, hv, goInt]
end
end Go.Abs
