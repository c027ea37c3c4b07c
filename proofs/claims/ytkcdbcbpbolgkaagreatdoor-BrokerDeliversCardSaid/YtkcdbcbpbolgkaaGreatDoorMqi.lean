/- Texts Ba. -/
import Derived.Test.YtkcdbcbpbolgkaaGreatDoorMqh
import Derived.IntWalk
set_option linter.unusedSimpArgs false
set_option linter.unusedVariables false
namespace Go.Abs
def SOp.special : SOp → Bool
 | .call .. => true
 | .eqnilS .. => true
 | .nextM .. => true
 | .appendR .. => true
 | .entryM .. => true
 | .callT .. => true
 | _ => false
def St.put (st : St) (dst : Option Nat) (g : Bool) (out : Out) : St :=
 {fr := ww st.fr dst g out.v, os := jd st.os out.wrs, live := qn st.live out, nt := st.nt }
def stepO (P : Program) (ops : List SOper) (k : Nat) (tids : List (List Nat)) (K : List (List Nat) → St → Prop) (dst : Option Nat) (st : St) (g : Bool) (out : Out) : Prop :=
 Obl g out st.live ∧ ARun P ops (k + 1) (tids ++ [out.tags]) K (st.put dst g out)
def xp : Option Bool → (Bool → Prop) → Prop
 | some g, F => F g
 | none, _ => False
theorem xgq {P : Program} {k : Nat} {tids : List (List Nat)} {K : List (List Nat) → St → Prop} {st : St} : ARun P [] k tids K st = K tids st := rfl
theorem qy {P : Program} {ops : List SOper} {k : Nat} {tids : List (List Nat)} {K : List (List Nat) → St → Prop} {st : St} {dst : Option Nat} {op : SOp} {gd : Option (Nat × Bool)} (h : op.special = false) :
  ARun P (⟨dst, op, gd⟩ :: ops) k tids K st = xp (gv st.fr gd) fun g => stepO P ops k tids K dst st g (sem (16 * (st.nt + k)) op st) := by
 simp only [ARun]
 cases gv st.fr gd with
 | none => rfl
 | some g => cases op <;> first | rfl | (simp [SOp.special] at h)
section
variable {P : Program} {ops : List SOper} {k : Nat} {tids : List (List Nat)} {K : List (List Nat) → St → Prop} {st : St} {dst : Option Nat} {gd : Option (Nat × Bool)}
theorem xgr {x : Opd} : ARun P (⟨dst, .mov x, gd⟩ :: ops) k tids K st = xp (gv st.fr gd) fun g => stepO P ops k tids K dst st g (sem (16 * (st.nt + k)) (.mov x) st) := qy rfl
theorem xbp {c a b : Opd} : ARun P (⟨dst, .pick c a b, gd⟩ :: ops) k tids K st = xp (gv st.fr gd) fun g => stepO P ops k tids K dst st g (sem (16 * (st.nt + k)) (.pick c a b) st) := qy rfl
theorem xgs {back : Nat} {x : Opd} : ARun P (⟨dst, .box back x, gd⟩ :: ops) k tids K st = xp (gv st.fr gd) fun g => stepO P ops k tids K dst st g (sem (16 * (st.nt + k)) (.box back x) st) := qy rfl
theorem q8a {back : Nat} {zero : List ASlot} : ARun P (⟨dst, .alloc back zero, gd⟩ :: ops) k tids K st = xp (gv st.fr gd) fun g => stepO P ops k tids K dst st g (sem (16 * (st.nt + k)) (.alloc back zero) st) := qy rfl
theorem q8b {zero : List D} {parts : List (Nat × Nat × Opd)} : ARun P (⟨dst, .build zero parts, gd⟩ :: ops) k tids K st = xp (gv st.fr gd) fun g => stepO P ops k tids K dst st g (sem (16 * (st.nt + k)) (.build zero parts) st) := qy rfl
theorem qp8 {u : Bool} {es len : Nat} {zero : List D} {parts : List (Nat × Nat × Opd)} : ARun P (⟨dst, .buildSlice u es len zero parts, gd⟩ :: ops) k tids K st = xp (gv st.fr gd) fun g => stepO P ops k tids K dst st g (sem (16 * (st.nt + k)) (.buildSlice u es len zero parts) st) := qy rfl
theorem xbq {n : Option Nat} {x : Opd} : ARun P (⟨dst, .load n x, gd⟩ :: ops) k tids K st = xp (gv st.fr gd) fun g => stepO P ops k tids K dst st g (sem (16 * (st.nt + k)) (.load n x) st) := qy rfl
theorem q8c {n : Option Nat} {x v : Opd} : ARun P (⟨dst, .store n x v, gd⟩ :: ops) k tids K st = xp (gv st.fr gd) fun g => stepO P ops k tids K dst st g (sem (16 * (st.nt + k)) (.store n x v) st) := qy rfl
theorem qvu {x : Opd} : ARun P (⟨dst, .nilCheck x, gd⟩ :: ops) k tids K st = xp (gv st.fr gd) fun g => stepO P ops k tids K dst st g (sem (16 * (st.nt + k)) (.nilCheck x) st) := qy rfl
theorem xgt {op' : BinOp} {x y : Opd} : ARun P (⟨dst, .bin op' x y, gd⟩ :: ops) k tids K st = xp (gv st.fr gd) fun g => stepO P ops k tids K dst st g (sem (16 * (st.nt + k)) (.bin op' x y) st) := qy rfl
theorem xgu {neg : Bool} {x y : Opd} : ARun P (⟨dst, .eqb neg x y, gd⟩ :: ops) k tids K st = xp (gv st.fr gd) fun g => stepO P ops k tids K dst st g (sem (16 * (st.nt + k)) (.eqb neg x y) st) := qy rfl
theorem q8d {neg : Bool} {k' : NK} {x : Opd} : ARun P (⟨dst, .eqnil neg k' x, gd⟩ :: ops) k tids K st = xp (gv st.fr gd) fun g => stepO P ops k tids K dst st g (sem (16 * (st.nt + k)) (.eqnil neg k' x) st) := qy rfl
theorem q8e {neg : Bool} {ks : List CK} {x y : Opd} : ARun P (⟨dst, .eqAgg neg ks x y, gd⟩ :: ops) k tids K st = xp (gv st.fr gd) fun g => stepO P ops k tids K dst st g (sem (16 * (st.nt + k)) (.eqAgg neg ks x y) st) := qy rfl
theorem xgv {x : Opd} : ARun P (⟨dst, .not x, gd⟩ :: ops) k tids K st = xp (gv st.fr gd) fun g => stepO P ops k tids K dst st g (sem (16 * (st.nt + k)) (.not x) st) := qy rfl
theorem xgw {x : Opd} : ARun P (⟨dst, .neg x, gd⟩ :: ops) k tids K st = xp (gv st.fr gd) fun g => stepO P ops k tids K dst st g (sem (16 * (st.nt + k)) (.neg x) st) := qy rfl
theorem xbr {k' : IntKind} {x : Opd} : ARun P (⟨dst, .conv k' x, gd⟩ :: ops) k tids K st = xp (gv st.fr gd) fun g => stepO P ops k tids K dst st g (sem (16 * (st.nt + k)) (.conv k' x) st) := qy rfl
theorem xgx {x : Opd} : ARun P (⟨dst, .i2s x, gd⟩ :: ops) k tids K st = xp (gv st.fr gd) fun g => stepO P ops k tids K dst st g (sem (16 * (st.nt + k)) (.i2s x) st) := qy rfl
theorem xgy {x : Opd} : ARun P (⟨dst, .b2s x, gd⟩ :: ops) k tids K st = xp (gv st.fr gd) fun g => stepO P ops k tids K dst st g (sem (16 * (st.nt + k)) (.b2s x) st) := qy rfl
theorem xgz {x : Opd} : ARun P (⟨dst, .s2b x, gd⟩ :: ops) k tids K st = xp (gv st.fr gd) fun g => stepO P ops k tids K dst st g (sem (16 * (st.nt + k)) (.s2b x) st) := qy rfl
theorem q20 {fn : Fn} {first captured : List Opd} : ARun P (⟨dst, .mkFunc fn first captured, gd⟩ :: ops) k tids K st = xp (gv st.fr gd) fun g => stepO P ops k tids K dst st g (sem (16 * (st.nt + k)) (.mkFunc fn first captured) st) := qy rfl
theorem qss {u : Bool} {es bytes : Nat} {zero : List D} {l c : Opd} : ARun P (⟨dst, .makeSlice u es bytes zero l c, gd⟩ :: ops) k tids K st = xp (gv st.fr gd) fun g => stepO P ops k tids K dst st g (sem (16 * (st.nt + k)) (.makeSlice u es bytes zero l c) st) := qy rfl
theorem qp9 {back es bytes : Nat} {zero : List D} {l c : Opd} : ARun P (⟨dst, .makeSliceO back es bytes zero l c, gd⟩ :: ops) k tids K st = xp (gv st.fr gd) fun g => stepO P ops k tids K dst st g (sem (16 * (st.nt + k)) (.makeSliceO back es bytes zero l c) st) := qy rfl
theorem q8f {es : Nat} {x : Opd} {lo hi mx : Option Opd} : ARun P (⟨dst, .slice es x lo hi mx, gd⟩ :: ops) k tids K st = xp (gv st.fr gd) fun g => stepO P ops k tids K dst st g (sem (16 * (st.nt + k)) (.slice es x lo hi mx) st) := qy rfl
theorem q21 {len es : Nat} {x : Opd} {lo hi mx : Option Opd} : ARun P (⟨dst, .sliceA len es x lo hi mx, gd⟩ :: ops) k tids K st = xp (gv st.fr gd) fun g => stepO P ops k tids K dst st g (sem (16 * (st.nt + k)) (.sliceA len es x lo hi mx) st) := qy rfl
theorem q22 {x : Opd} {lo hi : Option Opd} : ARun P (⟨dst, .sliceS x lo hi, gd⟩ :: ops) k tids K st = xp (gv st.fr gd) fun g => stepO P ops k tids K dst st g (sem (16 * (st.nt + k)) (.sliceS x lo hi) st) := qy rfl
theorem q8g {off : Nat} {x : Opd} : ARun P (⟨dst, .faddr off x, gd⟩ :: ops) k tids K st = xp (gv st.fr gd) fun g => stepO P ops k tids K dst st g (sem (16 * (st.nt + k)) (.faddr off x) st) := qy rfl
theorem q8h {n : Option Nat} {off : Nat} {x : Opd} : ARun P (⟨dst, .field n off x, gd⟩ :: ops) k tids K st = xp (gv st.fr gd) fun g => stepO P ops k tids K dst st g (sem (16 * (st.nt + k)) (.field n off x) st) := qy rfl
theorem q8i {es : Nat} {x i : Opd} : ARun P (⟨dst, .iaddr es x i, gd⟩ :: ops) k tids K st = xp (gv st.fr gd) fun g => stepO P ops k tids K dst st g (sem (16 * (st.nt + k)) (.iaddr es x i) st) := qy rfl
theorem q23 {len es : Nat} {x i : Opd} : ARun P (⟨dst, .iaddrA len es x i, gd⟩ :: ops) k tids K st = xp (gv st.fr gd) fun g => stepO P ops k tids K dst st g (sem (16 * (st.nt + k)) (.iaddrA len es x i) st) := qy rfl
theorem q24 {x i : Opd} : ARun P (⟨dst, .indexS x i, gd⟩ :: ops) k tids K st = xp (gv st.fr gd) fun g => stepO P ops k tids K dst st g (sem (16 * (st.nt + k)) (.indexS x i) st) := qy rfl
theorem q25 {len es : Nat} {n : Option Nat} {x i : Opd} : ARun P (⟨dst, .indexA len es n x i, gd⟩ :: ops) k tids K st = xp (gv st.fr gd) fun g => stepO P ops k tids K dst st g (sem (16 * (st.nt + k)) (.indexA len es n x i) st) := qy rfl
theorem qy3 {i : Nat} {x : Opd} : ARun P (⟨dst, .extract i x, gd⟩ :: ops) k tids K st = xp (gv st.fr gd) fun g => stepO P ops k tids K dst st g (sem (16 * (st.nt + k)) (.extract i x) st) := qy rfl
theorem xg0 {x : Opd} : ARun P (⟨dst, .len x, gd⟩ :: ops) k tids K st = xp (gv st.fr gd) fun g => stepO P ops k tids K dst st g (sem (16 * (st.nt + k)) (.len x) st) := qy rfl
theorem xbs {x : Opd} : ARun P (⟨dst, .lenS x, gd⟩ :: ops) k tids K st = xp (gv st.fr gd) fun g => stepO P ops k tids K dst st g (sem (16 * (st.nt + k)) (.lenS x) st) := qy rfl
theorem q8j {x : Opd} : ARun P (⟨dst, .asStr x, gd⟩ :: ops) k tids K st = xp (gv st.fr gd) fun g => stepO P ops k tids K dst st g (sem (16 * (st.nt + k)) (.asStr x) st) := qy rfl
theorem q26 {u : Bool} {es bytes : Nat} {s x : Opd} : ARun P (⟨dst, .append u es bytes s x, gd⟩ :: ops) k tids K st = xp (gv st.fr gd) fun g => stepO P ops k tids K dst st g (sem (16 * (st.nt + k)) (.append u es bytes s x) st) := qy rfl
theorem xbt {es : Nat} {s x : Opd} : ARun P (⟨dst, .copy es s x, gd⟩ :: ops) k tids K st = xp (gv st.fr gd) fun g => stepO P ops k tids K dst st g (sem (16 * (st.nt + k)) (.copy es s x) st) := qy rfl
theorem qy4 {back : Nat} : ARun P (⟨dst, .makeMap back, gd⟩ :: ops) k tids K st = xp (gv st.fr gd) fun g => stepO P ops k tids K dst st g (sem (16 * (st.nt + k)) (.makeMap back) st) := qy rfl
theorem xbu {n : Nat} {x : Opd} : ARun P (⟨dst, .s2ap n x, gd⟩ :: ops) k tids K st = xp (gv st.fr gd) fun g => stepO P ops k tids K dst st g (sem (16 * (st.nt + k)) (.s2ap n x) st) := qy rfl
theorem q27 {kd : KD} {z : ASlot} {c : Bool} {x y : Opd} : ARun P (⟨dst, .lookup kd z c x y, gd⟩ :: ops) k tids K st = xp (gv st.fr gd) fun g => stepO P ops k tids K dst st g (sem (16 * (st.nt + k)) (.lookup kd z c x y) st) := qy rfl
theorem qst {kd : KD} {x y v : Opd} : ARun P (⟨dst, .mapUpdate kd x y v, gd⟩ :: ops) k tids K st = xp (gv st.fr gd) fun g => stepO P ops k tids K dst st g (sem (16 * (st.nt + k)) (.mapUpdate kd x y v) st) := qy rfl
theorem q28 {kd : KD} {x y : Opd} : ARun P (⟨dst, .delete kd x y, gd⟩ :: ops) k tids K st = xp (gv st.fr gd) fun g => stepO P ops k tids K dst st g (sem (16 * (st.nt + k)) (.delete kd x y) st) := qy rfl
theorem xbv {x : Opd} : ARun P (⟨dst, .lenM x, gd⟩ :: ops) k tids K st = xp (gv st.fr gd) fun g => stepO P ops k tids K dst st g (sem (16 * (st.nt + k)) (.lenM x) st) := qy rfl
theorem q29 {back : Nat} {x : Opd} : ARun P (⟨dst, .rangeM back x, gd⟩ :: ops) k tids K st = xp (gv st.fr gd) fun g => stepO P ops k tids K dst st g (sem (16 * (st.nt + k)) (.rangeM back x) st) := qy rfl
theorem qy5 {t : TypeId} {x : Opd} : ARun P (⟨dst, .mkIface t x, gd⟩ :: ops) k tids K st = xp (gv st.fr gd) fun g => stepO P ops k tids K dst st g (sem (16 * (st.nt + k)) (.mkIface t x) st) := qy rfl
theorem qy6 {t : TypeId} {c : Bool} {x : Opd} : ARun P (⟨dst, .assertT t c x, gd⟩ :: ops) k tids K st = xp (gv st.fr gd) fun g => stepO P ops k tids K dst st g (sem (16 * (st.nt + k)) (.assertT t c x) st) := qy rfl
theorem qy7 {back es bytes : Nat} {s x : Opd} : ARun P (⟨dst, .appendO back es bytes s x, gd⟩ :: ops) k tids K st = xp (gv st.fr gd) fun g => stepO P ops k tids K dst st g (sem (16 * (st.nt + k)) (.appendO back es bytes s x) st) := qy rfl
theorem q3a {mx : Bool} {x y : Opd} : ARun P (⟨dst, .minmax mx x y, gd⟩ :: ops) k tids K st = xp (gv st.fr gd) fun g => stepO P ops k tids K dst st g (sem (16 * (st.nt + k)) (.minmax mx x y) st) := qy rfl
end
theorem xg1 {P : Program} {ops : List SOper} {k : Nat} {tids : List (List Nat)} {K : List (List Nat) → St → Prop} {dst : Option Nat} {fr : Fr} {os : List AObj} {live : List Nat} {nt : Nat} {g : Bool} {v : ASlot} {ob : Prop} {rd : Option Nat} :
  stepO P ops k tids K dst ⟨fr, os, live, nt⟩ g ⟨v, ob, rd, none, [], [], [], []⟩ = ((g = true → ob) ∧ ARun P ops (k + 1) (tids ++ [rd.toList]) K ⟨ww fr dst g v, os, live, nt⟩) := by
 have hl : qn live (⟨v, ob, rd, none, [], [], [], []⟩ : Out) = live := xd rfl rfl
 simp only [stepO, Obl, Out.tags, Out.wrs, St.put, Out.tame, hl]
 simp [jd]
theorem xg2 {P : Program} {ops : List SOper} {k : Nat} {tids : List (List Nat)} {K : List (List Nat) → St → Prop} {dst : Option Nat} {fr : Fr} {os : List AObj} {live : List Nat} {nt : Nat} {g : Bool} {v : ASlot} {ob : Prop} {rd : Option Nat} {id : Nat} {o : AObj} :
  stepO P ops k tids K dst ⟨fr, os, live, nt⟩ g ⟨v, ob, rd, some (id, o), [], [], [], []⟩ = (g = true ∧ ob ∧ ARun P ops (k + 1) (tids ++ [id :: (1000000 + id) :: rd.toList]) K ⟨ww fr dst g v, os.set id o, live, nt⟩) := by
 have hl : qn live (⟨v, ob, rd, some (id, o), [], [], [], []⟩ : Out) = live := xd rfl rfl
 simp only [stepO, Obl, Out.tags, Out.wrs, St.put, Out.tame, hl]
 cases g <;> simp [jd]
theorem xbw {P : Program} {ops : List SOper} {k : Nat} {tids : List (List Nat)} {K : List (List Nat) → St → Prop} {dst : Option Nat} {fr : Fr} {os : List AObj} {live : List Nat} {nt : Nat} {g : Bool} {v : ASlot} {ob : Prop} {rd : Option Nat} {cons : List Nat} {t : Nat} :
  stepO P ops k tids K dst ⟨fr, os, live, nt⟩ g ⟨v, ob, rd, none, cons, [t], [], []⟩ = (g = true ∧ ob ∧ (cons.all fun t => live.contains t) = true ∧ ARun P ops (k + 1) (tids ++ [rd.toList]) K ⟨ww fr dst g v, os, (live.filter fun t => !cons.contains t) ++ [t], nt⟩) := by
 have hc : ((cons.all fun t => live.contains t) = true) = (∀ t ∈ cons, t ∈ live) := by simp
 rw [hc]
 simp only [stepO, Obl, Out.tags, Out.wrs, St.put, Out.tame, qn]
 cases g <;> simp [and_assoc, jd]
def ql2 (P : Program) (ops : List SOper) (k : Nat) (tids : List (List Nat)) (K : List (List Nat) → St → Prop) (dst : Option Nat) (st : St) (g : Bool) (c : Option (FuncId × List ASlot)) (ok : Bool) : Prop :=
 ∃ n as fa r fo fo' ι q, r.toks.length ≤ 16 ∧ (g = true → c = some (n, as) ∧ ok = true ∧ qg P n fa fo r fo' ∧ (P.funcs[n]?).any (fun fn => fn.body.isSome && !(fn.name == "runtime.NumGoroutine")) = true ∧ Fits st.live as fa ι fo.length (xu as fa) ∧ ObjFit st.os fo fo' ι ∧ (xh fo = [] ∧ xh fo' = []) ∧ (q = true → ∀ p ∈ ι.zip (fo'.map (AObj.ren ι)), st.os[p.1]? = some p.2)) ∧
  (g = true ∨ (zn (16 * (st.nt + k)) as fa r fo' ι q).tame) ∧ ARun P ops (k + 1) (tids ++ [(zn (16 * (st.nt + k)) as fa r fo' ι q).tags]) K (st.put dst g (zn (16 * (st.nt + k)) as fa r fo' ι q))
theorem xbx {P : Program} {ops : List SOper} {k : Nat} {tids : List (List Nat)} {K : List (List Nat) → St → Prop} {st : St} {dst : Option Nat} {f : Opd} {args : List Opd} {gd : Option (Nat × Bool)} :
  ARun P (⟨dst, .call f args, gd⟩ :: ops) k tids K st = xp (gv st.fr gd) fun g => ql2 P ops k tids K dst st g (qi1 st.fr f args) (f.ok st.fr && args.all fun x => x.ok st.fr) := by
 simp only [ARun]
 cases hg : gv st.fr gd with
 | none => rfl
 | some g =>
  simp only [xp, ql2]
  apply propext
  constructor
  ·rintro ⟨n, as, fa, r, fo, fo', ι, q, h1, h2, h3, h4⟩
   exact ⟨n, as, fa, r, fo, fo', ι, q, h1, fun h => ⟨(h2 h).callee, by rw [(h2 h).ok, (h2 h).oks]; rfl, (h2 h).contract, (h2 h).body, (h2 h).fits, (h2 h).objs, (h2 h).noT, (h2 h).quiet⟩, h3, h4⟩
  ·rintro ⟨n, as, fa, r, fo, fo', ι, q, h1, h2, h3, h4⟩
   refine ⟨n, as, fa, r, fo, fo', ι, q, h1, fun h => ?_, h3, h4⟩
   obtain ⟨q1, q2, q3, q4, q5, q6, q7, q8⟩ := h2 h
   rw [Bool.and_eq_true] at q2
   exact ⟨q1, q2.1, q2.2, q3, q4, q5, q6, q7, h1, q8⟩
theorem ql3 {r : ASlot} (hr : r.toks = []) (b : Nat) : qeh b r = r := by
 have hren : ∀ (b : Nat) (s : ASlot), s.toks = [] → renT [] b s = s := by
  intro b s hs
  cases s <;> first | rfl | (simp [ASlot.toks] at hs)
 cases r with
 | tup l =>
  simp only [qeh, wq, hr, ASlot.tup.injEq]
  have : ∀ s ∈ l, renT [] b s = s := fun s hs => by
   cases s with
   | own t es rows => simp only [ASlot.toks, List.flatMap_eq_nil_iff] at hr; have := hr _ hs; simp [qbx] at this
   | uni t es rows => simp only [ASlot.toks, List.flatMap_eq_nil_iff] at hr; have := hr _ hs; simp [qbx] at this
   | _ => rfl
  rw [List.map_congr_left this, List.map_id']
 | own t es rows => simp [ASlot.toks] at hr
 | uni t es rows => simp [ASlot.toks] at hr
 | _ => rfl
mutual
theorem qni {s : ASlot} (k : Nat) (h : s.noPtr = true) : s.inK k = true := by
 cases s with
 | d x => exact D.inK_noPtr k h
 | own t es rows => exact D.inKR_noPtr k h
 | uni t es rows => exact D.inKR_noPtr k h
 | full es rows => exact D.inKR_noPtr k h
 | rd cs => exact D.inKL_noPtr k h
 | _ => simp [ASlot.noPtr] at h
end
theorem qtn (os : List AObj) : ObjFit os [] [] [] := ⟨List.nodup_nil, rfl, Nat.le_refl _, trivial, by simp, rfl⟩
theorem qqa (l : List ASlot) : l.map (ASlot.ren []) = l := by
 have : ASlot.ren [] = id := by funext s; rfl
 rw [this, List.map_id]
theorem xw {P : Program} {ops : List SOper} {k : Nat} {tids : List (List Nat)} {K : List (List Nat) → St → Prop} {fr : Fr} {os : List AObj} {live : List Nat} {nt : Nat} {dst : Option Nat} {g ok : Bool} {n : FuncId} {fa as : List ASlot} {r : ASlot}
  (hc : qg P n fa [] r []) (hb : (P.funcs[n]?).any (fun fn => fn.body.isSome && !(fn.name == "runtime.NumGoroutine")) = true) (ho : g = true → ok = true)
  (hfit : g = true → yp as fa) (hnp : fa.all ASlot.noPtr = true) (hh : xu as fa = []) (hr : r.toks = [])
  (hK : ARun P ops (k + 1) (tids ++ [[]]) K ⟨ww fr dst g r, os, live, nt⟩) :
  ql2 P ops k tids K dst ⟨fr, os, live, nt⟩ g (some (n, as)) ok := by
 have hre := ql3 hr
 have hput : St.put (⟨fr, os, live, nt⟩ : St) dst g (zn (16 * (nt + k)) as fa r [] [] false) = ⟨ww fr dst g r, os, live, nt⟩ := by
  simp only [St.put, zn, Out.wrs, hre, qn, hh, hr]
  simp [jd, ASlot.ren]
 refine ⟨n, as, fa, r, [], [], [], false, by rw [hr]; simp, fun h => ⟨rfl, ho h, hc, hb, ⟨by rw [qqa]; exact hfit h, List.all_eq_true.2 fun s hs => qni _ (List.all_eq_true.1 hnp s hs), by rw [hh]; simp, by rw [hh]; simp⟩, qtn _, ⟨rfl, rfl⟩, (nomatch ·)⟩, .inr ⟨by simp [zn, Out.wrs], by simp [zn, hh], by simp [zn, hre, hr]⟩, ?_⟩
 rw [hput]
 exact hK
theorem qkm {P : Program} {ops : List SOper} {k : Nat} {tids : List (List Nat)} {K : List (List Nat) → St → Prop} {fr : Fr} {os : List AObj} {live : List Nat} {nt : Nat} {dst : Option Nat} {g ok : Bool} {c : Option (FuncId × List ASlot)} (x : D)
  (hg : g = false) (hK : ARun P ops (k + 1) (tids ++ [[]]) K ⟨ww fr dst g (.d x), os, live, nt⟩) : ql2 P ops k tids K dst ⟨fr, os, live, nt⟩ g c ok := by
 subst hg
 refine ⟨0, [], [], .d x, [], [], [], false, by simp [ASlot.toks], fun h => (by cases h), .inr ⟨rfl, rfl, rfl⟩, ?_⟩
 have : St.put (⟨fr, os, live, nt⟩ : St) dst false (zn (16 * (nt + k)) [] [] (.d x) [] [] false) = ⟨ww fr dst false (.d x), os, live, nt⟩ := by
  simp [St.put, zn, Out.wrs, qeh, wq, renT, qn, xu, ASlot.toks, jd, ASlot.ren]
 rw [this]
 exact hK
theorem xmg {s : ASlot} : ASlot.ren [] s = s := rfl
theorem xso {i : Nat} {ι : List Nat} {x : D} : ASlot.ren (i :: ι) (.d x) = .d (x.ren (i :: ι)) := rfl
theorem xmh {i : Nat} {ι : List Nat} {t es : Nat} {rows : List (List D)} : ASlot.ren (i :: ι) (.own t es rows) = .own t es (D.renR (i :: ι) rows) := rfl
theorem xg3 {i : Nat} {ι : List Nat} {es : Nat} {rows : List (List D)} : ASlot.ren (i :: ι) (.full es rows) = .full es (D.renR (i :: ι) rows) := rfl
theorem xpw {i : Nat} {ι : List Nat} {cs : List D} : ASlot.ren (i :: ι) (.rd cs) = .rd (D.renL (i :: ι) cs) := rfl
theorem xmi {i : Nat} {ι : List Nat} {l : List ASlot} : ASlot.ren (i :: ι) (.tup l) = .tup (l.map (ASlot.ren1 (i :: ι))) := rfl
theorem xmj {i : Nat} {ι : List Nat} : ASlot.ren (i :: ι) .bad = .bad := rfl
def isNone (os : List AObj) (id : Nat) : Bool := match os[id]? with | some .none => true | _ => false
def qae : List ASlot → Bool
 | [] => true
 | s :: l => s.toks.isEmpty && qae l
theorem qto : ∀ (l : List ASlot), qae l = true ↔ ∀ s ∈ l, s.toks = []
 | [] => by simp [qae]
 | s :: l => by simp [qae, qto l]
theorem qf0 : ∀ {l : List AObj}, (l.all fun o => qae o.cells) = true → xh l = []
 | [], _ => rfl
 | o :: l, h => by
  rw [List.all_cons, Bool.and_eq_true] at h
  simp only [xh, qf0 h.2, List.append_nil, List.flatMap_eq_nil_iff]
  exact (qto _).1 h.1
theorem xby {P : Program} {ops : List SOper} {k : Nat} {tids : List (List Nat)} {K : List (List Nat) → St → Prop} {fr : Fr} {os : List AObj} {live : List Nat} {nt : Nat} {dst : Option Nat} {ok : Bool} {n : FuncId} {fa as : List ASlot} {r : ASlot} {fo fo' : List AObj} (ι : List Nat)
  (hc : qg P n fa fo r fo') (hb : (P.funcs[n]?).any (fun fn => fn.body.isSome && !(fn.name == "runtime.NumGoroutine")) = true) (ho : ok = true)
  (hfit : yp as (fa.map (ASlot.ren ι))) (hin : fa.all (ASlot.inK fo.length) = true) (hh : xu as fa = []) (hr : r.toks = [])
  (hnd : ι.Nodup) (hlen : ι.length = fo'.length) (hle : fo.length ≤ fo'.length) (hold : qdq ι os ι fo) (hnew : (ι.drop fo.length).all (isNone os) = true) (hik : fo.all (AObj.inK fo.length) = true) (htk : (fo'.all fun o => qae o.cells) = true) (htf : (fo.all fun o => qae o.cells) = true)
  (hK : ARun P ops (k + 1) (tids ++ [ι ++ ι.map fun i => 1000000 + i]) K ⟨ww fr dst true (r.ren ι), jd os (ι.zip (fo'.map (AObj.ren ι))), live, nt⟩) :
  ql2 P ops k tids K dst ⟨fr, os, live, nt⟩ true (some (n, as)) ok := by
 have hre := ql3 hr
 have hput : St.put (⟨fr, os, live, nt⟩ : St) dst true (zn (16 * (nt + k)) as fa r fo' ι false) = ⟨ww fr dst true (r.ren ι), jd os (ι.zip (fo'.map (AObj.ren ι))), live, nt⟩ := by
  simp only [St.put, zn, Out.wrs, hre, qn, hh, hr, cond_false]
  simp
 have hto : (zn (16 * (nt + k)) as fa r fo' ι false).tags = ι ++ ι.map (fun i => 1000000 + i) := by
  simp only [Out.tags, Out.wrs, zn, cond_false]
  have : (ι.zip (fo'.map (AObj.ren ι))).map (·.1) = ι := by
   rw [List.map_fst_zip (by rw [List.length_map]; omega)]
  have h2 : (ι.zip (fo'.map (AObj.ren ι))).map (fun p => 1000000 + p.1) = ι.map fun i => 1000000 + i := by
   rw [← this, List.map_map]; rw [this]; rfl
  simp [this, h2]
 refine ⟨n, as, fa, r, fo, fo', ι, false, by rw [hr]; simp, fun _ => ⟨rfl, ho, hc, hb, ⟨hfit, hin, by rw [hh]; simp, by rw [hh]; simp⟩, ⟨hnd, hlen, hle, hold, fun id hid => ?_, hik⟩, ⟨qf0 htf, qf0 htk⟩, (nomatch ·)⟩, .inl rfl, ?_⟩
 ·have := List.all_eq_true.1 hnew id hid
  unfold isNone at this
  split at this
  ·rename_i h; exact h
  ·cases this
 ·rw [hto, hput]
  exact hK
def nilO (P : Program) (ops : List SOper) (k : Nat) (tids : List (List Nat)) (K : List (List Nat) → St → Prop) (dst : Option Nat) (st : St) (g neg ok : Bool) (s : ASlot) : Prop :=
 g = true ∧ ok = true ∧ ∃ es rows, s.rows = some (es, rows) ∧ ∀ b : Bool, (b = true → rows = []) → ARun P ops (k + 1) (tids ++ [[]]) K ⟨ww st.fr dst true (.d (.bool (if neg = true then !b else b))), st.os, st.live, st.nt⟩
theorem q3b {P : Program} {ops : List SOper} {k : Nat} {tids : List (List Nat)} {K : List (List Nat) → St → Prop} {st : St} {dst : Option Nat} {neg : Bool} {x : Opd} {gd : Option (Nat × Bool)} :
  ARun P (⟨dst, .eqnilS neg x, gd⟩ :: ops) k tids K st = xp (gv st.fr gd) fun g => nilO P ops k tids K dst st g neg (x.ok st.fr) (x.get st.fr) := by
 simp only [ARun]
 cases gv st.fr gd with
 | none => rfl
 | some g =>
  cases g with
  | false => simp [xp, nilO]
  | true =>
   have hn : ∀ b, st.next ⟨dst, .eqnilS neg x, gd⟩ true (qtd neg b) = ⟨ww st.fr dst true (.d (.bool (if neg = true then !b else b))), st.os, st.live, st.nt⟩ := by
    intro b
    have hl : qn st.live (qtd neg b) = st.live := xd rfl rfl
    simp only [St.next, hl]
    rfl
   simp only [xp, nilO, hn]
def xg4 (P : Program) (ops : List SOper) (k : Nat) (tids : List (List Nat)) (K : List (List Nat) → St → Prop) (dst : Option Nat) (st : St) (g ok : Bool) (s : ASlot) : Prop :=
 g = true ∧ ok = true ∧ ∃ iid, s = .d (.ptr iid 0) ∧
  ((∃ since seen last, st.os[iid]? = some (.iter (.d .nilmap) since seen last) ∧ ARun P ops (k + 1) (tids ++ [[]]) K ⟨ww st.fr dst true qpn, st.os, st.live, st.nt⟩) ∨
   ∃ mid since seen last es clock, IterOn st.os iid mid since seen last es clock ∧ (qgg es seen = [] → ARun P ops (k + 1) (tids ++ [[]]) K ⟨ww st.fr dst true qpn, st.os, st.live, st.nt⟩) ∧
    ∀ e ∈ qgg es seen, ARun P ops (k + 1) (tids ++ [[]]) K ⟨ww st.fr dst true (entV e), st.os.set iid (.iter (.d (.map mid)) since (seen ++ [e.1]) clock), st.live, st.nt⟩)
theorem q8l {P : Program} {ops : List SOper} {k : Nat} {tids : List (List Nat)} {K : List (List Nat) → St → Prop} {st : St} {dst : Option Nat} {x : Opd} {gd : Option (Nat × Bool)} :
  ARun P (⟨dst, .nextM x, gd⟩ :: ops) k tids K st = xp (gv st.fr gd) fun g => xg4 P ops k tids K dst st g (x.ok st.fr) (x.get st.fr) := by
 simp only [ARun]
 cases gv st.fr gd with
 | none => rfl
 | some g =>
  cases g with
  | false => simp [xp, xg4]
  | true =>
   have h1 : st.next ⟨dst, .nextM x, gd⟩ true qgk = ⟨ww st.fr dst true qpn, st.os, st.live, st.nt⟩ := by
    have hl : qn st.live qgk = st.live := xd rfl rfl
    simp only [St.next, hl]
    rfl
   have h2 : ∀ iid mid since seen clock e, st.next ⟨dst, .nextM x, gd⟩ true (qpx iid mid since seen clock e) = ⟨ww st.fr dst true (entV e), st.os.set iid (.iter (.d (.map mid)) since (seen ++ [e.1]) clock), st.live, st.nt⟩ := by
    intro iid mid since seen clock e
    have hl : qn st.live (qpx iid mid since seen clock e) = st.live := xd rfl rfl
    simp only [St.next, hl]
    rfl
   simp only [xp, xg4, h1, h2]
theorem xg5 {P : Program} {ops : List SOper} {k : Nat} {tids : List (List Nat)} {K : List (List Nat) → St → Prop} {fr : Fr} {os : List AObj} {live : List Nat} {nt : Nat} {dst : Option Nat} {ok : Bool} {iid mid since last clock : Nat} {seen : List Nat} {es : Ents}
  (h : IterOn os iid mid since seen last es clock) (h1 : qgg es seen = [] → ARun P ops (k + 1) (tids ++ [[]]) K ⟨ww fr dst true qpn, os, live, nt⟩)
  (h2 : ∀ e ∈ qgg es seen, ARun P ops (k + 1) (tids ++ [[]]) K ⟨ww fr dst true (entV e), os.set iid (.iter (.d (.map mid)) since (seen ++ [e.1]) clock), live, nt⟩) (ho : ok = true := by rfl) :
  xg4 P ops k tids K dst ⟨fr, os, live, nt⟩ true ok (.d (.ptr iid 0)) := ⟨rfl, ho, iid, rfl, .inr ⟨mid, since, seen, last, es, clock, h, h1, h2⟩⟩
def xg6 (P : Program) (ops : List SOper) (k : Nat) (tids : List (List Nat)) (K : List (List Nat) → St → Prop) (dst : Option Nat) (st : St) (g : Bool) (back es bytes : Nat) (s x : Opd) : Prop :=
 g = true ∧ (((sem (16 * (st.nt + k)) (.appendO back es bytes s x) st).ob ∧ ARun P ops (k + 1) (tids ++ [[]]) K (st.next ⟨dst, .appendR back es bytes s x, none⟩ true (sem (16 * (st.nt + k)) (.appendO back es bytes s x) st))) ∨
     (s.ok st.fr = true ∧ x.ok st.fr = true ∧ ∃ id n r, s.get st.fr = .d (.ref id 0 es n) ∧ y8 es st.os (x.get st.fr) = some r ∧ AppR st.os es bytes back id n r ∧
      ARun P ops (k + 1) (tids ++ [[]]) K (st.next ⟨dst, .appendR back es bytes s x, none⟩ true (qpy id id es n st.os r)) ∧ ARun P ops (k + 1) (tids ++ [[]]) K (st.next ⟨dst, .appendR back es bytes s x, none⟩ true (qpy id (st.os.length - back) es n st.os r))))
theorem qy8 {P : Program} {ops : List SOper} {k : Nat} {tids : List (List Nat)} {K : List (List Nat) → St → Prop} {st : St} {dst : Option Nat} {back es bytes : Nat} {s x : Opd} {gd : Option (Nat × Bool)} :
  ARun P (⟨dst, .appendR back es bytes s x, gd⟩ :: ops) k tids K st = xp (gv st.fr gd) fun g => xg6 P ops k tids K dst st g back es bytes s x := by
 simp only [ARun]
 cases gv st.fr gd with
 | none => rfl
 | some g =>
  cases g with
  | false => simp [xp, xg6]
  | true => rfl
def q5q (P : Program) (ops : List SOper) (k : Nat) (tids : List (List Nat)) (K : List (List Nat) → St → Prop) (dst : Option Nat) (st : St) (g ok : Bool) (s : ASlot) : Prop :=
 g = true ∧ ok = true ∧ ∃ iid mid since seen clock es e, s = .d (.ptr iid 0) ∧ EntryOn st.os iid mid since seen clock es e ∧ ARun P ops (k + 1) (tids ++ [[]]) K ⟨ww st.fr dst true (.tup [.d e.2.1, .d e.2.2]), st.os, st.live, st.nt⟩
theorem q3c {P : Program} {ops : List SOper} {k : Nat} {tids : List (List Nat)} {K : List (List Nat) → St → Prop} {st : St} {dst : Option Nat} {x : Opd} {gd : Option (Nat × Bool)} :
  ARun P (⟨dst, .entryM x, gd⟩ :: ops) k tids K st = xp (gv st.fr gd) fun g => q5q P ops k tids K dst st g (x.ok st.fr) (x.get st.fr) := by
 simp only [ARun]
 cases gv st.fr gd with
 | none => rfl
 | some g =>
  cases g with
  | false => simp [xp, q5q]
  | true =>
   have h1 : ∀ e, st.next ⟨dst, .entryM x, gd⟩ true (qgl e) = ⟨ww st.fr dst true (.tup [.d e.2.1, .d e.2.2]), st.os, st.live, st.nt⟩ := by
    intro e
    have hl : qn st.live (qgl e) = st.live := xd rfl rfl
    simp only [St.next, hl]
    rfl
   simp only [xp, q5q, h1]
theorem xbz {P : Program} {ops : List SOper} {k : Nat} {tids : List (List Nat)} {K : List (List Nat) → St → Prop} {fr : Fr} {os : List AObj} {live : List Nat} {nt : Nat} {dst : Option Nat} {ok : Bool} {iid mid since clock : Nat} {seen : List Nat} {es : Ents} {e : Nat × D × D}
  (h : EntryOn os iid mid since seen clock es e) (h1 : ARun P ops (k + 1) (tids ++ [[]]) K ⟨ww fr dst true (.tup [.d e.2.1, .d e.2.2]), os, live, nt⟩) (ho : ok = true := by rfl) :
  q5q P ops k tids K dst ⟨fr, os, live, nt⟩ true ok (.d (.ptr iid 0)) := ⟨rfl, ho, iid, mid, since, seen, clock, es, e, rfl, h, h1⟩
theorem ql4 {P : Program} {ops : List SOper} {k : Nat} {tids : List (List Nat)} {K : List (List Nat) → St → Prop} {fr : Fr} {os : List AObj} {live : List Nat} {nt : Nat} {dst : Option Nat} {neg ok : Bool} {s : ASlot} {es : Nat} {rows : List (List D)}
  (ho : ok = true) (hr : s.rows = some (es, rows)) (h : ∀ b : Bool, (b = true → rows = []) → ARun P ops (k + 1) (tids ++ [[]]) K ⟨ww fr dst true (.d (.bool (if neg = true then !b else b))), os, live, nt⟩) :
  nilO P ops k tids K dst ⟨fr, os, live, nt⟩ true neg ok s := ⟨rfl, ho, es, rows, hr, h⟩
structure Fits0 (live : List Nat) (as fa : List ASlot) : Prop where
 all : yp as fa
 noPtr : fa.all ASlot.noPtr = true
 lv : ∀ p ∈ xu as fa, p.1 ∈ live
 nd1 : ((xu as fa).map (·.1)).Nodup
theorem qho {P : Program} {ops : List SOper} {k : Nat} {tids : List (List Nat)} {K : List (List Nat) → St → Prop} {fr : Fr} {os : List AObj} {live : List Nat} {nt : Nat} {dst : Option Nat} {ok : Bool} {n : FuncId} {fa as : List ASlot} {r : ASlot}
  (hc : qg P n fa [] r []) (hb : (P.funcs[n]?).any (fun fn => fn.body.isSome && !(fn.name == "runtime.NumGoroutine")) = true) (ho : ok = true)
  (hfit : Fits0 live as fa) (hnd : r.toks.Nodup) (hfew : r.toks.length ≤ 16)
  (hK : ARun P ops (k + 1) (tids ++ [[]]) K ⟨ww fr dst true (qeh (16 * (nt + k)) r), os, (live.filter fun t => !((xu as fa).map (·.1)).contains t) ++ (qeh (16 * (nt + k)) r).toks, nt⟩) :
  ql2 P ops k tids K dst ⟨fr, os, live, nt⟩ true (some (n, as)) ok :=
 ⟨n, as, fa, r, [], [], [], false, hfew, fun _ => ⟨rfl, ho, hc, hb, ⟨by rw [qqa]; exact hfit.all, List.all_eq_true.2 fun s hs => qni _ (List.all_eq_true.1 hfit.noPtr s hs), hfit.lv, hfit.nd1⟩, qtn _, ⟨rfl, rfl⟩, (nomatch ·)⟩, .inl rfl, hK⟩
def q5r (P : Program) (ops : List SOper) (k : Nat) (tids : List (List Nat)) (K : List (List Nat) → St → Prop) (dst : Option Nat) (st : St) (g : Bool) (c : Option (FuncId × List ASlot)) (ok : Bool) : Prop :=
 g = true ∧ ∃ n as fa r fo fo' ι H R, (c = some (n, as) ∧ ok = true ∧ qg P n fa fo r fo' ∧ (P.funcs[n]?).any (fun fn => fn.body.isSome && !(fn.name == "runtime.NumGoroutine")) = true ∧ H = xu as fa ++ vm st.os ι fo ∧ R = r.toks ++ xh fo' ∧
  Fits st.live as fa ι fo.length H ∧ ObjFit st.os fo fo' ι ∧ R.length ≤ 16) ∧ ARun P ops (k + 1) (tids ++ [[]]) K (st.put dst true (qdx (16 * (st.nt + k)) H R r fo' ι))
theorem q8m {P : Program} {ops : List SOper} {k : Nat} {tids : List (List Nat)} {K : List (List Nat) → St → Prop} {st : St} {dst : Option Nat} {f : Opd} {args : List Opd} {gd : Option (Nat × Bool)} :
  ARun P (⟨dst, .callT f args, gd⟩ :: ops) k tids K st = xp (gv st.fr gd) fun g => q5r P ops k tids K dst st g (qi1 st.fr f args) (f.ok st.fr && args.all fun x => x.ok st.fr) := by
 simp only [ARun]
 cases hg : gv st.fr gd with
 | none => rfl
 | some g =>
  simp only [xp, q5r]
  apply propext
  constructor
  ·rintro ⟨rfl, n, as, fa, r, fo, fo', ι, H, R, h, h3⟩
   exact ⟨rfl, n, as, fa, r, fo, fo', ι, H, R, ⟨h.callee, by rw [h.ok, h.oks]; rfl, h.contract, h.body, h.hH, h.hR, h.fits, h.objs, h.few⟩, h3⟩
  ·rintro ⟨rfl, n, as, fa, r, fo, fo', ι, H, R, ⟨q1, q2, q3, q4, q5, q6, q7, q8, q9⟩, h3⟩
   rw [Bool.and_eq_true] at q2
   exact ⟨rfl, n, as, fa, r, fo, fo', ι, H, R, ⟨q1, q2.1, q2.2, q3, q4, q5, q6, q7, q8, q9⟩, h3⟩
theorem xb0 {P : Program} {ops : List SOper} {k : Nat} {tids : List (List Nat)} {K : List (List Nat) → St → Prop} {fr : Fr} {os : List AObj} {live : List Nat} {nt : Nat} {dst : Option Nat} {ok : Bool} {n : FuncId} {fa as : List ASlot} {r : ASlot} {fo fo' : List AObj} (ι : List Nat)
  (hc : qg P n fa fo r fo') (hb : (P.funcs[n]?).any (fun fn => fn.body.isSome && !(fn.name == "runtime.NumGoroutine")) = true)
  (hK : ARun P ops (k + 1) (tids ++ [[]]) K ⟨ww fr dst true ((wq (r.toks ++ xh fo') (16 * (nt + k)) r).ren ι), jd os (ι.zip ((fo'.map (AObj.rt (r.toks ++ xh fo') (16 * (nt + k)))).map (AObj.ren ι))),
   (live.filter fun t => !((xu as fa ++ vm os ι fo).map (·.1)).contains t) ++ ((wq (r.toks ++ xh fo') (16 * (nt + k)) r).toks ++ xh (fo'.map (AObj.rt (r.toks ++ xh fo') (16 * (nt + k))))), nt⟩)
  (ho : ok = true) (hfit : yp as (fa.map (ASlot.ren ι))) (hin : fa.all (ASlot.inK fo.length) = true)
  (hl : ((xu as fa ++ vm os ι fo).all fun p => live.contains p.1) = true) (hn : ((xu as fa ++ vm os ι fo).map (·.1)).Nodup) (hfew : (r.toks ++ xh fo').length ≤ 16)
  (hnd : ι.Nodup) (hlen : ι.length = fo'.length) (hle : fo.length ≤ fo'.length) (hold : qdq ι os ι fo) (hnew : (ι.drop fo.length).all (isNone os) = true) (hik : fo.all (AObj.inK fo.length) = true) :
  q5r P ops k tids K dst ⟨fr, os, live, nt⟩ true (some (n, as)) ok := by
 refine ⟨rfl, n, as, fa, r, fo, fo', ι, _, _, ⟨rfl, ho, hc, hb, rfl, rfl, ⟨hfit, hin, ?_, hn⟩, ⟨hnd, hlen, hle, hold, fun id hid => ?_, hik⟩, hfew⟩, hK⟩
 ·intro p hp
  simpa using List.all_eq_true.1 hl p hp
 ·have := List.all_eq_true.1 hnew id hid
  unfold isNone at this
  split at this
  ·rename_i h; exact h
  ·cases this
theorem qs {P : Program} {k0 : Nat} {c : Opd} {x y : SCode} {Q : SExit → St → Prop} {st : St} (t : Bool) (h1 : c.ok st.fr = true) (h2 : c.get st.fr = .d (.bool t)) (hx : t = true → AWp P k0 x Q st) (hy : t = false → AWp P k0 y Q st) : AWp P k0 (.cond c x y) Q st :=
 ⟨t, ⟨h1, h2⟩, hx, hy⟩
theorem xmk {P : Program} {k0 : Nat} {a b : SCode} {Q : SExit → St → Prop} {st : St} : AWp P k0 (.seq a b) Q st = AWp P k0 a (qit (AWp P k0 b Q) Q) st := rfl
theorem xg7 {P : Program} {k0 : Nat} {Q : SExit → St → Prop} {st : St} : AWp P k0 .skip Q st = Q .normal st := rfl
theorem xb1 {P : Program} {k0 id : Nat} {a : SCode} {Q : SExit → St → Prop} {st : St} : AWp P k0 (.block id a) Q st = AWp P k0 a (qy1 id Q) st := rfl
theorem xg8 {P : Program} {k0 id : Nat} {Q : SExit → St → Prop} {st : St} : AWp P k0 (.exit id) Q st = Q (.exit id) st := rfl
theorem xml {P : Program} {k0 : Nat} {Q : SExit → St → Prop} {st : St} : AWp P k0 .ret Q st = Q .ret st := rfl
def disj : List Nat → List Nat → Bool
 | [], _ => true
 | i :: l, r => !r.contains i && disj l r
theorem qvv : ∀ (l r : List Nat), disj l r = true ↔ ∀ i ∈ l, i ∉ r
 | [], r => by simp [disj]
 | i :: l, r => by simp [disj, qvv l r]
theorem xg9 {l : List Nat} : disj l [] = true := (qvv l []).2 (by simp)
theorem qy9 {p : Nat × Nat} {ps : List (Nat × Nat)} {tids : List (List Nat)} : qfo (p :: ps) tids = (disj (tids.getD p.1 []) (tids.getD p.2 []) = true ∧ qfo ps tids) := by
 rw [qvv]
 apply propext
 simp only [qfo, List.forall_mem_cons]
theorem q3d {tids : List (List Nat)} : qfo [] tids = True := by simp [qfo]
theorem St.bump_mk {fr : Fr} {os : List AObj} {live : List Nat} {nt n : Nat} : (⟨fr, os, live, nt⟩ : St).bump n = ⟨fr, os, live, nt + n⟩ := rfl
theorem xha (c a : Bool) : (if c = true then a else false) = (c && a) := by cases c <;> rfl
theorem xmm (c b : Bool) : (if c = true then true else b) = (c || b) := by cases c <;> rfl
theorem xpx (b : Bool) : (b == true) = b := by cases b <;> rfl
theorem xpy (b : Bool) : (b == false) = !b := by cases b <;> rfl
def qtp : List Nat → Bool
 | [] => true
 | t :: l => !l.contains t && qtp l
theorem qtq : ∀ (l : List Nat), qtp l = true ↔ l.Nodup
 | [] => by simp [qtp]
 | t :: l => by simp [qtp, qtq l]
def xhb (live live' : List Nat) (ps : List (Nat × Nat)) : Bool := ps.all fun p => !live'.contains p.2 || live.contains p.1
def ltB (n : Nat) (l : List Nat) : Bool := l.all fun t => decide (t < n)
theorem xhc {k0 : Nat} {fr fr' : Fr} {os os' : List AObj} {live live' : List Nat} {nt nt' : Nat} : Weak k0 ⟨fr, os, live, nt⟩ ⟨fr', os', live', nt'⟩ ↔
  frW (wx os') fr fr' ∧ osW (wx os') os os' ∧ xhb live live' (qcq fr fr' ++ ya os os') = true ∧ qtp ((qcq fr fr' ++ ya os os').map (·.1)) = true ∧ qgm k0 os os' ∧
  ltB (16 * nt') (live' ++ qi2 fr' ++ xh os') = true := by
 have h1 : xhb live live' (qcq fr fr' ++ ya os os') = true ↔ ∀ p ∈ qcq fr fr' ++ ya os os', p.2 ∈ live' → p.1 ∈ live := by
  simp only [xhb, List.all_eq_true, Bool.or_eq_true, Bool.not_eq_true', List.contains_iff_mem, ← Bool.not_eq_true]
  exact ⟨fun h p hp hl => (h p hp).resolve_left (fun hn => hn hl), fun h p hp => by by_cases hl : p.2 ∈ live' <;> simp [hl, h p hp]⟩
 have h2 : ltB (16 * nt') (live' ++ qi2 fr' ++ xh os') = true ↔ ∀ t ∈ live' ++ qi2 fr' ++ xh os', t < 16 * nt' := by
  simp only [ltB, List.all_eq_true, decide_eq_true_eq]
 rw [h1, h2, qtq]
 exact ⟨fun h => ⟨h.fr, h.os, h.live, h.nd, h.base, h.wf⟩, fun h => ⟨h.1, h.2.1, h.2.2.1, h.2.2.2.1, h.2.2.2.2.1, h.2.2.2.2.2⟩⟩
theorem xmn {keep : Nat → Bool} {os : List AObj} : osW keep os [] = True := by cases os with | nil => rfl | cons o l => cases o <;> rfl
theorem xhd {keep : Nat → Bool} {o : AObj} {l l' : List AObj} : osW keep (o :: l) (.none :: l') = osW keep l l' := by cases o <;> rfl
theorem q3e {os : List AObj} : ya os [] = [] := by cases os with | nil => rfl | cons o l => cases o <;> rfl
theorem qza {o : AObj} {l l' : List AObj} : ya (o :: l) (.none :: l') = ya l l' := by cases o <;> rfl
theorem xmo {keep : Nat → Bool} {cs : List ASlot} : csW keep cs [] = True := by cases cs <;> rfl
theorem q3f {cs : List ASlot} : qbl cs [] = [] := by cases cs <;> rfl
theorem qvw {os os' : List AObj} : qgm 0 os os' = True := by simp [qgm]
theorem xmp {keep : Nat → Bool} {s : ASlot} {x : D} : qdf keep s (.d x) = (s.eqvD x ∧ x.okW keep = true) := by cases s <;> rfl
theorem xb2 {keep : Nat → Bool} {s : ASlot} : qdf keep s .bad = True := by cases s <;> rfl
theorem xb3 {s : ASlot} {x : D} : wd s (.d x) = [] := by cases s <;> rfl
theorem qzb {s : ASlot} {es : Nat} {rows : List (List D)} : wd s (.full es rows) = [] := by cases s <;> rfl
theorem q3g {s : ASlot} : wd s .bad = [] := by cases s <;> rfl
theorem q8n {s : ASlot} {cs : List D} : wd s (.rd cs) = [] := by cases s <;> rfl
theorem q3h {t t' es es' : Nat} {r r' : List (List D)} : wd (.own t es r) (.own t' es' r') = [(t, t')] := rfl
def ql5 (st : St) : List RVar → Prop
 | [] => True
 | r :: l => r.good st ∧ ql5 st l
theorem qqb {st : St} : ∀ (l : List RVar), ql5 st l ↔ ∀ r ∈ l, r.good st
 | [] => by simp [ql5]
 | r :: l => by simp [ql5, qqb l]
theorem qqc {α : Type} {x : α} {p : α → Prop} : (∀ y ∈ some x, p y) = p x := by simp
theorem qqd {α : Type} {p : α → Prop} : (∀ y ∈ (none : Option α), p y) = True := by simp
theorem xhe {k0 : Nat} {rvs : List RVar} {rs : List ASlot} {objs : List AObj} {fr : Fr} {os : List AObj} {live : List Nat} {nt : Nat} :
  xbn k0 rvs rs objs ⟨fr, os, live, nt⟩ = (ql5 ⟨fr, os, live, nt⟩ rvs ∧ Weak k0 ⟨qaa (rvs.map (RVar.slot ⟨fr, os, live, nt⟩)) 0, os, live, nt⟩ ⟨qaa rs 0, objs, vy rs ++ xh objs, 1⟩) := by rw [qqb]; rfl
def xsp {α : Type} (k0 : Nat) (S : α → St) (μ : α → Nat) (x : α) (st' : St) : Prop := ∃ y, Weak k0 st' (S y) ∧ μ y < μ x
theorem qk {α : Type} {P : Program} {k0 : Nat} {a : SCode} {Q : SExit → St → Prop} {st : St} (S : α → St) (μ : α → Nat) (x0 : α) (h0 : Weak k0 st (S x0))
  (h : ∀ x, AWp P k0 a (qit (xsp k0 S μ x) Q) (S x)) : AWp P k0 (.loop a) Q st :=
 ⟨α, S, μ, x0, .weak h0 (.refl _), fun x => AWp.mono a (qfy (fun _ ⟨y, h1, h2⟩ => ⟨y, .weak h1 (.refl _), h2⟩) (fun _ _ h => h)) (h x)⟩
theorem xb4 {keep : Nat → Bool} {t t' es es' : Nat} {r r' : List (List D)} : qdf keep (.own t es r) (.own t' es' r') = ((es = es' ∧ D.eqvR r r') ∧ D.noPtrR r' = true) := rfl
theorem qsu {keep : Nat → Bool} {t' es es' : Nat} {r r' : List (List D)} : qdf keep (.full es r) (.own t' es' r') = (qah es r es' r' ∧ D.noPtrR r' = true) := rfl
theorem q8o {keep : Nat → Bool} {es es' : Nat} {r r' : List (List D)} : qdf keep (.full es r) (.full es' r') = (qah es r es' r' ∧ D.noPtrR r' = true) := rfl
theorem xhf {keep : Nat → Bool} {r r' : List D} : qdf keep (.rd r) (.rd r') = (D.eqvL r r' ∧ D.noPtrL r' = true) := rfl
theorem xmq {keep : Nat → Bool} {cs cs' : List ASlot} {l l' : List AObj} : osW keep (.row cs :: l) (.row cs' :: l') = (csW keep cs cs' ∧ osW keep l l') := rfl
theorem q3i {cs cs' : List ASlot} {l l' : List AObj} : ya (.row cs :: l) (.row cs' :: l') = qbl cs cs' ++ ya l l' := rfl
theorem xhg {keep : Nat → Bool} {s s' : ASlot} {l l' : List ASlot} : csW keep (s :: l) (s' :: l') = (qdf keep s s' ∧ csW keep l l') := rfl
theorem qc7 {s s' : ASlot} {l l' : List ASlot} : qbl (s :: l) (s' :: l') = wd s s' ++ qbl l l' := rfl
theorem qvx {n : Nat} : ((n : Int) + 1).toNat = n + 1 := by omega
theorem qzc {α β : Type} {f : α → β} {l : List α} : (l.map f).take l.length = l.map f := by rw [List.take_of_length_le (by simp)]
theorem D.default_eq : (default : D) = .int default default := rfl
theorem qvy {keep : Nat → Bool} {t' es' : Nat} {r' : List (List D)} : qdf keep (.d .nilsl) (.own t' es' r') = (r' = []) := rfl
theorem qsv {keep : Nat → Bool} {es' : Nat} {r' : List (List D)} : qdf keep (.d .nilsl) (.full es' r') = (r' = []) := rfl
theorem qvz {x : D} {t' es' : Nat} {r' : List (List D)} : wd (.d x) (.own t' es' r') = [] := rfl
theorem qsw {t' es' : Nat} {r' : List (List D)} : qb7 (.d .nilsl) (.own t' es' r') = (r' = []) := rfl
theorem qqe {es' : Nat} {r' : List (List D)} : qb7 (.d .nilsl) (.full es' r') = (r' = []) := rfl
theorem xhh {es' : Nat} {r' : List (List D)} : D.eqv .nilsl (.sl es' r') = (r' = []) := by simp [D.eqv]
theorem qn5 {t' es es' : Nat} {r r' : List (List D)} : wd (.full es r) (.own t' es' r') = [] := rfl
theorem xb5 (t : Nat) : [t].Nodup = True := by simp
theorem qi {α β : Type} (f : α → β) (l : List α) {i : Nat} (h : i < l.length) (d : β) : (l.map f).getD i d = f l[i] := by simp [List.getD, h]
theorem xx {α : Type} {f : α → List D} (h : ∀ x, D.noPtrL (f x) = true) (l : List α) : D.noPtrR (l.map f) = true := by
 induction l with
 | nil => rfl
 | cons x l ih => simp [D.noPtrR, h, ih]
theorem qax {α β : Type} (f : α → β) (l : List α) {i : Nat} (h : i < l.length) : (l.take (i + 1)).map f = (l.take i).map f ++ [f l[i]] := by
 rw [List.take_succ_eq_append_getElem h, List.map_append]; rfl
theorem qay : ∀ (a b : List D), D.noPtrL (a ++ b) = (D.noPtrL a && D.noPtrL b)
 | [], b => by simp [D.noPtrL]
 | x :: a, b => by simp [D.noPtrL, qay a b, Bool.and_assoc]
theorem qkn : ∀ (a b : List (List D)), D.noPtrR (a ++ b) = (D.noPtrR a && D.noPtrR b)
 | [], b => by simp [D.noPtrR]
 | x :: a, b => by simp [D.noPtrR, qkn a b, Bool.and_assoc]
theorem wrap_i64 {n : Int} (h1 : -9223372036854775808 ≤ n) (h2 : n ≤ 9223372036854775807) : IntKind.i64.wrap n = n := IntWalk.i64_in n ⟨h1, h2⟩
theorem qf {n : Nat} (h : n < 9223372036854775807) : IntKind.i64.wrap ((n : Int) + 1) = ((n + 1 : Nat) : Int) := by
 rw [wrap_i64 (by omega) (by omega)]; rfl
theorem qv0 {k : Nat} {o o' : AObj} {os os' : List AObj} : qgm (k + 1) (o :: os) (o' :: os') = ((wx [o] 0 = true → wx [o'] 0 = true) ∧ qgm k os os') := by
 apply propext
 simp only [qgm]
 constructor
 ·intro h
  refine ⟨fun h0 => ?_, fun id hid hk => ?_⟩
  ·exact h 0 (by omega) h0
  ·exact h (id + 1) (by omega) hk
 ·rintro ⟨h1, h2⟩ id hid hk
  cases id with
  | zero => exact h1 hk
  | succ id => exact h2 id (by omega) hk
theorem q5s {P : Program} {mu : List Nat} {news : List (FuncId × Nat)} {f : FuncId} {fn : Func} {sc : SCode} {args rs : List ASlot} {rvs : List RVar} {objs objs' : List AObj} (hm : P.follows .mixedOrders = true) (hf : P.funcs[f]? = some fn)
  (hc : fn.body.bind (zm P mu fn.ntmps news) = some sc.erase) (hr : fn.results.toList.mapM (qgn P) = some rvs)
  (h : AWp P objs.length sc (q2z objs.length rvs rs objs') (qhn args objs)) (hN : args.length ≤ fn.ntmps) (hl : rvs.length = rs.length) (hw : ltB 16 (vy args ++ xh objs) = true) : qg P f args objs (qp6 rs) objs' := by
 rw [Option.bind_eq_some_iff] at hc
 obtain ⟨c, hb, hc⟩ := hc
 refine qvt hm hf hb (rv := fn.results.toList) (by simp) hr hc hN hl (fun t ht => ?_) h
 simp only [ltB, List.all_eq_true, decide_eq_true_eq] at hw
 exact hw t ht
theorem xb6 {rs : List ASlot} (h : rs.length ≠ 1) : qp6 rs = .tup rs := by
 match rs with
 | [] => rfl
 | [_] => simp at h
 | _ :: _ :: _ => rfl
theorem xt7 (d : D) : D.eqv d d = True := eq_true (D.eqv_refl d)
theorem xsr (d : List D) : D.eqvL d d = True := eq_true (D.eqvL_refl d)
theorem xss (d : List (List D)) : D.eqvR d d = True := eq_true (D.eqvR_refl d)
theorem xmr {k k' : IntKind} {n n' : Int} : D.eqv (.int k n) (.int k' n') = (k = k' ∧ n = n') := by simp [D.eqv]
theorem xhi {b b' : Bool} : D.eqv (.bool b) (.bool b') = (b = b') := by simp [D.eqv]
theorem xms {b b' : List UInt8} : D.eqv (.str b) (.str b') = (b = b') := by simp [D.eqv]
theorem xp0 {es es' : Nat} {r r' : List (List D)} : D.eqv (.sl es r) (.sl es' r') = qah es r es' r' := by simp [D.eqv, qah]
theorem xmt {l l' : List D} : D.eqv (.agg l) (.agg l') = D.eqvL l l' := by simp [D.eqv]
theorem xmu {b b' o o' : Nat} : D.eqv (.ptr b o) (.ptr b' o') = (b = b' ∧ o = o') := by simp [D.eqv]
theorem xmv {b b' o o' e e' n n' : Nat} : D.eqv (.ref b o e n) (.ref b' o' e' n') = (b = b' ∧ o = o' ∧ e = e' ∧ n = n') := by simp [D.eqv]
theorem xmw {b b' : Nat} : D.eqv (.map b) (.map b') = (b = b') := by simp [D.eqv]
theorem xhj {f f' : Fn} {a a' b b' : List D} : D.eqv (.func f a b) (.func f' a' b') = (f = f' ∧ D.eqvL a a' ∧ D.eqvL b b') := by simp [D.eqv]
theorem xb7 {t t' : TypeId} {a a' : D} : D.eqv (.iface t a) (.iface t' a') = (t = t' ∧ D.eqv a a') := by simp [D.eqv]
theorem xb8 {a a' : D} {l l' : List D} : D.eqvL (a :: l) (a' :: l') = (D.eqv a a' ∧ D.eqvL l l') := by simp [D.eqvL]
theorem xhk : D.eqvL [] [] = True := by simp [D.eqvL]
theorem xb9 {a a' : List D} {l l' : List (List D)} : D.eqvR (a :: l) (a' :: l') = (D.eqvL a a' ∧ D.eqvR l l') := by simp [D.eqvR]
theorem xhl : D.eqvR [] [] = True := by simp [D.eqvR]
theorem qzd {es : Nat} {r r' : List (List D)} : qah es r es r' = D.eqvR r r' := by simp [qah]
theorem q3j {es es' : Nat} : qah es [] es' [] = True := by simp [qah, D.eqvR]
theorem qqf {α : Type} {es es' : Nat} {f : α → List D} : qah es [] es' (List.map f []) = True := by simp [qah, D.eqvR]
theorem xhm {a b b' : List (List D)} : D.eqvR (a ++ b) (a ++ b') = D.eqvR b b' := by
 induction a with
 | nil => rfl
 | cons x a ih => simp [D.eqvR, D.eqvL_refl, ih]
theorem xhn {s : ASlot} {x : D} : qb7 s (.d x) = s.eqvD x := by cases s <;> rfl
theorem q8p {t t' es es' : Nat} {r r' : List (List D)} : qb7 (.own t es r) (.own t' es' r') = (es = es' ∧ D.eqvR r r') := rfl
theorem qqg {t' es es' : Nat} {r r' : List (List D)} : qb7 (.full es r) (.own t' es' r') = qah es r es' r' := rfl
theorem q3k {es es' : Nat} {r r' : List (List D)} : qb7 (.full es r) (.full es' r') = qah es r es' r' := rfl
theorem xca {r r' : List D} : qb7 (.rd r) (.rd r') = D.eqvL r r' := rfl
theorem qc {x : D} : qb7 (.d x) (.d x) := D.eqv_refl x
def xho (P : Program) (ops : List SOper) (objs : Nat) (pairs : List (Nat × Nat)) (Q : SExit → St → Prop) (st : St) : Prop := AWp P 0 (.region ops objs pairs) Q st
theorem xmx {P : Program} {k0 : Nat} {ops : List SOper} {objs : Nat} {pairs : List (Nat × Nat)} {Q : SExit → St → Prop} {st : St} : AWp P k0 (.region ops objs pairs) Q st = xho P ops objs pairs Q st := rfl
def xhp (P : Program) (ops : List SOper) (objs : Nat) (pairs : List (Nat × Nat)) (Q : SExit → St → Prop) (st : St) : Prop := AWp P 0 (.region ops objs pairs) Q st
def regK (pairs : List (Nat × Nat)) (Q : SExit → St → Prop) (n : Nat) (tids : List (List Nat)) (st' : St) : Prop := qfo pairs tids ∧ Q .normal (st'.bump n)
theorem xmy {pairs : List (Nat × Nat)} {Q : SExit → St → Prop} {n : Nat} {tids : List (List Nat)} {fr : Fr} {os : List AObj} {live : List Nat} {nt : Nat} :
  regK pairs Q n tids ⟨fr, os, live, nt⟩ = (qfo pairs tids ∧ Q .normal (⟨fr, os, live, nt + n⟩)) := rfl
theorem xhq {P : Program} {ops : List SOper} {objs : Nat} {pairs : List (Nat × Nat)} {Q : SExit → St → Prop} {fr : Fr} {os : List AObj} {live : List Nat} {nt : Nat} :
  xhp P ops objs pairs Q ⟨fr, os, live, nt⟩ = ARun P ops 0 [] (regK pairs Q ops.length) ⟨fr, os ++ List.replicate objs .none, live, nt⟩ := rfl
def xmz {ops lit : List SOper} (_ : ops = lit) : List SOper := lit
theorem xp1 {R : List Nat} {b : Nat} {x : D} : renC R b (.d x) = .d x := rfl
theorem xhs {R : List Nat} {b : Nat} : renC R b .bad = .bad := rfl
theorem xht {R : List Nat} {b t es : Nat} {rows : List (List D)} : renC R b (.own t es rows) = .own (b + R.idxOf t) es rows := by simp [renC, ASlot.toks, renT]
theorem xcb {t : Nat} : [t].idxOf t = 0 := by simp
attribute [go_sem] q8m xp1 xhs xht xcb AObj.rt wq renT vm
attribute [go_sem] q3b x8 qg5 eqOk xmk xmx xhq xmy xmz xg7 xb1 xg8 xml qit qy1 q2z xgq xgr xbp xgs q8a q8b qp8 xbq q8c qvu xgt xgu q8d q8e xl6 xgv xgw xbr xgx xgy xgz q20 qss q8f q22 q8g q8h q8i q23 q24 q25 qy3 xg0 xbs q8j q26 qhn qaa vy List.flatMap_cons List.flatMap_nil ASlot.toks List.append_nil List.nil_append List.replicate Nat.zero_add Nat.add_zero xbx qi1 gv xp sem xg1 xg2 xbw Fr.get Opd.get Opd.ok ww if_true if_false ite_self or_false or_true true_or false_or or_self List.filter_cons List.filter_nil List.contains_cons List.contains_nil Int.cast_ofNat_Int Int.natCast_add not_false_eq_true implies_true forall_const imp_self and_self true_and and_true false_and and_false Bool.and_true Bool.true_and Bool.false_and Bool.and_false Bool.or_true Bool.true_or Bool.or_false Bool.false_or Bool.not_true Bool.not_false Bool.not_not xha xmm xpx xpy Bool.false_eq_true List.length_cons List.length_nil List.length_append List.set_cons_zero List.set_cons_succ List.cons_append List.map_cons List.map_nil List.all_cons List.all_nil List.getElem?_cons_zero List.getElem?_cons_succ List.getElem?_nil List.getD_cons_zero List.getD_cons_succ List.drop_zero List.drop_succ_cons List.take_zero List.take_succ_cons List.drop_nil List.take_nil List.forall_mem_cons List.not_mem_nil false_imp_iff List.flatten_cons List.flatten_nil ASlot.toCells ASlot.dCells ASlot.dCellsOk ASlot.cellD ASlot.isCellD ASlot.isOne ASlot.asD ASlot.rows D.isCell wm w6 storeAt qbg qh AObj.cells binS qjx qm4 qdu hiB loB qb1 qo1 qb2 y8 jw qbx qn2 Option.map_some Option.map_none Option.isSome_some q3d St.bump_mk xhe ql5 qkn qay qtp xhb ltB qqc qqd decide_true decide_false RVar.good RVar.slot xhc frW qcq xmp xb2 xb4 qsu q8o xhf qn5 xb5 Int.toNat_natCast List.length_map xb3 qzb q3g q8n q3h xmn xhd q3e qza xmo q3f qvw qi2 xh List.nodup_nil Option.some.injEq ASlot.d.injEq D.bool.injEq D.int.injEq D.agg.injEq D.sl.injEq List.cons.injEq D.okW D.okWL D.okWR D.okW_noPtr D.okWL_noPtr D.okWR_noPtr D.noPtr D.noPtrL D.noPtrR ASlot.eqvD xt7 xsr xss xmr xhi xms xp0 xmt xmu xmv xmw xhj xb7 xb8 xhk xb9 xhl qzd q3j qqf xhm xhn q8p qqg q3k xca yp qvy qsv qvz qsw qqe xhh xmq q3i xhg qc7 wx Int.toNat_zero D.default_eq Option.getD_some Option.getD_none qvx qzc Nat.add_sub_cancel beq_self_eq_true ASlot.noPtr xu Bool.and_self Bool.and_self_left Bool.and_self_right bne_self_eq_false qy9 disj xg9 qv0 D.ren D.renL D.renR xmg xso xmh xg3 xpw xmi xmj ASlot.ren1 AObj.ren D.renL_noPtr D.renR_noPtr D.ren_noPtr D.inK D.inKL D.inKR D.inK_noPtr D.inKL_noPtr D.inKR_noPtr ASlot.inK ASlot.inKC AObj.inK jd List.zip_cons_cons List.zip_nil_left List.zip_nil_right qdq xa6 qfn qyn isNone qae List.isEmpty_nil List.isEmpty_cons List.drop_nil Option.some_inj exists_eq_left' exists_eq_left Option.toList_some Option.toList_none
end Go.Abs
