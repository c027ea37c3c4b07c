/- Texts Ba. -/
import Derived.Test.YtkcdbcbpbolgkaaGreatDoorMnh
import Derived.Calls
import Derived.Orders
import Derived.Tactics
import Derived.Laws.AppendOwn
import Derived.Laws.Slices
import Derived.Laws.Closers25
import Derived.Laws.StructEq
import Derived.Laws.BytesString
import Derived.Laws.CopyRow
import Derived.MapKept
import Derived.Maps.RangeRun
import Derived.TacticsIn
import Derived.OrdersIn
import Derived.RangeFuncRecord
import Derived.RangeFuncLeaves
import Derived.IntWalk

namespace Go.Abs
set_option linter.unusedSimpArgs false
set_option linter.unusedVariables false
def SOp.special : SOp → Bool
 | .call .. => true
 | .eqnilS .. => true
 | .nextM .. => true
 | .appendR .. => true
 | .entryM .. => true
 | .callT .. => true
 | _ => false
def St.put (st : St) (dst : Option Nat) (g : Bool) (out : Out) : St :=
 {fr := wi st.fr dst g out.v, os := zu st.os out.wrs, live := qm st.live out, nt := st.nt }
def stepO (P : Program) (ops : List SOper) (k : Nat) (tids : List (List Nat)) (K : List (List Nat) → St → Prop) (dst : Option Nat) (st : St) (g : Bool) (out : Out) : Prop :=
 Obl g out st.live ∧ ARun P ops (k + 1) (tids ++ [out.tags]) K (st.put dst g out)
def xl : Option Bool → (Bool → Prop) → Prop
 | some g, F => F g
 | none, _ => False
theorem xfu {P : Program} {k : Nat} {tids : List (List Nat)} {K : List (List Nat) → St → Prop} {st : St} : ARun P [] k tids K st = K tids st := rfl
theorem qy {P : Program} {ops : List SOper} {k : Nat} {tids : List (List Nat)} {K : List (List Nat) → St → Prop} {st : St} {dst : Option Nat} {op : SOp} {gd : Option (Nat × Bool)} (h : op.special = false) :
  ARun P (⟨dst, op, gd⟩ :: ops) k tids K st = xl (gv st.fr gd) fun g => stepO P ops k tids K dst st g (sem (16 * (st.nt + k)) op st) := by
 simp only [ARun]
 cases gv st.fr gd with
 | none => rfl
 | some g => cases op <;> first | rfl | (simp [SOp.special] at h)
section
variable {P : Program} {ops : List SOper} {k : Nat} {tids : List (List Nat)} {K : List (List Nat) → St → Prop} {st : St} {dst : Option Nat} {gd : Option (Nat × Bool)}
theorem xfv {x : Opd} : ARun P (⟨dst, .mov x, gd⟩ :: ops) k tids K st = xl (gv st.fr gd) fun g => stepO P ops k tids K dst st g (sem (16 * (st.nt + k)) (.mov x) st) := qy rfl
theorem xat {c a b : Opd} : ARun P (⟨dst, .pick c a b, gd⟩ :: ops) k tids K st = xl (gv st.fr gd) fun g => stepO P ops k tids K dst st g (sem (16 * (st.nt + k)) (.pick c a b) st) := qy rfl
theorem xfw {back : Nat} {x : Opd} : ARun P (⟨dst, .box back x, gd⟩ :: ops) k tids K st = xl (gv st.fr gd) fun g => stepO P ops k tids K dst st g (sem (16 * (st.nt + k)) (.box back x) st) := qy rfl
theorem q7d {back : Nat} {zero : List ASlot} : ARun P (⟨dst, .alloc back zero, gd⟩ :: ops) k tids K st = xl (gv st.fr gd) fun g => stepO P ops k tids K dst st g (sem (16 * (st.nt + k)) (.alloc back zero) st) := qy rfl
theorem q7e {zero : List D} {parts : List (Nat × Nat × Opd)} : ARun P (⟨dst, .build zero parts, gd⟩ :: ops) k tids K st = xl (gv st.fr gd) fun g => stepO P ops k tids K dst st g (sem (16 * (st.nt + k)) (.build zero parts) st) := qy rfl
theorem qpr {u : Bool} {es len : Nat} {zero : List D} {parts : List (Nat × Nat × Opd)} : ARun P (⟨dst, .buildSlice u es len zero parts, gd⟩ :: ops) k tids K st = xl (gv st.fr gd) fun g => stepO P ops k tids K dst st g (sem (16 * (st.nt + k)) (.buildSlice u es len zero parts) st) := qy rfl
theorem xau {n : Option Nat} {x : Opd} : ARun P (⟨dst, .load n x, gd⟩ :: ops) k tids K st = xl (gv st.fr gd) fun g => stepO P ops k tids K dst st g (sem (16 * (st.nt + k)) (.load n x) st) := qy rfl
theorem q7f {n : Option Nat} {x v : Opd} : ARun P (⟨dst, .store n x v, gd⟩ :: ops) k tids K st = xl (gv st.fr gd) fun g => stepO P ops k tids K dst st g (sem (16 * (st.nt + k)) (.store n x v) st) := qy rfl
theorem qu4 {x : Opd} : ARun P (⟨dst, .nilCheck x, gd⟩ :: ops) k tids K st = xl (gv st.fr gd) fun g => stepO P ops k tids K dst st g (sem (16 * (st.nt + k)) (.nilCheck x) st) := qy rfl
theorem xfx {op' : BinOp} {x y : Opd} : ARun P (⟨dst, .bin op' x y, gd⟩ :: ops) k tids K st = xl (gv st.fr gd) fun g => stepO P ops k tids K dst st g (sem (16 * (st.nt + k)) (.bin op' x y) st) := qy rfl
theorem xfy {neg : Bool} {x y : Opd} : ARun P (⟨dst, .eqb neg x y, gd⟩ :: ops) k tids K st = xl (gv st.fr gd) fun g => stepO P ops k tids K dst st g (sem (16 * (st.nt + k)) (.eqb neg x y) st) := qy rfl
theorem q7g {neg : Bool} {k' : NK} {x : Opd} : ARun P (⟨dst, .eqnil neg k' x, gd⟩ :: ops) k tids K st = xl (gv st.fr gd) fun g => stepO P ops k tids K dst st g (sem (16 * (st.nt + k)) (.eqnil neg k' x) st) := qy rfl
theorem q7h {neg : Bool} {ks : List CK} {x y : Opd} : ARun P (⟨dst, .eqAgg neg ks x y, gd⟩ :: ops) k tids K st = xl (gv st.fr gd) fun g => stepO P ops k tids K dst st g (sem (16 * (st.nt + k)) (.eqAgg neg ks x y) st) := qy rfl
theorem xfz {x : Opd} : ARun P (⟨dst, .not x, gd⟩ :: ops) k tids K st = xl (gv st.fr gd) fun g => stepO P ops k tids K dst st g (sem (16 * (st.nt + k)) (.not x) st) := qy rfl
theorem xf0 {x : Opd} : ARun P (⟨dst, .neg x, gd⟩ :: ops) k tids K st = xl (gv st.fr gd) fun g => stepO P ops k tids K dst st g (sem (16 * (st.nt + k)) (.neg x) st) := qy rfl
theorem xav {k' : IntKind} {x : Opd} : ARun P (⟨dst, .conv k' x, gd⟩ :: ops) k tids K st = xl (gv st.fr gd) fun g => stepO P ops k tids K dst st g (sem (16 * (st.nt + k)) (.conv k' x) st) := qy rfl
theorem xf1 {x : Opd} : ARun P (⟨dst, .i2s x, gd⟩ :: ops) k tids K st = xl (gv st.fr gd) fun g => stepO P ops k tids K dst st g (sem (16 * (st.nt + k)) (.i2s x) st) := qy rfl
theorem xf2 {x : Opd} : ARun P (⟨dst, .b2s x, gd⟩ :: ops) k tids K st = xl (gv st.fr gd) fun g => stepO P ops k tids K dst st g (sem (16 * (st.nt + k)) (.b2s x) st) := qy rfl
theorem xf3 {x : Opd} : ARun P (⟨dst, .s2b x, gd⟩ :: ops) k tids K st = xl (gv st.fr gd) fun g => stepO P ops k tids K dst st g (sem (16 * (st.nt + k)) (.s2b x) st) := qy rfl
theorem q2a {fn : Fn} {first captured : List Opd} : ARun P (⟨dst, .mkFunc fn first captured, gd⟩ :: ops) k tids K st = xl (gv st.fr gd) fun g => stepO P ops k tids K dst st g (sem (16 * (st.nt + k)) (.mkFunc fn first captured) st) := qy rfl
theorem qr7 {u : Bool} {es bytes : Nat} {zero : List D} {l c : Opd} : ARun P (⟨dst, .makeSlice u es bytes zero l c, gd⟩ :: ops) k tids K st = xl (gv st.fr gd) fun g => stepO P ops k tids K dst st g (sem (16 * (st.nt + k)) (.makeSlice u es bytes zero l c) st) := qy rfl
theorem qps {back es bytes : Nat} {zero : List D} {l c : Opd} : ARun P (⟨dst, .makeSliceO back es bytes zero l c, gd⟩ :: ops) k tids K st = xl (gv st.fr gd) fun g => stepO P ops k tids K dst st g (sem (16 * (st.nt + k)) (.makeSliceO back es bytes zero l c) st) := qy rfl
theorem q7i {es : Nat} {x : Opd} {lo hi mx : Option Opd} : ARun P (⟨dst, .slice es x lo hi mx, gd⟩ :: ops) k tids K st = xl (gv st.fr gd) fun g => stepO P ops k tids K dst st g (sem (16 * (st.nt + k)) (.slice es x lo hi mx) st) := qy rfl
theorem q2b {len es : Nat} {x : Opd} {lo hi mx : Option Opd} : ARun P (⟨dst, .sliceA len es x lo hi mx, gd⟩ :: ops) k tids K st = xl (gv st.fr gd) fun g => stepO P ops k tids K dst st g (sem (16 * (st.nt + k)) (.sliceA len es x lo hi mx) st) := qy rfl
theorem q2c {x : Opd} {lo hi : Option Opd} : ARun P (⟨dst, .sliceS x lo hi, gd⟩ :: ops) k tids K st = xl (gv st.fr gd) fun g => stepO P ops k tids K dst st g (sem (16 * (st.nt + k)) (.sliceS x lo hi) st) := qy rfl
theorem q7j {off : Nat} {x : Opd} : ARun P (⟨dst, .faddr off x, gd⟩ :: ops) k tids K st = xl (gv st.fr gd) fun g => stepO P ops k tids K dst st g (sem (16 * (st.nt + k)) (.faddr off x) st) := qy rfl
theorem q7k {n : Option Nat} {off : Nat} {x : Opd} : ARun P (⟨dst, .field n off x, gd⟩ :: ops) k tids K st = xl (gv st.fr gd) fun g => stepO P ops k tids K dst st g (sem (16 * (st.nt + k)) (.field n off x) st) := qy rfl
theorem q7l {es : Nat} {x i : Opd} : ARun P (⟨dst, .iaddr es x i, gd⟩ :: ops) k tids K st = xl (gv st.fr gd) fun g => stepO P ops k tids K dst st g (sem (16 * (st.nt + k)) (.iaddr es x i) st) := qy rfl
theorem q2d {len es : Nat} {x i : Opd} : ARun P (⟨dst, .iaddrA len es x i, gd⟩ :: ops) k tids K st = xl (gv st.fr gd) fun g => stepO P ops k tids K dst st g (sem (16 * (st.nt + k)) (.iaddrA len es x i) st) := qy rfl
theorem q2e {x i : Opd} : ARun P (⟨dst, .indexS x i, gd⟩ :: ops) k tids K st = xl (gv st.fr gd) fun g => stepO P ops k tids K dst st g (sem (16 * (st.nt + k)) (.indexS x i) st) := qy rfl
theorem q2f {len es : Nat} {n : Option Nat} {x i : Opd} : ARun P (⟨dst, .indexA len es n x i, gd⟩ :: ops) k tids K st = xl (gv st.fr gd) fun g => stepO P ops k tids K dst st g (sem (16 * (st.nt + k)) (.indexA len es n x i) st) := qy rfl
theorem qyi {i : Nat} {x : Opd} : ARun P (⟨dst, .extract i x, gd⟩ :: ops) k tids K st = xl (gv st.fr gd) fun g => stepO P ops k tids K dst st g (sem (16 * (st.nt + k)) (.extract i x) st) := qy rfl
theorem xf4 {x : Opd} : ARun P (⟨dst, .len x, gd⟩ :: ops) k tids K st = xl (gv st.fr gd) fun g => stepO P ops k tids K dst st g (sem (16 * (st.nt + k)) (.len x) st) := qy rfl
theorem xaw {x : Opd} : ARun P (⟨dst, .lenS x, gd⟩ :: ops) k tids K st = xl (gv st.fr gd) fun g => stepO P ops k tids K dst st g (sem (16 * (st.nt + k)) (.lenS x) st) := qy rfl
theorem q7m {x : Opd} : ARun P (⟨dst, .asStr x, gd⟩ :: ops) k tids K st = xl (gv st.fr gd) fun g => stepO P ops k tids K dst st g (sem (16 * (st.nt + k)) (.asStr x) st) := qy rfl
theorem q2g {u : Bool} {es bytes : Nat} {s x : Opd} : ARun P (⟨dst, .append u es bytes s x, gd⟩ :: ops) k tids K st = xl (gv st.fr gd) fun g => stepO P ops k tids K dst st g (sem (16 * (st.nt + k)) (.append u es bytes s x) st) := qy rfl
theorem xax {es : Nat} {s x : Opd} : ARun P (⟨dst, .copy es s x, gd⟩ :: ops) k tids K st = xl (gv st.fr gd) fun g => stepO P ops k tids K dst st g (sem (16 * (st.nt + k)) (.copy es s x) st) := qy rfl
theorem qyj {back : Nat} : ARun P (⟨dst, .makeMap back, gd⟩ :: ops) k tids K st = xl (gv st.fr gd) fun g => stepO P ops k tids K dst st g (sem (16 * (st.nt + k)) (.makeMap back) st) := qy rfl
theorem xay {n : Nat} {x : Opd} : ARun P (⟨dst, .s2ap n x, gd⟩ :: ops) k tids K st = xl (gv st.fr gd) fun g => stepO P ops k tids K dst st g (sem (16 * (st.nt + k)) (.s2ap n x) st) := qy rfl
theorem q2h {kd : KD} {z : ASlot} {c : Bool} {x y : Opd} : ARun P (⟨dst, .lookup kd z c x y, gd⟩ :: ops) k tids K st = xl (gv st.fr gd) fun g => stepO P ops k tids K dst st g (sem (16 * (st.nt + k)) (.lookup kd z c x y) st) := qy rfl
theorem qr8 {kd : KD} {x y v : Opd} : ARun P (⟨dst, .mapUpdate kd x y v, gd⟩ :: ops) k tids K st = xl (gv st.fr gd) fun g => stepO P ops k tids K dst st g (sem (16 * (st.nt + k)) (.mapUpdate kd x y v) st) := qy rfl
theorem q2i {kd : KD} {x y : Opd} : ARun P (⟨dst, .delete kd x y, gd⟩ :: ops) k tids K st = xl (gv st.fr gd) fun g => stepO P ops k tids K dst st g (sem (16 * (st.nt + k)) (.delete kd x y) st) := qy rfl
theorem xaz {x : Opd} : ARun P (⟨dst, .lenM x, gd⟩ :: ops) k tids K st = xl (gv st.fr gd) fun g => stepO P ops k tids K dst st g (sem (16 * (st.nt + k)) (.lenM x) st) := qy rfl
theorem q2j {back : Nat} {x : Opd} : ARun P (⟨dst, .rangeM back x, gd⟩ :: ops) k tids K st = xl (gv st.fr gd) fun g => stepO P ops k tids K dst st g (sem (16 * (st.nt + k)) (.rangeM back x) st) := qy rfl
theorem qyk {t : TypeId} {x : Opd} : ARun P (⟨dst, .mkIface t x, gd⟩ :: ops) k tids K st = xl (gv st.fr gd) fun g => stepO P ops k tids K dst st g (sem (16 * (st.nt + k)) (.mkIface t x) st) := qy rfl
theorem qyl {t : TypeId} {c : Bool} {x : Opd} : ARun P (⟨dst, .assertT t c x, gd⟩ :: ops) k tids K st = xl (gv st.fr gd) fun g => stepO P ops k tids K dst st g (sem (16 * (st.nt + k)) (.assertT t c x) st) := qy rfl
theorem qym {back es bytes : Nat} {s x : Opd} : ARun P (⟨dst, .appendO back es bytes s x, gd⟩ :: ops) k tids K st = xl (gv st.fr gd) fun g => stepO P ops k tids K dst st g (sem (16 * (st.nt + k)) (.appendO back es bytes s x) st) := qy rfl
theorem q2k {mx : Bool} {x y : Opd} : ARun P (⟨dst, .minmax mx x y, gd⟩ :: ops) k tids K st = xl (gv st.fr gd) fun g => stepO P ops k tids K dst st g (sem (16 * (st.nt + k)) (.minmax mx x y) st) := qy rfl
end
theorem xf5 {P : Program} {ops : List SOper} {k : Nat} {tids : List (List Nat)} {K : List (List Nat) → St → Prop} {dst : Option Nat} {fr : Fr} {os : List AObj} {live : List Nat} {nt : Nat} {g : Bool} {v : ASlot} {ob : Prop} {rd : Option Nat} :
  stepO P ops k tids K dst ⟨fr, os, live, nt⟩ g ⟨v, ob, rd, none, [], [], [], []⟩ = ((g = true → ob) ∧ ARun P ops (k + 1) (tids ++ [rd.toList]) K ⟨wi fr dst g v, os, live, nt⟩) := by
 have hl : qm live (⟨v, ob, rd, none, [], [], [], []⟩ : Out) = live := xd rfl rfl
 simp only [stepO, Obl, Out.tags, Out.wrs, St.put, Out.tame, hl]
 simp [zu]
theorem xf6 {P : Program} {ops : List SOper} {k : Nat} {tids : List (List Nat)} {K : List (List Nat) → St → Prop} {dst : Option Nat} {fr : Fr} {os : List AObj} {live : List Nat} {nt : Nat} {g : Bool} {v : ASlot} {ob : Prop} {rd : Option Nat} {id : Nat} {o : AObj} :
  stepO P ops k tids K dst ⟨fr, os, live, nt⟩ g ⟨v, ob, rd, some (id, o), [], [], [], []⟩ = (g = true ∧ ob ∧ ARun P ops (k + 1) (tids ++ [id :: (1000000 + id) :: rd.toList]) K ⟨wi fr dst g v, os.set id o, live, nt⟩) := by
 have hl : qm live (⟨v, ob, rd, some (id, o), [], [], [], []⟩ : Out) = live := xd rfl rfl
 simp only [stepO, Obl, Out.tags, Out.wrs, St.put, Out.tame, hl]
 cases g <;> simp [zu]
theorem xa0 {P : Program} {ops : List SOper} {k : Nat} {tids : List (List Nat)} {K : List (List Nat) → St → Prop} {dst : Option Nat} {fr : Fr} {os : List AObj} {live : List Nat} {nt : Nat} {g : Bool} {v : ASlot} {ob : Prop} {rd : Option Nat} {cons : List Nat} {t : Nat} :
  stepO P ops k tids K dst ⟨fr, os, live, nt⟩ g ⟨v, ob, rd, none, cons, [t], [], []⟩ = (g = true ∧ ob ∧ (cons.all fun t => live.contains t) = true ∧ ARun P ops (k + 1) (tids ++ [rd.toList]) K ⟨wi fr dst g v, os, (live.filter fun t => !cons.contains t) ++ [t], nt⟩) := by
 have hc : ((cons.all fun t => live.contains t) = true) = (∀ t ∈ cons, t ∈ live) := by simp
 rw [hc]
 simp only [stepO, Obl, Out.tags, Out.wrs, St.put, Out.tame, qm]
 cases g <;> simp [and_assoc, zu]
def qll (P : Program) (ops : List SOper) (k : Nat) (tids : List (List Nat)) (K : List (List Nat) → St → Prop) (dst : Option Nat) (st : St) (g : Bool) (c : Option (FuncId × List ASlot)) (ok : Bool) : Prop :=
 ∃ n as fa r fo fo' ι q, r.toks.length ≤ 16 ∧ (g = true → c = some (n, as) ∧ ok = true ∧ qf P n fa fo r fo' ∧ (P.funcs[n]?).any (fun fn => fn.body.isSome && !(fn.name == "runtime.NumGoroutine")) = true ∧ Fits st.live as fa ι fo.length (xr as fa) ∧ ObjFit st.os fo fo' ι ∧ (xg fo = [] ∧ xg fo' = []) ∧ (q = true → ∀ p ∈ ι.zip (fo'.map (AObj.ren ι)), st.os[p.1]? = some p.2)) ∧
  (g = true ∨ (ze (16 * (st.nt + k)) as fa r fo' ι q).tame) ∧ ARun P ops (k + 1) (tids ++ [(ze (16 * (st.nt + k)) as fa r fo' ι q).tags]) K (st.put dst g (ze (16 * (st.nt + k)) as fa r fo' ι q))
theorem xa1 {P : Program} {ops : List SOper} {k : Nat} {tids : List (List Nat)} {K : List (List Nat) → St → Prop} {st : St} {dst : Option Nat} {f : Opd} {args : List Opd} {gd : Option (Nat × Bool)} :
  ARun P (⟨dst, .call f args, gd⟩ :: ops) k tids K st = xl (gv st.fr gd) fun g => qll P ops k tids K dst st g (qim st.fr f args) (f.ok st.fr && args.all fun x => x.ok st.fr) := by
 simp only [ARun]
 cases hg : gv st.fr gd with
 | none => rfl
 | some g =>
  simp only [xl, qll]
  apply propext
  constructor
  ·rintro ⟨n, as, fa, r, fo, fo', ι, q, h1, h2, h3, h4⟩
   exact ⟨n, as, fa, r, fo, fo', ι, q, h1, fun h => ⟨(h2 h).callee, by rw [(h2 h).ok, (h2 h).oks]; rfl, (h2 h).contract, (h2 h).body, (h2 h).fits, (h2 h).objs, (h2 h).noT, (h2 h).quiet⟩, h3, h4⟩
  ·rintro ⟨n, as, fa, r, fo, fo', ι, q, h1, h2, h3, h4⟩
   refine ⟨n, as, fa, r, fo, fo', ι, q, h1, fun h => ?_, h3, h4⟩
   obtain ⟨q1, q2, q3, q4, q5, q6, q7, q8⟩ := h2 h
   rw [Bool.and_eq_true] at q2
   exact ⟨q1, q2.1, q2.2, q3, q4, q5, q6, q7, h1, q8⟩
theorem qlm {r : ASlot} (hr : r.toks = []) (b : Nat) : qdz b r = r := by
 have hren : ∀ (b : Nat) (s : ASlot), s.toks = [] → renT [] b s = s := by
  intro b s hs
  cases s <;> first | rfl | (simp [ASlot.toks] at hs)
 cases r with
 | tup l =>
  simp only [qdz, wg, hr, ASlot.tup.injEq]
  have : ∀ s ∈ l, renT [] b s = s := fun s hs => by
   cases s with
   | own t es rows => simp only [ASlot.toks, List.flatMap_eq_nil_iff] at hr; have := hr _ hs; simp [qbi] at this
   | uni t es rows => simp only [ASlot.toks, List.flatMap_eq_nil_iff] at hr; have := hr _ hs; simp [qbi] at this
   | _ => rfl
  rw [List.map_congr_left this, List.map_id']
 | own t es rows => simp [ASlot.toks] at hr
 | uni t es rows => simp [ASlot.toks] at hr
 | _ => rfl
mutual
theorem qm0 {s : ASlot} (k : Nat) (h : s.noPtr = true) : s.inK k = true := by
 cases s with
 | d x => exact D.inK_noPtr k h
 | own t es rows => exact D.inKR_noPtr k h
 | uni t es rows => exact D.inKR_noPtr k h
 | full es rows => exact D.inKR_noPtr k h
 | rd cs => exact D.inKL_noPtr k h
 | _ => simp [ASlot.noPtr] at h
end
theorem qs2 (os : List AObj) : ObjFit os [] [] [] := ⟨List.nodup_nil, rfl, Nat.le_refl _, trivial, by simp, rfl⟩
theorem qpt (l : List ASlot) : l.map (ASlot.ren []) = l := by
 have : ASlot.ren [] = id := by funext s; rfl
 rw [this, List.map_id]
theorem xt {P : Program} {ops : List SOper} {k : Nat} {tids : List (List Nat)} {K : List (List Nat) → St → Prop} {fr : Fr} {os : List AObj} {live : List Nat} {nt : Nat} {dst : Option Nat} {g ok : Bool} {n : FuncId} {fa as : List ASlot} {r : ASlot}
  (hc : qf P n fa [] r []) (hb : (P.funcs[n]?).any (fun fn => fn.body.isSome && !(fn.name == "runtime.NumGoroutine")) = true) (ho : g = true → ok = true)
  (hfit : g = true → yg as fa) (hnp : fa.all ASlot.noPtr = true) (hh : xr as fa = []) (hr : r.toks = [])
  (hK : ARun P ops (k + 1) (tids ++ [[]]) K ⟨wi fr dst g r, os, live, nt⟩) :
  qll P ops k tids K dst ⟨fr, os, live, nt⟩ g (some (n, as)) ok := by
 have hre := qlm hr
 have hput : St.put (⟨fr, os, live, nt⟩ : St) dst g (ze (16 * (nt + k)) as fa r [] [] false) = ⟨wi fr dst g r, os, live, nt⟩ := by
  simp only [St.put, ze, Out.wrs, hre, qm, hh, hr]
  simp [zu, ASlot.ren]
 refine ⟨n, as, fa, r, [], [], [], false, by rw [hr]; simp, fun h => ⟨rfl, ho h, hc, hb, ⟨by rw [qpt]; exact hfit h, List.all_eq_true.2 fun s hs => qm0 _ (List.all_eq_true.1 hnp s hs), by rw [hh]; simp, by rw [hh]; simp⟩, qs2 _, ⟨rfl, rfl⟩, (nomatch ·)⟩, .inr ⟨by simp [ze, Out.wrs], by simp [ze, hh], by simp [ze, hre, hr]⟩, ?_⟩
 rw [hput]
 exact hK
theorem qj5 {P : Program} {ops : List SOper} {k : Nat} {tids : List (List Nat)} {K : List (List Nat) → St → Prop} {fr : Fr} {os : List AObj} {live : List Nat} {nt : Nat} {dst : Option Nat} {g ok : Bool} {c : Option (FuncId × List ASlot)} (x : D)
  (hg : g = false) (hK : ARun P ops (k + 1) (tids ++ [[]]) K ⟨wi fr dst g (.d x), os, live, nt⟩) : qll P ops k tids K dst ⟨fr, os, live, nt⟩ g c ok := by
 subst hg
 refine ⟨0, [], [], .d x, [], [], [], false, by simp [ASlot.toks], fun h => (by cases h), .inr ⟨rfl, rfl, rfl⟩, ?_⟩
 have : St.put (⟨fr, os, live, nt⟩ : St) dst false (ze (16 * (nt + k)) [] [] (.d x) [] [] false) = ⟨wi fr dst false (.d x), os, live, nt⟩ := by
  simp [St.put, ze, Out.wrs, qdz, wg, renT, qm, xr, ASlot.toks, zu, ASlot.ren]
 rw [this]
 exact hK
theorem xle {s : ASlot} : ASlot.ren [] s = s := rfl
theorem xrc {i : Nat} {ι : List Nat} {x : D} : ASlot.ren (i :: ι) (.d x) = .d (x.ren (i :: ι)) := rfl
theorem xlf {i : Nat} {ι : List Nat} {t es : Nat} {rows : List (List D)} : ASlot.ren (i :: ι) (.own t es rows) = .own t es (D.renR (i :: ι) rows) := rfl
theorem xf7 {i : Nat} {ι : List Nat} {es : Nat} {rows : List (List D)} : ASlot.ren (i :: ι) (.full es rows) = .full es (D.renR (i :: ι) rows) := rfl
theorem xoo {i : Nat} {ι : List Nat} {cs : List D} : ASlot.ren (i :: ι) (.rd cs) = .rd (D.renL (i :: ι) cs) := rfl
theorem xlg {i : Nat} {ι : List Nat} {l : List ASlot} : ASlot.ren (i :: ι) (.tup l) = .tup (l.map (ASlot.ren1 (i :: ι))) := rfl
theorem xlh {i : Nat} {ι : List Nat} : ASlot.ren (i :: ι) .bad = .bad := rfl
def isNone (os : List AObj) (id : Nat) : Bool := match os[id]? with | some .none => true | _ => false
def y4 : List ASlot → Bool
 | [] => true
 | s :: l => s.toks.isEmpty && y4 l
theorem qs3 : ∀ (l : List ASlot), y4 l = true ↔ ∀ s ∈ l, s.toks = []
 | [] => by simp [y4]
 | s :: l => by simp [y4, qs3 l]
theorem qfd : ∀ {l : List AObj}, (l.all fun o => y4 o.cells) = true → xg l = []
 | [], _ => rfl
 | o :: l, h => by
  rw [List.all_cons, Bool.and_eq_true] at h
  simp only [xg, qfd h.2, List.append_nil, List.flatMap_eq_nil_iff]
  exact (qs3 _).1 h.1
theorem xa2 {P : Program} {ops : List SOper} {k : Nat} {tids : List (List Nat)} {K : List (List Nat) → St → Prop} {fr : Fr} {os : List AObj} {live : List Nat} {nt : Nat} {dst : Option Nat} {ok : Bool} {n : FuncId} {fa as : List ASlot} {r : ASlot} {fo fo' : List AObj} (ι : List Nat)
  (hc : qf P n fa fo r fo') (hb : (P.funcs[n]?).any (fun fn => fn.body.isSome && !(fn.name == "runtime.NumGoroutine")) = true) (ho : ok = true)
  (hfit : yg as (fa.map (ASlot.ren ι))) (hin : fa.all (ASlot.inK fo.length) = true) (hh : xr as fa = []) (hr : r.toks = [])
  (hnd : ι.Nodup) (hlen : ι.length = fo'.length) (hle : fo.length ≤ fo'.length) (hold : qda ι os ι fo) (hnew : (ι.drop fo.length).all (isNone os) = true) (hik : fo.all (AObj.inK fo.length) = true) (htk : (fo'.all fun o => y4 o.cells) = true) (htf : (fo.all fun o => y4 o.cells) = true)
  (hK : ARun P ops (k + 1) (tids ++ [ι ++ ι.map fun i => 1000000 + i]) K ⟨wi fr dst true (r.ren ι), zu os (ι.zip (fo'.map (AObj.ren ι))), live, nt⟩) :
  qll P ops k tids K dst ⟨fr, os, live, nt⟩ true (some (n, as)) ok := by
 have hre := qlm hr
 have hput : St.put (⟨fr, os, live, nt⟩ : St) dst true (ze (16 * (nt + k)) as fa r fo' ι false) = ⟨wi fr dst true (r.ren ι), zu os (ι.zip (fo'.map (AObj.ren ι))), live, nt⟩ := by
  simp only [St.put, ze, Out.wrs, hre, qm, hh, hr, cond_false]
  simp
 have hto : (ze (16 * (nt + k)) as fa r fo' ι false).tags = ι ++ ι.map (fun i => 1000000 + i) := by
  simp only [Out.tags, Out.wrs, ze, cond_false]
  have : (ι.zip (fo'.map (AObj.ren ι))).map (·.1) = ι := by
   rw [List.map_fst_zip (by rw [List.length_map]; omega)]
  have h2 : (ι.zip (fo'.map (AObj.ren ι))).map (fun p => 1000000 + p.1) = ι.map fun i => 1000000 + i := by
   rw [← this, List.map_map]; rw [this]; rfl
  simp [this, h2]
 refine ⟨n, as, fa, r, fo, fo', ι, false, by rw [hr]; simp, fun _ => ⟨rfl, ho, hc, hb, ⟨hfit, hin, by rw [hh]; simp, by rw [hh]; simp⟩, ⟨hnd, hlen, hle, hold, fun id hid => ?_, hik⟩, ⟨qfd htf, qfd htk⟩, (nomatch ·)⟩, .inl rfl, ?_⟩
 ·have := List.all_eq_true.1 hnew id hid
  unfold isNone at this
  split at this
  ·rename_i h; exact h
  ·cases this
 ·rw [hto, hput]
  exact hK
def nilO (P : Program) (ops : List SOper) (k : Nat) (tids : List (List Nat)) (K : List (List Nat) → St → Prop) (dst : Option Nat) (st : St) (g neg ok : Bool) (s : ASlot) : Prop :=
 g = true ∧ ok = true ∧ ∃ es rows, s.rows = some (es, rows) ∧ ∀ b : Bool, (b = true → rows = []) → ARun P ops (k + 1) (tids ++ [[]]) K ⟨wi st.fr dst true (.d (.bool (if neg = true then !b else b))), st.os, st.live, st.nt⟩
theorem q2l {P : Program} {ops : List SOper} {k : Nat} {tids : List (List Nat)} {K : List (List Nat) → St → Prop} {st : St} {dst : Option Nat} {neg : Bool} {x : Opd} {gd : Option (Nat × Bool)} :
  ARun P (⟨dst, .eqnilS neg x, gd⟩ :: ops) k tids K st = xl (gv st.fr gd) fun g => nilO P ops k tids K dst st g neg (x.ok st.fr) (x.get st.fr) := by
 simp only [ARun]
 cases gv st.fr gd with
 | none => rfl
 | some g =>
  cases g with
  | false => simp [xl, nilO]
  | true =>
   have hn : ∀ b, st.next ⟨dst, .eqnilS neg x, gd⟩ true (qss neg b) = ⟨wi st.fr dst true (.d (.bool (if neg = true then !b else b))), st.os, st.live, st.nt⟩ := by
    intro b
    have hl : qm st.live (qss neg b) = st.live := xd rfl rfl
    simp only [St.next, hl]
    rfl
   simp only [xl, nilO, hn]
def xf8 (P : Program) (ops : List SOper) (k : Nat) (tids : List (List Nat)) (K : List (List Nat) → St → Prop) (dst : Option Nat) (st : St) (g ok : Bool) (s : ASlot) : Prop :=
 g = true ∧ ok = true ∧ ∃ iid, s = .d (.ptr iid 0) ∧
  ((∃ since seen last, st.os[iid]? = some (.iter (.d .nilmap) since seen last) ∧ ARun P ops (k + 1) (tids ++ [[]]) K ⟨wi st.fr dst true qo6, st.os, st.live, st.nt⟩) ∨
   ∃ mid since seen last es clock, IterOn st.os iid mid since seen last es clock ∧ (qfv es seen = [] → ARun P ops (k + 1) (tids ++ [[]]) K ⟨wi st.fr dst true qo6, st.os, st.live, st.nt⟩) ∧
    ∀ e ∈ qfv es seen, ARun P ops (k + 1) (tids ++ [[]]) K ⟨wi st.fr dst true (entV e), st.os.set iid (.iter (.d (.map mid)) since (seen ++ [e.1]) clock), st.live, st.nt⟩)
theorem q7o {P : Program} {ops : List SOper} {k : Nat} {tids : List (List Nat)} {K : List (List Nat) → St → Prop} {st : St} {dst : Option Nat} {x : Opd} {gd : Option (Nat × Bool)} :
  ARun P (⟨dst, .nextM x, gd⟩ :: ops) k tids K st = xl (gv st.fr gd) fun g => xf8 P ops k tids K dst st g (x.ok st.fr) (x.get st.fr) := by
 simp only [ARun]
 cases gv st.fr gd with
 | none => rfl
 | some g =>
  cases g with
  | false => simp [xl, xf8]
  | true =>
   have h1 : st.next ⟨dst, .nextM x, gd⟩ true qfz = ⟨wi st.fr dst true qo6, st.os, st.live, st.nt⟩ := by
    have hl : qm st.live qfz = st.live := xd rfl rfl
    simp only [St.next, hl]
    rfl
   have h2 : ∀ iid mid since seen clock e, st.next ⟨dst, .nextM x, gd⟩ true (qpg iid mid since seen clock e) = ⟨wi st.fr dst true (entV e), st.os.set iid (.iter (.d (.map mid)) since (seen ++ [e.1]) clock), st.live, st.nt⟩ := by
    intro iid mid since seen clock e
    have hl : qm st.live (qpg iid mid since seen clock e) = st.live := xd rfl rfl
    simp only [St.next, hl]
    rfl
   simp only [xl, xf8, h1, h2]
theorem xf9 {P : Program} {ops : List SOper} {k : Nat} {tids : List (List Nat)} {K : List (List Nat) → St → Prop} {fr : Fr} {os : List AObj} {live : List Nat} {nt : Nat} {dst : Option Nat} {ok : Bool} {iid mid since last clock : Nat} {seen : List Nat} {es : Ents}
  (h : IterOn os iid mid since seen last es clock) (h1 : qfv es seen = [] → ARun P ops (k + 1) (tids ++ [[]]) K ⟨wi fr dst true qo6, os, live, nt⟩)
  (h2 : ∀ e ∈ qfv es seen, ARun P ops (k + 1) (tids ++ [[]]) K ⟨wi fr dst true (entV e), os.set iid (.iter (.d (.map mid)) since (seen ++ [e.1]) clock), live, nt⟩) (ho : ok = true := by rfl) :
  xf8 P ops k tids K dst ⟨fr, os, live, nt⟩ true ok (.d (.ptr iid 0)) := ⟨rfl, ho, iid, rfl, .inr ⟨mid, since, seen, last, es, clock, h, h1, h2⟩⟩
def xga (P : Program) (ops : List SOper) (k : Nat) (tids : List (List Nat)) (K : List (List Nat) → St → Prop) (dst : Option Nat) (st : St) (g : Bool) (back es bytes : Nat) (s x : Opd) : Prop :=
 g = true ∧ (((sem (16 * (st.nt + k)) (.appendO back es bytes s x) st).ob ∧ ARun P ops (k + 1) (tids ++ [[]]) K (st.next ⟨dst, .appendR back es bytes s x, none⟩ true (sem (16 * (st.nt + k)) (.appendO back es bytes s x) st))) ∨
     (s.ok st.fr = true ∧ x.ok st.fr = true ∧ ∃ id n r, s.get st.fr = .d (.ref id 0 es n) ∧ yv es st.os (x.get st.fr) = some r ∧ AppR st.os es bytes back id n r ∧
      ARun P ops (k + 1) (tids ++ [[]]) K (st.next ⟨dst, .appendR back es bytes s x, none⟩ true (qph id id es n st.os r)) ∧ ARun P ops (k + 1) (tids ++ [[]]) K (st.next ⟨dst, .appendR back es bytes s x, none⟩ true (qph id (st.os.length - back) es n st.os r))))
theorem qyn {P : Program} {ops : List SOper} {k : Nat} {tids : List (List Nat)} {K : List (List Nat) → St → Prop} {st : St} {dst : Option Nat} {back es bytes : Nat} {s x : Opd} {gd : Option (Nat × Bool)} :
  ARun P (⟨dst, .appendR back es bytes s x, gd⟩ :: ops) k tids K st = xl (gv st.fr gd) fun g => xga P ops k tids K dst st g back es bytes s x := by
 simp only [ARun]
 cases gv st.fr gd with
 | none => rfl
 | some g =>
  cases g with
  | false => simp [xl, xga]
  | true => rfl
def q40 (P : Program) (ops : List SOper) (k : Nat) (tids : List (List Nat)) (K : List (List Nat) → St → Prop) (dst : Option Nat) (st : St) (g ok : Bool) (s : ASlot) : Prop :=
 g = true ∧ ok = true ∧ ∃ iid mid since seen clock es e, s = .d (.ptr iid 0) ∧ EntryOn st.os iid mid since seen clock es e ∧ ARun P ops (k + 1) (tids ++ [[]]) K ⟨wi st.fr dst true (.tup [.d e.2.1, .d e.2.2]), st.os, st.live, st.nt⟩
theorem q2m {P : Program} {ops : List SOper} {k : Nat} {tids : List (List Nat)} {K : List (List Nat) → St → Prop} {st : St} {dst : Option Nat} {x : Opd} {gd : Option (Nat × Bool)} :
  ARun P (⟨dst, .entryM x, gd⟩ :: ops) k tids K st = xl (gv st.fr gd) fun g => q40 P ops k tids K dst st g (x.ok st.fr) (x.get st.fr) := by
 simp only [ARun]
 cases gv st.fr gd with
 | none => rfl
 | some g =>
  cases g with
  | false => simp [xl, q40]
  | true =>
   have h1 : ∀ e, st.next ⟨dst, .entryM x, gd⟩ true (qf0 e) = ⟨wi st.fr dst true (.tup [.d e.2.1, .d e.2.2]), st.os, st.live, st.nt⟩ := by
    intro e
    have hl : qm st.live (qf0 e) = st.live := xd rfl rfl
    simp only [St.next, hl]
    rfl
   simp only [xl, q40, h1]
theorem xa3 {P : Program} {ops : List SOper} {k : Nat} {tids : List (List Nat)} {K : List (List Nat) → St → Prop} {fr : Fr} {os : List AObj} {live : List Nat} {nt : Nat} {dst : Option Nat} {ok : Bool} {iid mid since clock : Nat} {seen : List Nat} {es : Ents} {e : Nat × D × D}
  (h : EntryOn os iid mid since seen clock es e) (h1 : ARun P ops (k + 1) (tids ++ [[]]) K ⟨wi fr dst true (.tup [.d e.2.1, .d e.2.2]), os, live, nt⟩) (ho : ok = true := by rfl) :
  q40 P ops k tids K dst ⟨fr, os, live, nt⟩ true ok (.d (.ptr iid 0)) := ⟨rfl, ho, iid, mid, since, seen, clock, es, e, rfl, h, h1⟩
theorem qln {P : Program} {ops : List SOper} {k : Nat} {tids : List (List Nat)} {K : List (List Nat) → St → Prop} {fr : Fr} {os : List AObj} {live : List Nat} {nt : Nat} {dst : Option Nat} {neg ok : Bool} {s : ASlot} {es : Nat} {rows : List (List D)}
  (ho : ok = true) (hr : s.rows = some (es, rows)) (h : ∀ b : Bool, (b = true → rows = []) → ARun P ops (k + 1) (tids ++ [[]]) K ⟨wi fr dst true (.d (.bool (if neg = true then !b else b))), os, live, nt⟩) :
  nilO P ops k tids K dst ⟨fr, os, live, nt⟩ true neg ok s := ⟨rfl, ho, es, rows, hr, h⟩
structure Fits0 (live : List Nat) (as fa : List ASlot) : Prop where
 all : yg as fa
 noPtr : fa.all ASlot.noPtr = true
 lv : ∀ p ∈ xr as fa, p.1 ∈ live
 nd1 : ((xr as fa).map (·.1)).Nodup
theorem qg7 {P : Program} {ops : List SOper} {k : Nat} {tids : List (List Nat)} {K : List (List Nat) → St → Prop} {fr : Fr} {os : List AObj} {live : List Nat} {nt : Nat} {dst : Option Nat} {ok : Bool} {n : FuncId} {fa as : List ASlot} {r : ASlot}
  (hc : qf P n fa [] r []) (hb : (P.funcs[n]?).any (fun fn => fn.body.isSome && !(fn.name == "runtime.NumGoroutine")) = true) (ho : ok = true)
  (hfit : Fits0 live as fa) (hnd : r.toks.Nodup) (hfew : r.toks.length ≤ 16)
  (hK : ARun P ops (k + 1) (tids ++ [[]]) K ⟨wi fr dst true (qdz (16 * (nt + k)) r), os, (live.filter fun t => !((xr as fa).map (·.1)).contains t) ++ (qdz (16 * (nt + k)) r).toks, nt⟩) :
  qll P ops k tids K dst ⟨fr, os, live, nt⟩ true (some (n, as)) ok :=
 ⟨n, as, fa, r, [], [], [], false, hfew, fun _ => ⟨rfl, ho, hc, hb, ⟨by rw [qpt]; exact hfit.all, List.all_eq_true.2 fun s hs => qm0 _ (List.all_eq_true.1 hfit.noPtr s hs), hfit.lv, hfit.nd1⟩, qs2 _, ⟨rfl, rfl⟩, (nomatch ·)⟩, .inl rfl, hK⟩
def q41 (P : Program) (ops : List SOper) (k : Nat) (tids : List (List Nat)) (K : List (List Nat) → St → Prop) (dst : Option Nat) (st : St) (g : Bool) (c : Option (FuncId × List ASlot)) (ok : Bool) : Prop :=
 g = true ∧ ∃ n as fa r fo fo' ι H R, (c = some (n, as) ∧ ok = true ∧ qf P n fa fo r fo' ∧ (P.funcs[n]?).any (fun fn => fn.body.isSome && !(fn.name == "runtime.NumGoroutine")) = true ∧ H = xr as fa ++ vh st.os ι fo ∧ R = r.toks ++ xg fo' ∧
  Fits st.live as fa ι fo.length H ∧ ObjFit st.os fo fo' ι ∧ R.length ≤ 16) ∧ ARun P ops (k + 1) (tids ++ [[]]) K (st.put dst true (qdh (16 * (st.nt + k)) H R r fo' ι))
theorem q7p {P : Program} {ops : List SOper} {k : Nat} {tids : List (List Nat)} {K : List (List Nat) → St → Prop} {st : St} {dst : Option Nat} {f : Opd} {args : List Opd} {gd : Option (Nat × Bool)} :
  ARun P (⟨dst, .callT f args, gd⟩ :: ops) k tids K st = xl (gv st.fr gd) fun g => q41 P ops k tids K dst st g (qim st.fr f args) (f.ok st.fr && args.all fun x => x.ok st.fr) := by
 simp only [ARun]
 cases hg : gv st.fr gd with
 | none => rfl
 | some g =>
  simp only [xl, q41]
  apply propext
  constructor
  ·rintro ⟨rfl, n, as, fa, r, fo, fo', ι, H, R, h, h3⟩
   exact ⟨rfl, n, as, fa, r, fo, fo', ι, H, R, ⟨h.callee, by rw [h.ok, h.oks]; rfl, h.contract, h.body, h.hH, h.hR, h.fits, h.objs, h.few⟩, h3⟩
  ·rintro ⟨rfl, n, as, fa, r, fo, fo', ι, H, R, ⟨q1, q2, q3, q4, q5, q6, q7, q8, q9⟩, h3⟩
   rw [Bool.and_eq_true] at q2
   exact ⟨rfl, n, as, fa, r, fo, fo', ι, H, R, ⟨q1, q2.1, q2.2, q3, q4, q5, q6, q7, q8, q9⟩, h3⟩
theorem xa4 {P : Program} {ops : List SOper} {k : Nat} {tids : List (List Nat)} {K : List (List Nat) → St → Prop} {fr : Fr} {os : List AObj} {live : List Nat} {nt : Nat} {dst : Option Nat} {ok : Bool} {n : FuncId} {fa as : List ASlot} {r : ASlot} {fo fo' : List AObj} (ι : List Nat)
  (hc : qf P n fa fo r fo') (hb : (P.funcs[n]?).any (fun fn => fn.body.isSome && !(fn.name == "runtime.NumGoroutine")) = true)
  (hK : ARun P ops (k + 1) (tids ++ [[]]) K ⟨wi fr dst true ((wg (r.toks ++ xg fo') (16 * (nt + k)) r).ren ι), zu os (ι.zip ((fo'.map (AObj.rt (r.toks ++ xg fo') (16 * (nt + k)))).map (AObj.ren ι))),
   (live.filter fun t => !((xr as fa ++ vh os ι fo).map (·.1)).contains t) ++ ((wg (r.toks ++ xg fo') (16 * (nt + k)) r).toks ++ xg (fo'.map (AObj.rt (r.toks ++ xg fo') (16 * (nt + k))))), nt⟩)
  (ho : ok = true) (hfit : yg as (fa.map (ASlot.ren ι))) (hin : fa.all (ASlot.inK fo.length) = true)
  (hl : ((xr as fa ++ vh os ι fo).all fun p => live.contains p.1) = true) (hn : ((xr as fa ++ vh os ι fo).map (·.1)).Nodup) (hfew : (r.toks ++ xg fo').length ≤ 16)
  (hnd : ι.Nodup) (hlen : ι.length = fo'.length) (hle : fo.length ≤ fo'.length) (hold : qda ι os ι fo) (hnew : (ι.drop fo.length).all (isNone os) = true) (hik : fo.all (AObj.inK fo.length) = true) :
  q41 P ops k tids K dst ⟨fr, os, live, nt⟩ true (some (n, as)) ok := by
 refine ⟨rfl, n, as, fa, r, fo, fo', ι, _, _, ⟨rfl, ho, hc, hb, rfl, rfl, ⟨hfit, hin, ?_, hn⟩, ⟨hnd, hlen, hle, hold, fun id hid => ?_, hik⟩, hfew⟩, hK⟩
 ·intro p hp
  simpa using List.all_eq_true.1 hl p hp
 ·have := List.all_eq_true.1 hnew id hid
  unfold isNone at this
  split at this
  ·rename_i h; exact h
  ·cases this
theorem qr {P : Program} {k0 : Nat} {c : Opd} {x y : SCode} {Q : SExit → St → Prop} {st : St} (t : Bool) (h1 : c.ok st.fr = true) (h2 : c.get st.fr = .d (.bool t)) (hx : t = true → AWp P k0 x Q st) (hy : t = false → AWp P k0 y Q st) : AWp P k0 (.cond c x y) Q st :=
 ⟨t, ⟨h1, h2⟩, hx, hy⟩
theorem xli {P : Program} {k0 : Nat} {a b : SCode} {Q : SExit → St → Prop} {st : St} : AWp P k0 (.seq a b) Q st = AWp P k0 a (qie (AWp P k0 b Q) Q) st := rfl
theorem xgb {P : Program} {k0 : Nat} {Q : SExit → St → Prop} {st : St} : AWp P k0 .skip Q st = Q .normal st := rfl
theorem xa5 {P : Program} {k0 id : Nat} {a : SCode} {Q : SExit → St → Prop} {st : St} : AWp P k0 (.block id a) Q st = AWp P k0 a (qyg id Q) st := rfl
theorem xgc {P : Program} {k0 id : Nat} {Q : SExit → St → Prop} {st : St} : AWp P k0 (.exit id) Q st = Q (.exit id) st := rfl
theorem xlj {P : Program} {k0 : Nat} {Q : SExit → St → Prop} {st : St} : AWp P k0 .ret Q st = Q .ret st := rfl
def disj : List Nat → List Nat → Bool
 | [], _ => true
 | i :: l, r => !r.contains i && disj l r
theorem qu5 : ∀ (l r : List Nat), disj l r = true ↔ ∀ i ∈ l, i ∉ r
 | [], r => by simp [disj]
 | i :: l, r => by simp [disj, qu5 l r]
theorem xgd {l : List Nat} : disj l [] = true := (qu5 l []).2 (by simp)
theorem qyo {p : Nat × Nat} {ps : List (Nat × Nat)} {tids : List (List Nat)} : qe1 (p :: ps) tids = (disj (tids.getD p.1 []) (tids.getD p.2 []) = true ∧ qe1 ps tids) := by
 rw [qu5]
 apply propext
 simp only [qe1, List.forall_mem_cons]
theorem q2n {tids : List (List Nat)} : qe1 [] tids = True := by simp [qe1]
theorem St.bump_mk {fr : Fr} {os : List AObj} {live : List Nat} {nt n : Nat} : (⟨fr, os, live, nt⟩ : St).bump n = ⟨fr, os, live, nt + n⟩ := rfl
theorem xge (c a : Bool) : (if c = true then a else false) = (c && a) := by cases c <;> rfl
theorem xlk (c b : Bool) : (if c = true then true else b) = (c || b) := by cases c <;> rfl
theorem xop (b : Bool) : (b == true) = b := by cases b <;> rfl
theorem xoq (b : Bool) : (b == false) = !b := by cases b <;> rfl
def qs4 : List Nat → Bool
 | [] => true
 | t :: l => !l.contains t && qs4 l
theorem qs5 : ∀ (l : List Nat), qs4 l = true ↔ l.Nodup
 | [] => by simp [qs4]
 | t :: l => by simp [qs4, qs5 l]
def xgf (live live' : List Nat) (ps : List (Nat × Nat)) : Bool := ps.all fun p => !live'.contains p.2 || live.contains p.1
def ltB (n : Nat) (l : List Nat) : Bool := l.all fun t => decide (t < n)
theorem xgg {k0 : Nat} {fr fr' : Fr} {os os' : List AObj} {live live' : List Nat} {nt nt' : Nat} : Weak k0 ⟨fr, os, live, nt⟩ ⟨fr', os', live', nt'⟩ ↔
  frW (wk os') fr fr' ∧ osW (wk os') os os' ∧ xgf live live' (qcb fr fr' ++ wv os os') = true ∧ qs4 ((qcb fr fr' ++ wv os os').map (·.1)) = true ∧ qf1 k0 os os' ∧
  ltB (16 * nt') (live' ++ qin fr' ++ xg os') = true := by
 have h1 : xgf live live' (qcb fr fr' ++ wv os os') = true ↔ ∀ p ∈ qcb fr fr' ++ wv os os', p.2 ∈ live' → p.1 ∈ live := by
  simp only [xgf, List.all_eq_true, Bool.or_eq_true, Bool.not_eq_true', List.contains_iff_mem, ← Bool.not_eq_true]
  exact ⟨fun h p hp hl => (h p hp).resolve_left (fun hn => hn hl), fun h p hp => by by_cases hl : p.2 ∈ live' <;> simp [hl, h p hp]⟩
 have h2 : ltB (16 * nt') (live' ++ qin fr' ++ xg os') = true ↔ ∀ t ∈ live' ++ qin fr' ++ xg os', t < 16 * nt' := by
  simp only [ltB, List.all_eq_true, decide_eq_true_eq]
 rw [h1, h2, qs5]
 exact ⟨fun h => ⟨h.fr, h.os, h.live, h.nd, h.base, h.wf⟩, fun h => ⟨h.1, h.2.1, h.2.2.1, h.2.2.2.1, h.2.2.2.2.1, h.2.2.2.2.2⟩⟩
theorem xll {keep : Nat → Bool} {os : List AObj} : osW keep os [] = True := by cases os with | nil => rfl | cons o l => cases o <;> rfl
theorem xgh {keep : Nat → Bool} {o : AObj} {l l' : List AObj} : osW keep (o :: l) (.none :: l') = osW keep l l' := by cases o <;> rfl
theorem q2o {os : List AObj} : wv os [] = [] := by cases os with | nil => rfl | cons o l => cases o <;> rfl
theorem qyp {o : AObj} {l l' : List AObj} : wv (o :: l) (.none :: l') = wv l l' := by cases o <;> rfl
theorem xlm {keep : Nat → Bool} {cs : List ASlot} : csW keep cs [] = True := by cases cs <;> rfl
theorem q2p {cs : List ASlot} : qa7 cs [] = [] := by cases cs <;> rfl
theorem qu6 {os os' : List AObj} : qf1 0 os os' = True := by simp [qf1]
theorem xln {keep : Nat → Bool} {s : ASlot} {x : D} : qc1 keep s (.d x) = (s.eqvD x ∧ x.okW keep = true) := by cases s <;> rfl
theorem xa6 {keep : Nat → Bool} {s : ASlot} : qc1 keep s .bad = True := by cases s <;> rfl
theorem xa7 {s : ASlot} {x : D} : vt s (.d x) = [] := by cases s <;> rfl
theorem qyq {s : ASlot} {es : Nat} {rows : List (List D)} : vt s (.full es rows) = [] := by cases s <;> rfl
theorem q2q {s : ASlot} : vt s .bad = [] := by cases s <;> rfl
theorem q7q {s : ASlot} {cs : List D} : vt s (.rd cs) = [] := by cases s <;> rfl
theorem q2r {t t' es es' : Nat} {r r' : List (List D)} : vt (.own t es r) (.own t' es' r') = [(t, t')] := rfl
def qlo (st : St) : List RVar → Prop
 | [] => True
 | r :: l => r.good st ∧ qlo st l
theorem qpu {st : St} : ∀ (l : List RVar), qlo st l ↔ ∀ r ∈ l, r.good st
 | [] => by simp [qlo]
 | r :: l => by simp [qlo, qpu l]
theorem qpv {α : Type} {x : α} {p : α → Prop} : (∀ y ∈ some x, p y) = p x := by simp
theorem qpw {α : Type} {p : α → Prop} : (∀ y ∈ (none : Option α), p y) = True := by simp
theorem xgi {k0 : Nat} {rvs : List RVar} {rs : List ASlot} {objs : List AObj} {fr : Fr} {os : List AObj} {live : List Nat} {nt : Nat} :
  xar k0 rvs rs objs ⟨fr, os, live, nt⟩ = (qlo ⟨fr, os, live, nt⟩ rvs ∧ Weak k0 ⟨yx (rvs.map (RVar.slot ⟨fr, os, live, nt⟩)) 0, os, live, nt⟩ ⟨yx rs 0, objs, vq rs ++ xg objs, 1⟩) := by rw [qpu]; rfl
def xrd {α : Type} (k0 : Nat) (S : α → St) (μ : α → Nat) (x : α) (st' : St) : Prop := ∃ y, Weak k0 st' (S y) ∧ μ y < μ x
theorem ql {α : Type} {P : Program} {k0 : Nat} {a : SCode} {Q : SExit → St → Prop} {st : St} (S : α → St) (μ : α → Nat) (x0 : α) (h0 : Weak k0 st (S x0))
  (h : ∀ x, AWp P k0 a (qie (xrd k0 S μ x) Q) (S x)) : AWp P k0 (.loop a) Q st :=
 ⟨α, S, μ, x0, .weak h0 (.refl _), fun x => AWp.mono a (qfb (fun _ ⟨y, h1, h2⟩ => ⟨y, .weak h1 (.refl _), h2⟩) (fun _ _ h => h)) (h x)⟩
theorem xa8 {keep : Nat → Bool} {t t' es es' : Nat} {r r' : List (List D)} : qc1 keep (.own t es r) (.own t' es' r') = ((es = es' ∧ D.eqvR r r') ∧ D.noPtrR r' = true) := rfl
theorem qr9 {keep : Nat → Bool} {t' es es' : Nat} {r r' : List (List D)} : qc1 keep (.full es r) (.own t' es' r') = (y7 es r es' r' ∧ D.noPtrR r' = true) := rfl
theorem q7r {keep : Nat → Bool} {es es' : Nat} {r r' : List (List D)} : qc1 keep (.full es r) (.full es' r') = (y7 es r es' r' ∧ D.noPtrR r' = true) := rfl
theorem xgj {keep : Nat → Bool} {r r' : List D} : qc1 keep (.rd r) (.rd r') = (D.eqvL r r' ∧ D.noPtrL r' = true) := rfl
theorem xlo {keep : Nat → Bool} {cs cs' : List ASlot} {l l' : List AObj} : osW keep (.row cs :: l) (.row cs' :: l') = (csW keep cs cs' ∧ osW keep l l') := rfl
theorem q2s {cs cs' : List ASlot} {l l' : List AObj} : wv (.row cs :: l) (.row cs' :: l') = qa7 cs cs' ++ wv l l' := rfl
theorem xgk {keep : Nat → Bool} {s s' : ASlot} {l l' : List ASlot} : csW keep (s :: l) (s' :: l') = (qc1 keep s s' ∧ csW keep l l') := rfl
theorem qcs {s s' : ASlot} {l l' : List ASlot} : qa7 (s :: l) (s' :: l') = vt s s' ++ qa7 l l' := rfl
theorem qu7 {n : Nat} : ((n : Int) + 1).toNat = n + 1 := by omega
theorem qyr {α β : Type} {f : α → β} {l : List α} : (l.map f).take l.length = l.map f := by rw [List.take_of_length_le (by simp)]
theorem D.default_eq : (default : D) = .int default default := rfl
theorem qu8 {keep : Nat → Bool} {t' es' : Nat} {r' : List (List D)} : qc1 keep (.d .nilsl) (.own t' es' r') = (r' = []) := rfl
theorem qsa {keep : Nat → Bool} {es' : Nat} {r' : List (List D)} : qc1 keep (.d .nilsl) (.full es' r') = (r' = []) := rfl
theorem qu9 {x : D} {t' es' : Nat} {r' : List (List D)} : vt (.d x) (.own t' es' r') = [] := rfl
theorem qsb {t' es' : Nat} {r' : List (List D)} : qbs (.d .nilsl) (.own t' es' r') = (r' = []) := rfl
theorem qpx {es' : Nat} {r' : List (List D)} : qbs (.d .nilsl) (.full es' r') = (r' = []) := rfl
theorem xgl {es' : Nat} {r' : List (List D)} : D.eqv .nilsl (.sl es' r') = (r' = []) := by simp [D.eqv]
theorem qnp {t' es es' : Nat} {r r' : List (List D)} : vt (.full es r) (.own t' es' r') = [] := rfl
theorem xa9 (t : Nat) : [t].Nodup = True := by simp
theorem qi {α β : Type} (f : α → β) (l : List α) {i : Nat} (h : i < l.length) (d : β) : (l.map f).getD i d = f l[i] := by simp [List.getD, h]
theorem xu {α : Type} {f : α → List D} (h : ∀ x, D.noPtrL (f x) = true) (l : List α) : D.noPtrR (l.map f) = true := by
 induction l with
 | nil => rfl
 | cons x l ih => simp [D.noPtrR, h, ih]
theorem qam {α β : Type} (f : α → β) (l : List α) {i : Nat} (h : i < l.length) : (l.take (i + 1)).map f = (l.take i).map f ++ [f l[i]] := by
 rw [List.take_succ_eq_append_getElem h, List.map_append]; rfl
theorem qan : ∀ (a b : List D), D.noPtrL (a ++ b) = (D.noPtrL a && D.noPtrL b)
 | [], b => by simp [D.noPtrL]
 | x :: a, b => by simp [D.noPtrL, qan a b, Bool.and_assoc]
theorem qj6 : ∀ (a b : List (List D)), D.noPtrR (a ++ b) = (D.noPtrR a && D.noPtrR b)
 | [], b => by simp [D.noPtrR]
 | x :: a, b => by simp [D.noPtrR, qj6 a b, Bool.and_assoc]
theorem wrap_i64 {n : Int} (h1 : -9223372036854775808 ≤ n) (h2 : n ≤ 9223372036854775807) : IntKind.i64.wrap n = n := IntWalk.i64_in n ⟨h1, h2⟩
theorem qh {n : Nat} (h : n < 9223372036854775807) : IntKind.i64.wrap ((n : Int) + 1) = ((n + 1 : Nat) : Int) := by
 rw [wrap_i64 (by omega) (by omega)]; rfl
theorem qva {k : Nat} {o o' : AObj} {os os' : List AObj} : qf1 (k + 1) (o :: os) (o' :: os') = ((wk [o] 0 = true → wk [o'] 0 = true) ∧ qf1 k os os') := by
 apply propext
 simp only [qf1]
 constructor
 ·intro h
  refine ⟨fun h0 => ?_, fun id hid hk => ?_⟩
  ·exact h 0 (by omega) h0
  ·exact h (id + 1) (by omega) hk
 ·rintro ⟨h1, h2⟩ id hid hk
  cases id with
  | zero => exact h1 hk
  | succ id => exact h2 id (by omega) hk
theorem q42 {P : Program} {mu : List Nat} {news : List (FuncId × Nat)} {f : FuncId} {fn : Func} {sc : SCode} {args rs : List ASlot} {rvs : List RVar} {objs objs' : List AObj} (hm : P.follows .mixedOrders = true) (hf : P.funcs[f]? = some fn)
  (hc : fn.body.bind (zd P mu fn.ntmps news) = some sc.erase) (hr : fn.results.toList.mapM (qf2 P) = some rvs)
  (h : AWp P objs.length sc (q19 objs.length rvs rs objs') (qg6 args objs)) (hN : args.length ≤ fn.ntmps) (hl : rvs.length = rs.length) (hw : ltB 16 (vq args ++ xg objs) = true) : qf P f args objs (qpp rs) objs' := by
 rw [Option.bind_eq_some_iff] at hc
 obtain ⟨c, hb, hc⟩ := hc
 refine qu3 hm hf hb (rv := fn.results.toList) (by simp) hr hc hN hl (fun t ht => ?_) h
 simp only [ltB, List.all_eq_true, decide_eq_true_eq] at hw
 exact hw t ht
theorem xba {rs : List ASlot} (h : rs.length ≠ 1) : qpp rs = .tup rs := by
 match rs with
 | [] => rfl
 | [_] => simp at h
 | _ :: _ :: _ => rfl
theorem xss (d : D) : D.eqv d d = True := eq_true (D.eqv_refl d)
theorem xrf (d : List D) : D.eqvL d d = True := eq_true (D.eqvL_refl d)
theorem xrg (d : List (List D)) : D.eqvR d d = True := eq_true (D.eqvR_refl d)
theorem xlp {k k' : IntKind} {n n' : Int} : D.eqv (.int k n) (.int k' n') = (k = k' ∧ n = n') := by simp [D.eqv]
theorem xgm {b b' : Bool} : D.eqv (.bool b) (.bool b') = (b = b') := by simp [D.eqv]
theorem xlq {b b' : List UInt8} : D.eqv (.str b) (.str b') = (b = b') := by simp [D.eqv]
theorem xot {es es' : Nat} {r r' : List (List D)} : D.eqv (.sl es r) (.sl es' r') = y7 es r es' r' := by simp [D.eqv, y7]
theorem xlr {l l' : List D} : D.eqv (.agg l) (.agg l') = D.eqvL l l' := by simp [D.eqv]
theorem xls {b b' o o' : Nat} : D.eqv (.ptr b o) (.ptr b' o') = (b = b' ∧ o = o') := by simp [D.eqv]
theorem xlt {b b' o o' e e' n n' : Nat} : D.eqv (.ref b o e n) (.ref b' o' e' n') = (b = b' ∧ o = o' ∧ e = e' ∧ n = n') := by simp [D.eqv]
theorem xlu {b b' : Nat} : D.eqv (.map b) (.map b') = (b = b') := by simp [D.eqv]
theorem xgn {f f' : Fn} {a a' b b' : List D} : D.eqv (.func f a b) (.func f' a' b') = (f = f' ∧ D.eqvL a a' ∧ D.eqvL b b') := by simp [D.eqv]
theorem xbb {t t' : TypeId} {a a' : D} : D.eqv (.iface t a) (.iface t' a') = (t = t' ∧ D.eqv a a') := by simp [D.eqv]
theorem xbc {a a' : D} {l l' : List D} : D.eqvL (a :: l) (a' :: l') = (D.eqv a a' ∧ D.eqvL l l') := by simp [D.eqvL]
theorem xgo : D.eqvL [] [] = True := by simp [D.eqvL]
theorem xbd {a a' : List D} {l l' : List (List D)} : D.eqvR (a :: l) (a' :: l') = (D.eqvL a a' ∧ D.eqvR l l') := by simp [D.eqvR]
theorem xgp : D.eqvR [] [] = True := by simp [D.eqvR]
theorem qys {es : Nat} {r r' : List (List D)} : y7 es r es r' = D.eqvR r r' := by simp [y7]
theorem q2t {es es' : Nat} : y7 es [] es' [] = True := by simp [y7, D.eqvR]
theorem qpy {α : Type} {es es' : Nat} {f : α → List D} : y7 es [] es' (List.map f []) = True := by simp [y7, D.eqvR]
theorem xgq {a b b' : List (List D)} : D.eqvR (a ++ b) (a ++ b') = D.eqvR b b' := by
 induction a with
 | nil => rfl
 | cons x a ih => simp [D.eqvR, D.eqvL_refl, ih]
theorem xgr {s : ASlot} {x : D} : qbs s (.d x) = s.eqvD x := by cases s <;> rfl
theorem q7s {t t' es es' : Nat} {r r' : List (List D)} : qbs (.own t es r) (.own t' es' r') = (es = es' ∧ D.eqvR r r') := rfl
theorem qpz {t' es es' : Nat} {r r' : List (List D)} : qbs (.full es r) (.own t' es' r') = y7 es r es' r' := rfl
theorem q2u {es es' : Nat} {r r' : List (List D)} : qbs (.full es r) (.full es' r') = y7 es r es' r' := rfl
theorem xbe {r r' : List D} : qbs (.rd r) (.rd r') = D.eqvL r r' := rfl
theorem qc {x : D} : qbs (.d x) (.d x) := D.eqv_refl x
def xgs (P : Program) (ops : List SOper) (objs : Nat) (pairs : List (Nat × Nat)) (Q : SExit → St → Prop) (st : St) : Prop := AWp P 0 (.region ops objs pairs) Q st
theorem xlv {P : Program} {k0 : Nat} {ops : List SOper} {objs : Nat} {pairs : List (Nat × Nat)} {Q : SExit → St → Prop} {st : St} : AWp P k0 (.region ops objs pairs) Q st = xgs P ops objs pairs Q st := rfl
def xgt (P : Program) (ops : List SOper) (objs : Nat) (pairs : List (Nat × Nat)) (Q : SExit → St → Prop) (st : St) : Prop := AWp P 0 (.region ops objs pairs) Q st
def regK (pairs : List (Nat × Nat)) (Q : SExit → St → Prop) (n : Nat) (tids : List (List Nat)) (st' : St) : Prop := qe1 pairs tids ∧ Q .normal (st'.bump n)
theorem xlw {pairs : List (Nat × Nat)} {Q : SExit → St → Prop} {n : Nat} {tids : List (List Nat)} {fr : Fr} {os : List AObj} {live : List Nat} {nt : Nat} :
  regK pairs Q n tids ⟨fr, os, live, nt⟩ = (qe1 pairs tids ∧ Q .normal (⟨fr, os, live, nt + n⟩)) := rfl
theorem xgu {P : Program} {ops : List SOper} {objs : Nat} {pairs : List (Nat × Nat)} {Q : SExit → St → Prop} {fr : Fr} {os : List AObj} {live : List Nat} {nt : Nat} :
  xgt P ops objs pairs Q ⟨fr, os, live, nt⟩ = ARun P ops 0 [] (regK pairs Q ops.length) ⟨fr, os ++ List.replicate objs .none, live, nt⟩ := rfl
def xlx {ops lit : List SOper} (_ : ops = lit) : List SOper := lit
theorem xou {R : List Nat} {b : Nat} {x : D} : renC R b (.d x) = .d x := rfl
theorem xgw {R : List Nat} {b : Nat} : renC R b .bad = .bad := rfl
theorem xgx {R : List Nat} {b t es : Nat} {rows : List (List D)} : renC R b (.own t es rows) = .own (b + R.idxOf t) es rows := by simp [renC, ASlot.toks, renT]
theorem xbf {t : Nat} : [t].idxOf t = 0 := by simp
attribute [go_sem] q7p xou xgw xgx xbf AObj.rt wg renT vh
attribute [go_sem] q2l x6 qgm eqOk xli xlv xgu xlw xlx xgb xa5 xgc xlj qie qyg q19 xfu xfv xat xfw q7d q7e qpr xau q7f qu4 xfx xfy q7g q7h xk4 xfz xf0 xav xf1 xf2 xf3 q2a qr7 q7i q2c q7j q7k q7l q2d q2e q2f qyi xf4 xaw q7m q2g qg6 yx vq List.flatMap_cons List.flatMap_nil ASlot.toks List.append_nil List.nil_append List.replicate Nat.zero_add Nat.add_zero xa1 qim gv xl sem xf5 xf6 xa0 Fr.get Opd.get Opd.ok wi if_true if_false ite_self or_false or_true true_or false_or or_self List.filter_cons List.filter_nil List.contains_cons List.contains_nil Int.cast_ofNat_Int Int.natCast_add not_false_eq_true implies_true forall_const imp_self and_self true_and and_true false_and and_false Bool.and_true Bool.true_and Bool.false_and Bool.and_false Bool.or_true Bool.true_or Bool.or_false Bool.false_or Bool.not_true Bool.not_false Bool.not_not xge xlk xop xoq Bool.false_eq_true List.length_cons List.length_nil List.length_append List.set_cons_zero List.set_cons_succ List.cons_append List.map_cons List.map_nil List.all_cons List.all_nil List.getElem?_cons_zero List.getElem?_cons_succ List.getElem?_nil List.getD_cons_zero List.getD_cons_succ List.drop_zero List.drop_succ_cons List.take_zero List.take_succ_cons List.drop_nil List.take_nil List.forall_mem_cons List.not_mem_nil false_imp_iff List.flatten_cons List.flatten_nil ASlot.toCells ASlot.dCells ASlot.dCellsOk ASlot.cellD ASlot.isCellD ASlot.isOne ASlot.asD ASlot.rows D.isCell v8 wp storeAt qa4 qg AObj.cells binS qjg qmm qde hiB loB qbm qok qbn yv jr qbi qnm Option.map_some Option.map_none Option.isSome_some q2n St.bump_mk xgi qlo qj6 qan qs4 xgf ltB qpv qpw decide_true decide_false RVar.good RVar.slot xgg frW qcb xln xa6 xa8 qr9 q7r xgj qnp xa9 Int.toNat_natCast List.length_map xa7 qyq q2q q7q q2r xll xgh q2o qyp xlm q2p qu6 qin xg List.nodup_nil Option.some.injEq ASlot.d.injEq D.bool.injEq D.int.injEq D.agg.injEq D.sl.injEq List.cons.injEq D.okW D.okWL D.okWR D.okW_noPtr D.okWL_noPtr D.okWR_noPtr D.noPtr D.noPtrL D.noPtrR ASlot.eqvD xss xrf xrg xlp xgm xlq xot xlr xls xlt xlu xgn xbb xbc xgo xbd xgp qys q2t qpy xgq xgr q7s qpz q2u xbe yg qu8 qsa qu9 qsb qpx xgl xlo q2s xgk qcs wk Int.toNat_zero D.default_eq Option.getD_some Option.getD_none qu7 qyr Nat.add_sub_cancel beq_self_eq_true ASlot.noPtr xr Bool.and_self Bool.and_self_left Bool.and_self_right bne_self_eq_false qyo disj xgd qva D.ren D.renL D.renR xle xrc xlf xf7 xoo xlg xlh ASlot.ren1 AObj.ren D.renL_noPtr D.renR_noPtr D.ren_noPtr D.inK D.inKL D.inKR D.inK_noPtr D.inKL_noPtr D.inKR_noPtr ASlot.inK ASlot.inKC AObj.inK zu List.zip_cons_cons List.zip_nil_left List.zip_nil_right qda xaa qe0 qx2 isNone y4 List.isEmpty_nil List.isEmpty_cons List.drop_nil Option.some_inj exists_eq_left' exists_eq_left Option.toList_some Option.toList_none
end Go.Abs
