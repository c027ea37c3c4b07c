/- Texts Ba. -/
import Derived.Test.YtkcdbcbpbolgkaaGreatDoorMbh
import Derived.Calls
import Derived.Orders
import Derived.Tactics
import Derived.Laws.AppendOwn
import Derived.Laws.Slices
import Derived.Laws.Closers25
import Derived.Laws.StructEq
import Derived.Laws.BytesString
import Derived.Laws.CopyRow
import Derived.MapKept
import Derived.Maps.RangeRun
import Derived.TacticsIn
import Derived.OrdersIn
import Derived.RangeFuncRecord
import Derived.RangeFuncLeaves
import Derived.IntWalk

namespace Go.Abs
set_option linter.unusedSimpArgs false
set_option linter.unusedVariables false
def SOp.special : SOp → Bool
 | .call .. => true
 | .eqnilS .. => true
 | .nextM .. => true
 | .appendR .. => true
 | .entryM .. => true
 | _ => false
def St.put (st : St) (dst : Option Nat) (g : Bool) (out : Out) : St :=
 {fr := vw st.fr dst g out.v, os := zt st.os out.wrs, live := ql st.live out, nt := st.nt }
def jh (P : Program) (ops : List SOper) (k : Nat) (tids : List (List Nat)) (K : List (List Nat) → St → Prop) (dst : Option Nat) (st : St) (g : Bool) (out : Out) : Prop :=
 Obl g out st.live ∧ ARun P ops (k + 1) (tids ++ [out.tags]) K (st.put dst g out)
def xj : Option Bool → (Bool → Prop) → Prop
 | some g, F => F g
 | none, _ => False
theorem q97 {P : Program} {k : Nat} {tids : List (List Nat)} {K : List (List Nat) → St → Prop} {st : St} : ARun P [] k tids K st = K tids st := rfl
theorem qu {P : Program} {ops : List SOper} {k : Nat} {tids : List (List Nat)} {K : List (List Nat) → St → Prop} {st : St} {dst : Option Nat} {op : SOp} {gd : Option (Nat × Bool)} (h : op.special = false) :
  ARun P (⟨dst, op, gd⟩ :: ops) k tids K st = xj (gv st.fr gd) fun g => jh P ops k tids K dst st g (sem (16 * (st.nt + k)) op st) := by
 simp only [ARun]
 cases gv st.fr gd with
 | none => rfl
 | some g => cases op <;> first | rfl | (simp [SOp.special] at h)
section
variable {P : Program} {ops : List SOper} {k : Nat} {tids : List (List Nat)} {K : List (List Nat) → St → Prop} {st : St} {dst : Option Nat} {gd : Option (Nat × Bool)}
theorem q98 {x : Opd} : ARun P (⟨dst, .mov x, gd⟩ :: ops) k tids K st = xj (gv st.fr gd) fun g => jh P ops k tids K dst st g (sem (16 * (st.nt + k)) (.mov x) st) := qu rfl
theorem q5o {c a b : Opd} : ARun P (⟨dst, .pick c a b, gd⟩ :: ops) k tids K st = xj (gv st.fr gd) fun g => jh P ops k tids K dst st g (sem (16 * (st.nt + k)) (.pick c a b) st) := qu rfl
theorem q99 {back : Nat} {x : Opd} : ARun P (⟨dst, .box back x, gd⟩ :: ops) k tids K st = xj (gv st.fr gd) fun g => jh P ops k tids K dst st g (sem (16 * (st.nt + k)) (.box back x) st) := qu rfl
theorem q2o {back : Nat} {zero : List ASlot} : ARun P (⟨dst, .alloc back zero, gd⟩ :: ops) k tids K st = xj (gv st.fr gd) fun g => jh P ops k tids K dst st g (sem (16 * (st.nt + k)) (.alloc back zero) st) := qu rfl
theorem q2p {zero : List D} {parts : List (Nat × Nat × Opd)} : ARun P (⟨dst, .build zero parts, gd⟩ :: ops) k tids K st = xj (gv st.fr gd) fun g => jh P ops k tids K dst st g (sem (16 * (st.nt + k)) (.build zero parts) st) := qu rfl
theorem qmr {u : Bool} {es len : Nat} {zero : List D} {parts : List (Nat × Nat × Opd)} : ARun P (⟨dst, .buildSlice u es len zero parts, gd⟩ :: ops) k tids K st = xj (gv st.fr gd) fun g => jh P ops k tids K dst st g (sem (16 * (st.nt + k)) (.buildSlice u es len zero parts) st) := qu rfl
theorem q5p {n : Option Nat} {x : Opd} : ARun P (⟨dst, .load n x, gd⟩ :: ops) k tids K st = xj (gv st.fr gd) fun g => jh P ops k tids K dst st g (sem (16 * (st.nt + k)) (.load n x) st) := qu rfl
theorem q2q {n : Option Nat} {x v : Opd} : ARun P (⟨dst, .store n x v, gd⟩ :: ops) k tids K st = xj (gv st.fr gd) fun g => jh P ops k tids K dst st g (sem (16 * (st.nt + k)) (.store n x v) st) := qu rfl
theorem qri {x : Opd} : ARun P (⟨dst, .nilCheck x, gd⟩ :: ops) k tids K st = xj (gv st.fr gd) fun g => jh P ops k tids K dst st g (sem (16 * (st.nt + k)) (.nilCheck x) st) := qu rfl
theorem xaa {op' : BinOp} {x y : Opd} : ARun P (⟨dst, .bin op' x y, gd⟩ :: ops) k tids K st = xj (gv st.fr gd) fun g => jh P ops k tids K dst st g (sem (16 * (st.nt + k)) (.bin op' x y) st) := qu rfl
theorem xab {neg : Bool} {x y : Opd} : ARun P (⟨dst, .eqb neg x y, gd⟩ :: ops) k tids K st = xj (gv st.fr gd) fun g => jh P ops k tids K dst st g (sem (16 * (st.nt + k)) (.eqb neg x y) st) := qu rfl
theorem q2r {neg : Bool} {k' : NK} {x : Opd} : ARun P (⟨dst, .eqnil neg k' x, gd⟩ :: ops) k tids K st = xj (gv st.fr gd) fun g => jh P ops k tids K dst st g (sem (16 * (st.nt + k)) (.eqnil neg k' x) st) := qu rfl
theorem q2s {neg : Bool} {ks : List CK} {x y : Opd} : ARun P (⟨dst, .eqAgg neg ks x y, gd⟩ :: ops) k tids K st = xj (gv st.fr gd) fun g => jh P ops k tids K dst st g (sem (16 * (st.nt + k)) (.eqAgg neg ks x y) st) := qu rfl
theorem xac {x : Opd} : ARun P (⟨dst, .not x, gd⟩ :: ops) k tids K st = xj (gv st.fr gd) fun g => jh P ops k tids K dst st g (sem (16 * (st.nt + k)) (.not x) st) := qu rfl
theorem xad {x : Opd} : ARun P (⟨dst, .neg x, gd⟩ :: ops) k tids K st = xj (gv st.fr gd) fun g => jh P ops k tids K dst st g (sem (16 * (st.nt + k)) (.neg x) st) := qu rfl
theorem q5q {k' : IntKind} {x : Opd} : ARun P (⟨dst, .conv k' x, gd⟩ :: ops) k tids K st = xj (gv st.fr gd) fun g => jh P ops k tids K dst st g (sem (16 * (st.nt + k)) (.conv k' x) st) := qu rfl
theorem xae {x : Opd} : ARun P (⟨dst, .i2s x, gd⟩ :: ops) k tids K st = xj (gv st.fr gd) fun g => jh P ops k tids K dst st g (sem (16 * (st.nt + k)) (.i2s x) st) := qu rfl
theorem xaf {x : Opd} : ARun P (⟨dst, .b2s x, gd⟩ :: ops) k tids K st = xj (gv st.fr gd) fun g => jh P ops k tids K dst st g (sem (16 * (st.nt + k)) (.b2s x) st) := qu rfl
theorem xag {x : Opd} : ARun P (⟨dst, .s2b x, gd⟩ :: ops) k tids K st = xj (gv st.fr gd) fun g => jh P ops k tids K dst st g (sem (16 * (st.nt + k)) (.s2b x) st) := qu rfl
theorem qxr {fn : Fn} {first captured : List Opd} : ARun P (⟨dst, .mkFunc fn first captured, gd⟩ :: ops) k tids K st = xj (gv st.fr gd) fun g => jh P ops k tids K dst st g (sem (16 * (st.nt + k)) (.mkFunc fn first captured) st) := qu rfl
theorem qow {u : Bool} {es bytes : Nat} {zero : List D} {l c : Opd} : ARun P (⟨dst, .makeSlice u es bytes zero l c, gd⟩ :: ops) k tids K st = xj (gv st.fr gd) fun g => jh P ops k tids K dst st g (sem (16 * (st.nt + k)) (.makeSlice u es bytes zero l c) st) := qu rfl
theorem qms {back es bytes : Nat} {zero : List D} {l c : Opd} : ARun P (⟨dst, .makeSliceO back es bytes zero l c, gd⟩ :: ops) k tids K st = xj (gv st.fr gd) fun g => jh P ops k tids K dst st g (sem (16 * (st.nt + k)) (.makeSliceO back es bytes zero l c) st) := qu rfl
theorem q2t {es : Nat} {x : Opd} {lo hi mx : Option Opd} : ARun P (⟨dst, .slice es x lo hi mx, gd⟩ :: ops) k tids K st = xj (gv st.fr gd) fun g => jh P ops k tids K dst st g (sem (16 * (st.nt + k)) (.slice es x lo hi mx) st) := qu rfl
theorem qxs {len es : Nat} {x : Opd} {lo hi mx : Option Opd} : ARun P (⟨dst, .sliceA len es x lo hi mx, gd⟩ :: ops) k tids K st = xj (gv st.fr gd) fun g => jh P ops k tids K dst st g (sem (16 * (st.nt + k)) (.sliceA len es x lo hi mx) st) := qu rfl
theorem qxt {x : Opd} {lo hi : Option Opd} : ARun P (⟨dst, .sliceS x lo hi, gd⟩ :: ops) k tids K st = xj (gv st.fr gd) fun g => jh P ops k tids K dst st g (sem (16 * (st.nt + k)) (.sliceS x lo hi) st) := qu rfl
theorem q2u {off : Nat} {x : Opd} : ARun P (⟨dst, .faddr off x, gd⟩ :: ops) k tids K st = xj (gv st.fr gd) fun g => jh P ops k tids K dst st g (sem (16 * (st.nt + k)) (.faddr off x) st) := qu rfl
theorem q2v {n : Option Nat} {off : Nat} {x : Opd} : ARun P (⟨dst, .field n off x, gd⟩ :: ops) k tids K st = xj (gv st.fr gd) fun g => jh P ops k tids K dst st g (sem (16 * (st.nt + k)) (.field n off x) st) := qu rfl
theorem q2w {es : Nat} {x i : Opd} : ARun P (⟨dst, .iaddr es x i, gd⟩ :: ops) k tids K st = xj (gv st.fr gd) fun g => jh P ops k tids K dst st g (sem (16 * (st.nt + k)) (.iaddr es x i) st) := qu rfl
theorem qxu {len es : Nat} {x i : Opd} : ARun P (⟨dst, .iaddrA len es x i, gd⟩ :: ops) k tids K st = xj (gv st.fr gd) fun g => jh P ops k tids K dst st g (sem (16 * (st.nt + k)) (.iaddrA len es x i) st) := qu rfl
theorem qxv {x i : Opd} : ARun P (⟨dst, .indexS x i, gd⟩ :: ops) k tids K st = xj (gv st.fr gd) fun g => jh P ops k tids K dst st g (sem (16 * (st.nt + k)) (.indexS x i) st) := qu rfl
theorem qxw {len es : Nat} {n : Option Nat} {x i : Opd} : ARun P (⟨dst, .indexA len es n x i, gd⟩ :: ops) k tids K st = xj (gv st.fr gd) fun g => jh P ops k tids K dst st g (sem (16 * (st.nt + k)) (.indexA len es n x i) st) := qu rfl
theorem quf {i : Nat} {x : Opd} : ARun P (⟨dst, .extract i x, gd⟩ :: ops) k tids K st = xj (gv st.fr gd) fun g => jh P ops k tids K dst st g (sem (16 * (st.nt + k)) (.extract i x) st) := qu rfl
theorem xah {x : Opd} : ARun P (⟨dst, .len x, gd⟩ :: ops) k tids K st = xj (gv st.fr gd) fun g => jh P ops k tids K dst st g (sem (16 * (st.nt + k)) (.len x) st) := qu rfl
theorem q5r {x : Opd} : ARun P (⟨dst, .lenS x, gd⟩ :: ops) k tids K st = xj (gv st.fr gd) fun g => jh P ops k tids K dst st g (sem (16 * (st.nt + k)) (.lenS x) st) := qu rfl
theorem q2x {x : Opd} : ARun P (⟨dst, .asStr x, gd⟩ :: ops) k tids K st = xj (gv st.fr gd) fun g => jh P ops k tids K dst st g (sem (16 * (st.nt + k)) (.asStr x) st) := qu rfl
theorem qxx {u : Bool} {es bytes : Nat} {s x : Opd} : ARun P (⟨dst, .append u es bytes s x, gd⟩ :: ops) k tids K st = xj (gv st.fr gd) fun g => jh P ops k tids K dst st g (sem (16 * (st.nt + k)) (.append u es bytes s x) st) := qu rfl
theorem q5s {es : Nat} {s x : Opd} : ARun P (⟨dst, .copy es s x, gd⟩ :: ops) k tids K st = xj (gv st.fr gd) fun g => jh P ops k tids K dst st g (sem (16 * (st.nt + k)) (.copy es s x) st) := qu rfl
theorem qug {back : Nat} : ARun P (⟨dst, .makeMap back, gd⟩ :: ops) k tids K st = xj (gv st.fr gd) fun g => jh P ops k tids K dst st g (sem (16 * (st.nt + k)) (.makeMap back) st) := qu rfl
theorem q5t {n : Nat} {x : Opd} : ARun P (⟨dst, .s2ap n x, gd⟩ :: ops) k tids K st = xj (gv st.fr gd) fun g => jh P ops k tids K dst st g (sem (16 * (st.nt + k)) (.s2ap n x) st) := qu rfl
theorem qxy {kd : KD} {z : ASlot} {c : Bool} {x y : Opd} : ARun P (⟨dst, .lookup kd z c x y, gd⟩ :: ops) k tids K st = xj (gv st.fr gd) fun g => jh P ops k tids K dst st g (sem (16 * (st.nt + k)) (.lookup kd z c x y) st) := qu rfl
theorem qox {kd : KD} {x y v : Opd} : ARun P (⟨dst, .mapUpdate kd x y v, gd⟩ :: ops) k tids K st = xj (gv st.fr gd) fun g => jh P ops k tids K dst st g (sem (16 * (st.nt + k)) (.mapUpdate kd x y v) st) := qu rfl
theorem qxz {kd : KD} {x y : Opd} : ARun P (⟨dst, .delete kd x y, gd⟩ :: ops) k tids K st = xj (gv st.fr gd) fun g => jh P ops k tids K dst st g (sem (16 * (st.nt + k)) (.delete kd x y) st) := qu rfl
theorem q5u {x : Opd} : ARun P (⟨dst, .lenM x, gd⟩ :: ops) k tids K st = xj (gv st.fr gd) fun g => jh P ops k tids K dst st g (sem (16 * (st.nt + k)) (.lenM x) st) := qu rfl
theorem qx0 {back : Nat} {x : Opd} : ARun P (⟨dst, .rangeM back x, gd⟩ :: ops) k tids K st = xj (gv st.fr gd) fun g => jh P ops k tids K dst st g (sem (16 * (st.nt + k)) (.rangeM back x) st) := qu rfl
theorem quh {t : TypeId} {x : Opd} : ARun P (⟨dst, .mkIface t x, gd⟩ :: ops) k tids K st = xj (gv st.fr gd) fun g => jh P ops k tids K dst st g (sem (16 * (st.nt + k)) (.mkIface t x) st) := qu rfl
theorem qui {t : TypeId} {c : Bool} {x : Opd} : ARun P (⟨dst, .assertT t c x, gd⟩ :: ops) k tids K st = xj (gv st.fr gd) fun g => jh P ops k tids K dst st g (sem (16 * (st.nt + k)) (.assertT t c x) st) := qu rfl
theorem quj {back es bytes : Nat} {s x : Opd} : ARun P (⟨dst, .appendO back es bytes s x, gd⟩ :: ops) k tids K st = xj (gv st.fr gd) fun g => jh P ops k tids K dst st g (sem (16 * (st.nt + k)) (.appendO back es bytes s x) st) := qu rfl
theorem qx1 {mx : Bool} {x y : Opd} : ARun P (⟨dst, .minmax mx x y, gd⟩ :: ops) k tids K st = xj (gv st.fr gd) fun g => jh P ops k tids K dst st g (sem (16 * (st.nt + k)) (.minmax mx x y) st) := qu rfl
end
theorem xai {P : Program} {ops : List SOper} {k : Nat} {tids : List (List Nat)} {K : List (List Nat) → St → Prop} {dst : Option Nat} {fr : Fr} {os : List AObj} {live : List Nat} {nt : Nat} {g : Bool} {v : ASlot} {ob : Prop} {rd : Option Nat} :
  jh P ops k tids K dst ⟨fr, os, live, nt⟩ g ⟨v, ob, rd, none, [], [], [], []⟩ = ((g = true → ob) ∧ ARun P ops (k + 1) (tids ++ [rd.toList]) K ⟨vw fr dst g v, os, live, nt⟩) := by
 have hl : ql live (⟨v, ob, rd, none, [], [], [], []⟩ : Out) = live := xa rfl rfl
 simp only [jh, Obl, Out.tags, Out.wrs, St.put, Out.tame, hl]
 simp [zt]
theorem xaj {P : Program} {ops : List SOper} {k : Nat} {tids : List (List Nat)} {K : List (List Nat) → St → Prop} {dst : Option Nat} {fr : Fr} {os : List AObj} {live : List Nat} {nt : Nat} {g : Bool} {v : ASlot} {ob : Prop} {rd : Option Nat} {id : Nat} {o : AObj} :
  jh P ops k tids K dst ⟨fr, os, live, nt⟩ g ⟨v, ob, rd, some (id, o), [], [], [], []⟩ = (g = true ∧ ob ∧ ARun P ops (k + 1) (tids ++ [id :: (1000000 + id) :: rd.toList]) K ⟨vw fr dst g v, os.set id o, live, nt⟩) := by
 have hl : ql live (⟨v, ob, rd, some (id, o), [], [], [], []⟩ : Out) = live := xa rfl rfl
 simp only [jh, Obl, Out.tags, Out.wrs, St.put, Out.tame, hl]
 cases g <;> simp [zt]
theorem q5v {P : Program} {ops : List SOper} {k : Nat} {tids : List (List Nat)} {K : List (List Nat) → St → Prop} {dst : Option Nat} {fr : Fr} {os : List AObj} {live : List Nat} {nt : Nat} {g : Bool} {v : ASlot} {ob : Prop} {rd : Option Nat} {cons : List Nat} {t : Nat} :
  jh P ops k tids K dst ⟨fr, os, live, nt⟩ g ⟨v, ob, rd, none, cons, [t], [], []⟩ = (g = true ∧ ob ∧ (cons.all fun t => live.contains t) = true ∧ ARun P ops (k + 1) (tids ++ [rd.toList]) K ⟨vw fr dst g v, os, (live.filter fun t => !cons.contains t) ++ [t], nt⟩) := by
 have hc : ((cons.all fun t => live.contains t) = true) = (∀ t ∈ cons, t ∈ live) := by simp
 rw [hc]
 simp only [jh, Obl, Out.tags, Out.wrs, St.put, Out.tame, ql]
 cases g <;> simp [and_assoc, zt]
def qjc (P : Program) (ops : List SOper) (k : Nat) (tids : List (List Nat)) (K : List (List Nat) → St → Prop) (dst : Option Nat) (st : St) (g : Bool) (c : Option (FuncId × List ASlot)) (ok : Bool) : Prop :=
 ∃ n as fa r fo fo' ι q, r.toks.length ≤ 16 ∧ (g = true → c = some (n, as) ∧ ok = true ∧ qg P n fa fo r fo' ∧ (P.funcs[n]?).any (fun fn => fn.body.isSome && !(fn.name == "runtime.NumGoroutine")) = true ∧ Fits st.live as fa ι fo.length ∧ ObjFit st.os fo fo' ι ∧ r.toks.Nodup ∧ (q = true → ∀ p ∈ ι.zip (fo'.map (AObj.ren ι)), st.os[p.1]? = some p.2)) ∧
  (g = true ∨ (ze (16 * (st.nt + k)) as fa r fo' ι q).tame) ∧ ARun P ops (k + 1) (tids ++ [(ze (16 * (st.nt + k)) as fa r fo' ι q).tags]) K (st.put dst g (ze (16 * (st.nt + k)) as fa r fo' ι q))
theorem q5w {P : Program} {ops : List SOper} {k : Nat} {tids : List (List Nat)} {K : List (List Nat) → St → Prop} {st : St} {dst : Option Nat} {f : Opd} {args : List Opd} {gd : Option (Nat × Bool)} :
  ARun P (⟨dst, .call f args, gd⟩ :: ops) k tids K st = xj (gv st.fr gd) fun g => qjc P ops k tids K dst st g (qke st.fr f args) (f.ok st.fr && args.all fun x => x.ok st.fr) := by
 simp only [ARun]
 cases hg : gv st.fr gd with
 | none => rfl
 | some g =>
  simp only [xj, qjc]
  apply propext
  constructor
  ·rintro ⟨n, as, fa, r, fo, fo', ι, q, h1, h2, h3, h4⟩
   exact ⟨n, as, fa, r, fo, fo', ι, q, h1, fun h => ⟨(h2 h).callee, by rw [(h2 h).ok, (h2 h).oks]; rfl, (h2 h).contract, (h2 h).body, (h2 h).fits, (h2 h).objs, (h2 h).nodup, (h2 h).quiet⟩, h3, h4⟩
  ·rintro ⟨n, as, fa, r, fo, fo', ι, q, h1, h2, h3, h4⟩
   refine ⟨n, as, fa, r, fo, fo', ι, q, h1, fun h => ?_, h3, h4⟩
   obtain ⟨q1, q2, q3, q4, q5, q6, q7, q8⟩ := h2 h
   rw [Bool.and_eq_true] at q2
   exact ⟨q1, q2.1, q2.2, q3, q4, q5, q6, q7, h1, q8⟩
theorem qjd {r : ASlot} (hr : r.toks = []) (b : Nat) : yv b r = r := by
 have hren : ∀ (b : Nat) (s : ASlot), s.toks = [] → renT [] b s = s := by
  intro b s hs
  cases s <;> first | rfl | (simp [ASlot.toks] at hs)
 cases r with
 | tup l =>
  simp only [yv, hr, ASlot.tup.injEq]
  have : ∀ s ∈ l, renT [] b s = s := fun s hs => by
   cases s with
   | own t es rows => simp only [ASlot.toks, List.flatMap_eq_nil_iff] at hr; have := hr _ hs; simp [qaf] at this
   | uni t es rows => simp only [ASlot.toks, List.flatMap_eq_nil_iff] at hr; have := hr _ hs; simp [qaf] at this
   | _ => rfl
  rw [List.map_congr_left this, List.map_id']
 | own t es rows => simp [ASlot.toks] at hr
 | uni t es rows => simp [ASlot.toks] at hr
 | _ => rfl
mutual
theorem qkj {s : ASlot} (k : Nat) (h : s.noPtr = true) : s.inK k = true := by
 cases s with
 | d x => exact D.inK_noPtr k h
 | own t es rows => exact D.inKR_noPtr k h
 | uni t es rows => exact D.inKR_noPtr k h
 | full es rows => exact D.inKR_noPtr k h
 | rd cs => exact D.inKL_noPtr k h
 | _ => simp [ASlot.noPtr] at h
end
theorem qpm (os : List AObj) : ObjFit os [] [] [] := ⟨List.nodup_nil, rfl, Nat.le_refl _, trivial, by simp, rfl, by simp⟩
theorem qmt (l : List ASlot) : l.map (ASlot.ren []) = l := by
 have : ASlot.ren [] = id := by funext s; rfl
 rw [this, List.map_id]
theorem xo {P : Program} {ops : List SOper} {k : Nat} {tids : List (List Nat)} {K : List (List Nat) → St → Prop} {fr : Fr} {os : List AObj} {live : List Nat} {nt : Nat} {dst : Option Nat} {g ok : Bool} {n : FuncId} {fa as : List ASlot} {r : ASlot}
  (hc : qg P n fa [] r []) (hb : (P.funcs[n]?).any (fun fn => fn.body.isSome && !(fn.name == "runtime.NumGoroutine")) = true) (ho : g = true → ok = true)
  (hfit : g = true → yn as fa) (hnp : fa.all ASlot.noPtr = true) (hh : xe as fa = []) (hr : r.toks = [])
  (hK : ARun P ops (k + 1) (tids ++ [[]]) K ⟨vw fr dst g r, os, live, nt⟩) :
  qjc P ops k tids K dst ⟨fr, os, live, nt⟩ g (some (n, as)) ok := by
 have hre := qjd hr
 have hput : St.put (⟨fr, os, live, nt⟩ : St) dst g (ze (16 * (nt + k)) as fa r [] [] false) = ⟨vw fr dst g r, os, live, nt⟩ := by
  simp only [St.put, ze, Out.wrs, hre, ql, hh, hr]
  simp [zt, ASlot.ren]
 refine ⟨n, as, fa, r, [], [], [], false, by rw [hr]; simp, fun h => ⟨rfl, ho h, hc, hb, ⟨by rw [qmt]; exact hfit h, List.all_eq_true.2 fun s hs => qkj _ (List.all_eq_true.1 hnp s hs), by rw [hh]; simp, by rw [hh]; simp⟩, qpm _, by rw [hr]; simp, (nomatch ·)⟩, .inr ⟨by simp [ze, Out.wrs], by simp [ze, hh], by simp [ze, hre, hr]⟩, ?_⟩
 rw [hput]
 exact hK
theorem qao {P : Program} {ops : List SOper} {k : Nat} {tids : List (List Nat)} {K : List (List Nat) → St → Prop} {fr : Fr} {os : List AObj} {live : List Nat} {nt : Nat} {dst : Option Nat} {g ok : Bool} {c : Option (FuncId × List ASlot)} (x : D)
  (hg : g = false) (hK : ARun P ops (k + 1) (tids ++ [[]]) K ⟨vw fr dst g (.d x), os, live, nt⟩) : qjc P ops k tids K dst ⟨fr, os, live, nt⟩ g c ok := by
 subst hg
 refine ⟨0, [], [], .d x, [], [], [], false, by simp [ASlot.toks], fun h => (by cases h), .inr ⟨rfl, rfl, rfl⟩, ?_⟩
 have : St.put (⟨fr, os, live, nt⟩ : St) dst false (ze (16 * (nt + k)) [] [] (.d x) [] [] false) = ⟨vw fr dst false (.d x), os, live, nt⟩ := by
  simp [St.put, ze, Out.wrs, yv, renT, ql, xe, ASlot.toks, zt, ASlot.ren]
 rw [this]
 exact hK
theorem xew {s : ASlot} : ASlot.ren [] s = s := rfl
theorem xjl {i : Nat} {ι : List Nat} {x : D} : ASlot.ren (i :: ι) (.d x) = .d (x.ren (i :: ι)) := rfl
theorem xex {i : Nat} {ι : List Nat} {t es : Nat} {rows : List (List D)} : ASlot.ren (i :: ι) (.own t es rows) = .own t es (D.renR (i :: ι) rows) := rfl
theorem xak {i : Nat} {ι : List Nat} {es : Nat} {rows : List (List D)} : ASlot.ren (i :: ι) (.full es rows) = .full es (D.renR (i :: ι) rows) := rfl
theorem xhe {i : Nat} {ι : List Nat} {cs : List D} : ASlot.ren (i :: ι) (.rd cs) = .rd (D.renL (i :: ι) cs) := rfl
theorem xey {i : Nat} {ι : List Nat} {l : List ASlot} : ASlot.ren (i :: ι) (.tup l) = .tup (l.map (ASlot.ren1 (i :: ι))) := rfl
theorem xez {i : Nat} {ι : List Nat} : ASlot.ren (i :: ι) .bad = .bad := rfl
def isNone (os : List AObj) (id : Nat) : Bool := match os[id]? with | some .none => true | _ => false
def qap : List ASlot → Bool
 | [] => true
 | s :: l => s.toks.isEmpty && qap l
theorem qje : ∀ (l : List ASlot), qap l = true ↔ ∀ s ∈ l, s.toks = []
 | [] => by simp [qap]
 | s :: l => by simp [qap, qje l]
theorem q5x {P : Program} {ops : List SOper} {k : Nat} {tids : List (List Nat)} {K : List (List Nat) → St → Prop} {fr : Fr} {os : List AObj} {live : List Nat} {nt : Nat} {dst : Option Nat} {ok : Bool} {n : FuncId} {fa as : List ASlot} {r : ASlot} {fo fo' : List AObj} (ι : List Nat)
  (hc : qg P n fa fo r fo') (hb : (P.funcs[n]?).any (fun fn => fn.body.isSome && !(fn.name == "runtime.NumGoroutine")) = true) (ho : ok = true)
  (hfit : yn as (fa.map (ASlot.ren ι))) (hin : fa.all (ASlot.inK fo.length) = true) (hh : xe as fa = []) (hr : r.toks = [])
  (hnd : ι.Nodup) (hlen : ι.length = fo'.length) (hle : fo.length ≤ fo'.length) (hold : qc2 ι os ι fo) (hnew : (ι.drop fo.length).all (isNone os) = true) (hik : fo.all (AObj.inK fo.length) = true) (htk : (fo'.all fun o => qap o.cells) = true)
  (hK : ARun P ops (k + 1) (tids ++ [ι ++ ι.map fun i => 1000000 + i]) K ⟨vw fr dst true (r.ren ι), zt os (ι.zip (fo'.map (AObj.ren ι))), live, nt⟩) :
  qjc P ops k tids K dst ⟨fr, os, live, nt⟩ true (some (n, as)) ok := by
 have hre := qjd hr
 have hput : St.put (⟨fr, os, live, nt⟩ : St) dst true (ze (16 * (nt + k)) as fa r fo' ι false) = ⟨vw fr dst true (r.ren ι), zt os (ι.zip (fo'.map (AObj.ren ι))), live, nt⟩ := by
  simp only [St.put, ze, Out.wrs, hre, ql, hh, hr, cond_false]
  simp
 have hto : (ze (16 * (nt + k)) as fa r fo' ι false).tags = ι ++ ι.map (fun i => 1000000 + i) := by
  simp only [Out.tags, Out.wrs, ze, cond_false]
  have : (ι.zip (fo'.map (AObj.ren ι))).map (·.1) = ι := by
   rw [List.map_fst_zip (by rw [List.length_map]; omega)]
  have h2 : (ι.zip (fo'.map (AObj.ren ι))).map (fun p => 1000000 + p.1) = ι.map fun i => 1000000 + i := by
   rw [← this, List.map_map]; rw [this]; rfl
  simp [this, h2]
 refine ⟨n, as, fa, r, fo, fo', ι, false, by rw [hr]; simp, fun _ => ⟨rfl, ho, hc, hb, ⟨hfit, hin, by rw [hh]; simp, by rw [hh]; simp⟩, ⟨hnd, hlen, hle, hold, fun id hid => ?_, hik, fun o ho' => (qje _).1 (List.all_eq_true.1 htk o ho')⟩, by rw [hr]; simp, (nomatch ·)⟩, .inl rfl, ?_⟩
 ·have := List.all_eq_true.1 hnew id hid
  unfold isNone at this
  split at this
  ·rename_i h; exact h
  ·cases this
 ·rw [hto, hput]
  exact hK
def nilO (P : Program) (ops : List SOper) (k : Nat) (tids : List (List Nat)) (K : List (List Nat) → St → Prop) (dst : Option Nat) (st : St) (g neg ok : Bool) (s : ASlot) : Prop :=
 g = true ∧ ok = true ∧ ∃ es rows, s.rows = some (es, rows) ∧ ∀ b : Bool, (b = true → rows = []) → ARun P ops (k + 1) (tids ++ [[]]) K ⟨vw st.fr dst true (.d (.bool (if neg = true then !b else b))), st.os, st.live, st.nt⟩
theorem qx2 {P : Program} {ops : List SOper} {k : Nat} {tids : List (List Nat)} {K : List (List Nat) → St → Prop} {st : St} {dst : Option Nat} {neg : Bool} {x : Opd} {gd : Option (Nat × Bool)} :
  ARun P (⟨dst, .eqnilS neg x, gd⟩ :: ops) k tids K st = xj (gv st.fr gd) fun g => nilO P ops k tids K dst st g neg (x.ok st.fr) (x.get st.fr) := by
 simp only [ARun]
 cases gv st.fr gd with
 | none => rfl
 | some g =>
  cases g with
  | false => simp [xj, nilO]
  | true =>
   have hn : ∀ b, st.next ⟨dst, .eqnilS neg x, gd⟩ true (qpe neg b) = ⟨vw st.fr dst true (.d (.bool (if neg = true then !b else b))), st.os, st.live, st.nt⟩ := by
    intro b
    have hl : ql st.live (qpe neg b) = st.live := xa rfl rfl
    simp only [St.next, hl]
    rfl
   simp only [xj, nilO, hn]
def xal (P : Program) (ops : List SOper) (k : Nat) (tids : List (List Nat)) (K : List (List Nat) → St → Prop) (dst : Option Nat) (st : St) (g ok : Bool) (s : ASlot) : Prop :=
 g = true ∧ ok = true ∧ ∃ iid, s = .d (.ptr iid 0) ∧
  ((∃ since seen last, st.os[iid]? = some (.iter (.d .nilmap) since seen last) ∧ ARun P ops (k + 1) (tids ++ [[]]) K ⟨vw st.fr dst true qmg, st.os, st.live, st.nt⟩) ∨
   ∃ mid since seen last es clock, IterOn st.os iid mid since seen last es clock ∧ (qdy es seen = [] → ARun P ops (k + 1) (tids ++ [[]]) K ⟨vw st.fr dst true qmg, st.os, st.live, st.nt⟩) ∧
    ∀ e ∈ qdy es seen, ARun P ops (k + 1) (tids ++ [[]]) K ⟨vw st.fr dst true (entV e), st.os.set iid (.iter (.d (.map mid)) since (seen ++ [e.1]) clock), st.live, st.nt⟩)
theorem q2z {P : Program} {ops : List SOper} {k : Nat} {tids : List (List Nat)} {K : List (List Nat) → St → Prop} {st : St} {dst : Option Nat} {x : Opd} {gd : Option (Nat × Bool)} :
  ARun P (⟨dst, .nextM x, gd⟩ :: ops) k tids K st = xj (gv st.fr gd) fun g => xal P ops k tids K dst st g (x.ok st.fr) (x.get st.fr) := by
 simp only [ARun]
 cases gv st.fr gd with
 | none => rfl
 | some g =>
  cases g with
  | false => simp [xj, xal]
  | true =>
   have h1 : st.next ⟨dst, .nextM x, gd⟩ true qd2 = ⟨vw st.fr dst true qmg, st.os, st.live, st.nt⟩ := by
    have hl : ql st.live qd2 = st.live := xa rfl rfl
    simp only [St.next, hl]
    rfl
   have h2 : ∀ iid mid since seen clock e, st.next ⟨dst, .nextM x, gd⟩ true (qmj iid mid since seen clock e) = ⟨vw st.fr dst true (entV e), st.os.set iid (.iter (.d (.map mid)) since (seen ++ [e.1]) clock), st.live, st.nt⟩ := by
    intro iid mid since seen clock e
    have hl : ql st.live (qmj iid mid since seen clock e) = st.live := xa rfl rfl
    simp only [St.next, hl]
    rfl
   simp only [xj, xal, h1, h2]
theorem xam {P : Program} {ops : List SOper} {k : Nat} {tids : List (List Nat)} {K : List (List Nat) → St → Prop} {fr : Fr} {os : List AObj} {live : List Nat} {nt : Nat} {dst : Option Nat} {ok : Bool} {iid mid since last clock : Nat} {seen : List Nat} {es : Ents}
  (h : IterOn os iid mid since seen last es clock) (h1 : qdy es seen = [] → ARun P ops (k + 1) (tids ++ [[]]) K ⟨vw fr dst true qmg, os, live, nt⟩)
  (h2 : ∀ e ∈ qdy es seen, ARun P ops (k + 1) (tids ++ [[]]) K ⟨vw fr dst true (entV e), os.set iid (.iter (.d (.map mid)) since (seen ++ [e.1]) clock), live, nt⟩) (ho : ok = true := by rfl) :
  xal P ops k tids K dst ⟨fr, os, live, nt⟩ true ok (.d (.ptr iid 0)) := ⟨rfl, ho, iid, rfl, .inr ⟨mid, since, seen, last, es, clock, h, h1, h2⟩⟩
def xan (P : Program) (ops : List SOper) (k : Nat) (tids : List (List Nat)) (K : List (List Nat) → St → Prop) (dst : Option Nat) (st : St) (g : Bool) (back es bytes : Nat) (s x : Opd) : Prop :=
 g = true ∧ (((sem (16 * (st.nt + k)) (.appendO back es bytes s x) st).ob ∧ ARun P ops (k + 1) (tids ++ [[]]) K (st.next ⟨dst, .appendR back es bytes s x, none⟩ true (sem (16 * (st.nt + k)) (.appendO back es bytes s x) st))) ∨
     (s.ok st.fr = true ∧ x.ok st.fr = true ∧ ∃ id n r, s.get st.fr = .d (.ref id 0 es n) ∧ wu es st.os (x.get st.fr) = some r ∧ AppR st.os es bytes back id n r ∧
      ARun P ops (k + 1) (tids ++ [[]]) K (st.next ⟨dst, .appendR back es bytes s x, none⟩ true (qmk id id es n st.os r)) ∧ ARun P ops (k + 1) (tids ++ [[]]) K (st.next ⟨dst, .appendR back es bytes s x, none⟩ true (qmk id (st.os.length - back) es n st.os r))))
theorem quk {P : Program} {ops : List SOper} {k : Nat} {tids : List (List Nat)} {K : List (List Nat) → St → Prop} {st : St} {dst : Option Nat} {back es bytes : Nat} {s x : Opd} {gd : Option (Nat × Bool)} :
  ARun P (⟨dst, .appendR back es bytes s x, gd⟩ :: ops) k tids K st = xj (gv st.fr gd) fun g => xan P ops k tids K dst st g back es bytes s x := by
 simp only [ARun]
 cases gv st.fr gd with
 | none => rfl
 | some g =>
  cases g with
  | false => simp [xj, xan]
  | true => rfl
def qz7 (P : Program) (ops : List SOper) (k : Nat) (tids : List (List Nat)) (K : List (List Nat) → St → Prop) (dst : Option Nat) (st : St) (g ok : Bool) (s : ASlot) : Prop :=
 g = true ∧ ok = true ∧ ∃ iid mid since seen clock es e, s = .d (.ptr iid 0) ∧ EntryOn st.os iid mid since seen clock es e ∧ ARun P ops (k + 1) (tids ++ [[]]) K ⟨vw st.fr dst true (.tup [.d e.2.1, .d e.2.2]), st.os, st.live, st.nt⟩
theorem qx3 {P : Program} {ops : List SOper} {k : Nat} {tids : List (List Nat)} {K : List (List Nat) → St → Prop} {st : St} {dst : Option Nat} {x : Opd} {gd : Option (Nat × Bool)} :
  ARun P (⟨dst, .entryM x, gd⟩ :: ops) k tids K st = xj (gv st.fr gd) fun g => qz7 P ops k tids K dst st g (x.ok st.fr) (x.get st.fr) := by
 simp only [ARun]
 cases gv st.fr gd with
 | none => rfl
 | some g =>
  cases g with
  | false => simp [xj, qz7]
  | true =>
   have h1 : ∀ e, st.next ⟨dst, .entryM x, gd⟩ true (qd3 e) = ⟨vw st.fr dst true (.tup [.d e.2.1, .d e.2.2]), st.os, st.live, st.nt⟩ := by
    intro e
    have hl : ql st.live (qd3 e) = st.live := xa rfl rfl
    simp only [St.next, hl]
    rfl
   simp only [xj, qz7, h1]
theorem q5y {P : Program} {ops : List SOper} {k : Nat} {tids : List (List Nat)} {K : List (List Nat) → St → Prop} {fr : Fr} {os : List AObj} {live : List Nat} {nt : Nat} {dst : Option Nat} {ok : Bool} {iid mid since clock : Nat} {seen : List Nat} {es : Ents} {e : Nat × D × D}
  (h : EntryOn os iid mid since seen clock es e) (h1 : ARun P ops (k + 1) (tids ++ [[]]) K ⟨vw fr dst true (.tup [.d e.2.1, .d e.2.2]), os, live, nt⟩) (ho : ok = true := by rfl) :
  qz7 P ops k tids K dst ⟨fr, os, live, nt⟩ true ok (.d (.ptr iid 0)) := ⟨rfl, ho, iid, mid, since, seen, clock, es, e, rfl, h, h1⟩
theorem qjf {P : Program} {ops : List SOper} {k : Nat} {tids : List (List Nat)} {K : List (List Nat) → St → Prop} {fr : Fr} {os : List AObj} {live : List Nat} {nt : Nat} {dst : Option Nat} {neg ok : Bool} {s : ASlot} {es : Nat} {rows : List (List D)}
  (ho : ok = true) (hr : s.rows = some (es, rows)) (h : ∀ b : Bool, (b = true → rows = []) → ARun P ops (k + 1) (tids ++ [[]]) K ⟨vw fr dst true (.d (.bool (if neg = true then !b else b))), os, live, nt⟩) :
  nilO P ops k tids K dst ⟨fr, os, live, nt⟩ true neg ok s := ⟨rfl, ho, es, rows, hr, h⟩
structure Fits0 (live : List Nat) (as fa : List ASlot) : Prop where
 all : yn as fa
 noPtr : fa.all ASlot.noPtr = true
 lv : ∀ p ∈ xe as fa, p.1 ∈ live
 nd1 : ((xe as fa).map (·.1)).Nodup
theorem qfa {P : Program} {ops : List SOper} {k : Nat} {tids : List (List Nat)} {K : List (List Nat) → St → Prop} {fr : Fr} {os : List AObj} {live : List Nat} {nt : Nat} {dst : Option Nat} {ok : Bool} {n : FuncId} {fa as : List ASlot} {r : ASlot}
  (hc : qg P n fa [] r []) (hb : (P.funcs[n]?).any (fun fn => fn.body.isSome && !(fn.name == "runtime.NumGoroutine")) = true) (ho : ok = true)
  (hfit : Fits0 live as fa) (hnd : r.toks.Nodup) (hfew : r.toks.length ≤ 16)
  (hK : ARun P ops (k + 1) (tids ++ [[]]) K ⟨vw fr dst true (yv (16 * (nt + k)) r), os, (live.filter fun t => !((xe as fa).map (·.1)).contains t) ++ (yv (16 * (nt + k)) r).toks, nt⟩) :
  qjc P ops k tids K dst ⟨fr, os, live, nt⟩ true (some (n, as)) ok :=
 ⟨n, as, fa, r, [], [], [], false, hfew, fun _ => ⟨rfl, ho, hc, hb, ⟨by rw [qmt]; exact hfit.all, List.all_eq_true.2 fun s hs => qkj _ (List.all_eq_true.1 hfit.noPtr s hs), hfit.lv, hfit.nd1⟩, qpm _, hnd, (nomatch ·)⟩, .inl rfl, hK⟩
theorem qp {P : Program} {k0 : Nat} {c : Opd} {x y : SCode} {Q : SExit → St → Prop} {st : St} (t : Bool) (h1 : c.ok st.fr = true) (h2 : c.get st.fr = .d (.bool t)) (hx : t = true → AWp P k0 x Q st) (hy : t = false → AWp P k0 y Q st) : AWp P k0 (.cond c x y) Q st :=
 ⟨t, ⟨h1, h2⟩, hx, hy⟩
theorem xe0 {P : Program} {k0 : Nat} {a b : SCode} {Q : SExit → St → Prop} {st : St} : AWp P k0 (.seq a b) Q st = AWp P k0 a (qh6 (AWp P k0 b Q) Q) st := rfl
theorem xao {P : Program} {k0 : Nat} {Q : SExit → St → Prop} {st : St} : AWp P k0 .skip Q st = Q .normal st := rfl
theorem q5z {P : Program} {k0 id : Nat} {a : SCode} {Q : SExit → St → Prop} {st : St} : AWp P k0 (.block id a) Q st = AWp P k0 a (qud id Q) st := rfl
theorem xap {P : Program} {k0 id : Nat} {Q : SExit → St → Prop} {st : St} : AWp P k0 (.exit id) Q st = Q (.exit id) st := rfl
theorem xe1 {P : Program} {k0 : Nat} {Q : SExit → St → Prop} {st : St} : AWp P k0 .ret Q st = Q .ret st := rfl
def disj : List Nat → List Nat → Bool
 | [], _ => true
 | i :: l, r => !r.contains i && disj l r
theorem qrj : ∀ (l r : List Nat), disj l r = true ↔ ∀ i ∈ l, i ∉ r
 | [], r => by simp [disj]
 | i :: l, r => by simp [disj, qrj l r]
theorem xaq {l : List Nat} : disj l [] = true := (qrj l []).2 (by simp)
theorem qul {p : Nat × Nat} {ps : List (Nat × Nat)} {tids : List (List Nat)} : qdd (p :: ps) tids = (disj (tids.getD p.1 []) (tids.getD p.2 []) = true ∧ qdd ps tids) := by
 rw [qrj]
 apply propext
 simp only [qdd, List.forall_mem_cons]
theorem qx4 {tids : List (List Nat)} : qdd [] tids = True := by simp [qdd]
theorem St.bump_mk {fr : Fr} {os : List AObj} {live : List Nat} {nt n : Nat} : (⟨fr, os, live, nt⟩ : St).bump n = ⟨fr, os, live, nt + n⟩ := rfl
theorem xar (c a : Bool) : (if c = true then a else false) = (c && a) := by cases c <;> rfl
theorem xe2 (c b : Bool) : (if c = true then true else b) = (c || b) := by cases c <;> rfl
theorem xhf (b : Bool) : (b == true) = b := by cases b <;> rfl
theorem xhg (b : Bool) : (b == false) = !b := by cases b <;> rfl
def qpn : List Nat → Bool
 | [] => true
 | t :: l => !l.contains t && qpn l
theorem qpo : ∀ (l : List Nat), qpn l = true ↔ l.Nodup
 | [] => by simp [qpn]
 | t :: l => by simp [qpn, qpo l]
def xas (live live' : List Nat) (ps : List (Nat × Nat)) : Bool := ps.all fun p => !live'.contains p.2 || live.contains p.1
def ltB (n : Nat) (l : List Nat) : Bool := l.all fun t => decide (t < n)
theorem xat {k0 : Nat} {fr fr' : Fr} {os os' : List AObj} {live live' : List Nat} {nt nt' : Nat} : Weak k0 ⟨fr, os, live, nt⟩ ⟨fr', os', live', nt'⟩ ↔
  frW (yh os') fr fr' ∧ osW (yh os') os os' ∧ xas live live' (qa3 fr fr' ++ vy os os') = true ∧ qpn ((qa3 fr fr' ++ vy os os').map (·.1)) = true ∧ qd4 k0 os os' ∧
  ltB (16 * nt') (live' ++ qgj fr' ++ qdk os') = true := by
 have h1 : xas live live' (qa3 fr fr' ++ vy os os') = true ↔ ∀ p ∈ qa3 fr fr' ++ vy os os', p.2 ∈ live' → p.1 ∈ live := by
  simp only [xas, List.all_eq_true, Bool.or_eq_true, Bool.not_eq_true', List.contains_iff_mem, ← Bool.not_eq_true]
  exact ⟨fun h p hp hl => (h p hp).resolve_left (fun hn => hn hl), fun h p hp => by by_cases hl : p.2 ∈ live' <;> simp [hl, h p hp]⟩
 have h2 : ltB (16 * nt') (live' ++ qgj fr' ++ qdk os') = true ↔ ∀ t ∈ live' ++ qgj fr' ++ qdk os', t < 16 * nt' := by
  simp only [ltB, List.all_eq_true, decide_eq_true_eq]
 rw [h1, h2, qpo]
 exact ⟨fun h => ⟨h.fr, h.os, h.live, h.nd, h.base, h.wf⟩, fun h => ⟨h.1, h.2.1, h.2.2.1, h.2.2.2.1, h.2.2.2.2.1, h.2.2.2.2.2⟩⟩
theorem xe3 {keep : Nat → Bool} {os : List AObj} : osW keep os [] = True := by cases os with | nil => rfl | cons o l => cases o <;> rfl
theorem xau {keep : Nat → Bool} {o : AObj} {l l' : List AObj} : osW keep (o :: l) (.none :: l') = osW keep l l' := by cases o <;> rfl
theorem qx5 {os : List AObj} : vy os [] = [] := by cases os with | nil => rfl | cons o l => cases o <;> rfl
theorem qum {o : AObj} {l l' : List AObj} : vy (o :: l) (.none :: l') = vy l l' := by cases o <;> rfl
theorem xe4 {keep : Nat → Bool} {cs : List ASlot} : csW keep cs [] = True := by cases cs <;> rfl
theorem qx6 {cs : List ASlot} : y6 cs [] = [] := by cases cs <;> rfl
theorem qrk {os os' : List AObj} : qd4 0 os os' = True := by simp [qd4]
theorem xe5 {keep : Nat → Bool} {s : ASlot} {x : D} : qbp keep s (.d x) = (s.eqvD x ∧ x.okW keep = true) := by cases s <;> rfl
theorem q50 {keep : Nat → Bool} {s : ASlot} : qbp keep s .bad = True := by cases s <;> rfl
theorem q51 {s : ASlot} {x : D} : ki s (.d x) = [] := by cases s <;> rfl
theorem qun {s : ASlot} {es : Nat} {rows : List (List D)} : ki s (.full es rows) = [] := by cases s <;> rfl
theorem qx7 {s : ASlot} : ki s .bad = [] := by cases s <;> rfl
theorem q20 {s : ASlot} {cs : List D} : ki s (.rd cs) = [] := by cases s <;> rfl
theorem qx8 {t t' es es' : Nat} {r r' : List (List D)} : ki (.own t es r) (.own t' es' r') = [(t, t')] := rfl
def qjg (st : St) : List RVar → Prop
 | [] => True
 | r :: l => r.good st ∧ qjg st l
theorem qmu {st : St} : ∀ (l : List RVar), qjg st l ↔ ∀ r ∈ l, r.good st
 | [] => by simp [qjg]
 | r :: l => by simp [qjg, qmu l]
theorem qmv {α : Type} {x : α} {p : α → Prop} : (∀ y ∈ some x, p y) = p x := by simp
theorem qmw {α : Type} {p : α → Prop} : (∀ y ∈ (none : Option α), p y) = True := by simp
theorem xav {k0 : Nat} {rvs : List RVar} {rs : List ASlot} {objs : List AObj} {fr : Fr} {os : List AObj} {live : List Nat} {nt : Nat} :
  q95 k0 rvs rs objs ⟨fr, os, live, nt⟩ = (qjg ⟨fr, os, live, nt⟩ rvs ∧ Weak k0 ⟨yw (rvs.map (RVar.slot ⟨fr, os, live, nt⟩)) 0, os, live, nt⟩ ⟨yw rs 0, objs, ve rs, 1⟩) := by rw [qmu]; rfl
def xjm {α : Type} (k0 : Nat) (S : α → St) (μ : α → Nat) (x : α) (st' : St) : Prop := ∃ y, Weak k0 st' (S y) ∧ μ y < μ x
theorem qk {α : Type} {P : Program} {k0 : Nat} {a : SCode} {Q : SExit → St → Prop} {st : St} (S : α → St) (μ : α → Nat) (x0 : α) (h0 : Weak k0 st (S x0))
  (h : ∀ x, AWp P k0 a (qh6 (xjm k0 S μ x) Q) (S x)) : AWp P k0 (.loop a) Q st :=
 ⟨α, S, μ, x0, .weak h0 (.refl _), fun x => AWp.mono a (qfz (fun _ ⟨y, h1, h2⟩ => ⟨y, .weak h1 (.refl _), h2⟩) (fun _ _ h => h)) (h x)⟩
theorem q52 {keep : Nat → Bool} {t t' es es' : Nat} {r r' : List (List D)} : qbp keep (.own t es r) (.own t' es' r') = ((es = es' ∧ D.eqvR r r') ∧ D.noPtrR r' = true) := rfl
theorem qoy {keep : Nat → Bool} {t' es es' : Nat} {r r' : List (List D)} : qbp keep (.full es r) (.own t' es' r') = (w8 es r es' r' ∧ D.noPtrR r' = true) := rfl
theorem q21 {keep : Nat → Bool} {es es' : Nat} {r r' : List (List D)} : qbp keep (.full es r) (.full es' r') = (w8 es r es' r' ∧ D.noPtrR r' = true) := rfl
theorem xaw {keep : Nat → Bool} {r r' : List D} : qbp keep (.rd r) (.rd r') = (D.eqvL r r' ∧ D.noPtrL r' = true) := rfl
theorem xe6 {keep : Nat → Bool} {cs cs' : List ASlot} {l l' : List AObj} : osW keep (.row cs :: l) (.row cs' :: l') = (csW keep cs cs' ∧ osW keep l l') := rfl
theorem qx9 {cs cs' : List ASlot} {l l' : List AObj} : vy (.row cs :: l) (.row cs' :: l') = y6 cs cs' ++ vy l l' := rfl
theorem xax {keep : Nat → Bool} {s s' : ASlot} {l l' : List ASlot} : csW keep (s :: l) (s' :: l') = (qbp keep s s' ∧ csW keep l l') := rfl
theorem qbg {s s' : ASlot} {l l' : List ASlot} : y6 (s :: l) (s' :: l') = ki s s' ++ y6 l l' := rfl
theorem qrl {n : Nat} : ((n : Int) + 1).toNat = n + 1 := by omega
theorem qup {α β : Type} {f : α → β} {l : List α} : (l.map f).take l.length = l.map f := by rw [List.take_of_length_le (by simp)]
theorem D.default_eq : (default : D) = .int default default := rfl
theorem qrm {keep : Nat → Bool} {t' es' : Nat} {r' : List (List D)} : qbp keep (.d .nilsl) (.own t' es' r') = (r' = []) := rfl
theorem qoz {keep : Nat → Bool} {es' : Nat} {r' : List (List D)} : qbp keep (.d .nilsl) (.full es' r') = (r' = []) := rfl
theorem qrn {x : D} {t' es' : Nat} {r' : List (List D)} : ki (.d x) (.own t' es' r') = [] := rfl
theorem qo0 {t' es' : Nat} {r' : List (List D)} : qan (.d .nilsl) (.own t' es' r') = (r' = []) := rfl
theorem qmx {es' : Nat} {r' : List (List D)} : qan (.d .nilsl) (.full es' r') = (r' = []) := rfl
theorem xay {es' : Nat} {r' : List (List D)} : D.eqv .nilsl (.sl es' r') = (r' = []) := by simp [D.eqv]
theorem qk5 {t' es es' : Nat} {r r' : List (List D)} : ki (.full es r) (.own t' es' r') = [] := rfl
theorem q53 (t : Nat) : [t].Nodup = True := by simp
theorem qi {α β : Type} (f : α → β) (l : List α) {i : Nat} (h : i < l.length) (d : β) : (l.map f).getD i d = f l[i] := by simp [List.getD, h]
theorem xp {α : Type} {f : α → List D} (h : ∀ x, D.noPtrL (f x) = true) (l : List α) : D.noPtrR (l.map f) = true := by
 induction l with
 | nil => rfl
 | cons x l ih => simp [D.noPtrR, h, ih]
theorem qd6 {α β : Type} (f : α → β) (l : List α) {i : Nat} (h : i < l.length) : (l.take (i + 1)).map f = (l.take i).map f ++ [f l[i]] := by
 rw [List.take_succ_eq_append_getElem h, List.map_append]; rfl
theorem yp : ∀ (a b : List D), D.noPtrL (a ++ b) = (D.noPtrL a && D.noPtrL b)
 | [], b => by simp [D.noPtrL]
 | x :: a, b => by simp [D.noPtrL, yp a b, Bool.and_assoc]
theorem qh7 : ∀ (a b : List (List D)), D.noPtrR (a ++ b) = (D.noPtrR a && D.noPtrR b)
 | [], b => by simp [D.noPtrR]
 | x :: a, b => by simp [D.noPtrR, qh7 a b, Bool.and_assoc]
theorem wrap_i64 {n : Int} (h1 : -9223372036854775808 ≤ n) (h2 : n ≤ 9223372036854775807) : IntKind.i64.wrap n = n := IntWalk.i64_in n ⟨h1, h2⟩
theorem qd {n : Nat} (h : n < 9223372036854775807) : IntKind.i64.wrap ((n : Int) + 1) = ((n + 1 : Nat) : Int) := by
 rw [wrap_i64 (by omega) (by omega)]; rfl
theorem qro {k : Nat} {o o' : AObj} {os os' : List AObj} : qd4 (k + 1) (o :: os) (o' :: os') = ((yh [o] 0 = true → yh [o'] 0 = true) ∧ qd4 k os os') := by
 apply propext
 simp only [qd4]
 constructor
 ·intro h
  refine ⟨fun h0 => ?_, fun id hid hk => ?_⟩
  ·exact h 0 (by omega) h0
  ·exact h (id + 1) (by omega) hk
 ·rintro ⟨h1, h2⟩ id hid hk
  cases id with
  | zero => exact h1 hk
  | succ id => exact h2 id (by omega) hk
theorem qz8 {P : Program} {mu : List Nat} {news : List (FuncId × Nat)} {f : FuncId} {fn : Func} {sc : SCode} {args rs : List ASlot} {rvs : List RVar} {objs objs' : List AObj} (hm : P.follows .mixedOrders = true) (hf : P.funcs[f]? = some fn)
  (hc : fn.body.bind (x6 P mu fn.ntmps news) = some sc.erase) (hr : fn.results.toList.mapM (qe8 P) = some rvs)
  (h : AWp P objs.length sc (q5n objs.length rvs rs objs') (qja args objs)) (hN : args.length ≤ fn.ntmps) (hl : rvs.length = rs.length) (hw : ltB 16 (ve args ++ qdk objs) = true) : qg P f args objs (que rs) objs' := by
 rw [Option.bind_eq_some_iff] at hc
 obtain ⟨c, hb, hc⟩ := hc
 refine qrh hm hf hb (rv := fn.results.toList) (by simp) hr hc hN hl (fun t ht => ?_) h
 simp only [ltB, List.all_eq_true, decide_eq_true_eq] at hw
 exact hw t ht
theorem q54 {rs : List ASlot} (h : rs.length ≠ 1) : que rs = .tup rs := by
 match rs with
 | [] => rfl
 | [_] => simp at h
 | _ :: _ :: _ => rfl
theorem xkp (d : D) : D.eqv d d = True := eq_true (D.eqv_refl d)
theorem xjo (d : List D) : D.eqvL d d = True := eq_true (D.eqvL_refl d)
theorem xjp (d : List (List D)) : D.eqvR d d = True := eq_true (D.eqvR_refl d)
theorem xe7 {k k' : IntKind} {n n' : Int} : D.eqv (.int k n) (.int k' n') = (k = k' ∧ n = n') := by simp [D.eqv]
theorem xaz {b b' : Bool} : D.eqv (.bool b) (.bool b') = (b = b') := by simp [D.eqv]
theorem xe8 {b b' : List UInt8} : D.eqv (.str b) (.str b') = (b = b') := by simp [D.eqv]
theorem xhi {es es' : Nat} {r r' : List (List D)} : D.eqv (.sl es r) (.sl es' r') = w8 es r es' r' := by simp [D.eqv, w8]
theorem xe9 {l l' : List D} : D.eqv (.agg l) (.agg l') = D.eqvL l l' := by simp [D.eqv]
theorem xfa {b b' o o' : Nat} : D.eqv (.ptr b o) (.ptr b' o') = (b = b' ∧ o = o') := by simp [D.eqv]
theorem xfb {b b' o o' e e' n n' : Nat} : D.eqv (.ref b o e n) (.ref b' o' e' n') = (b = b' ∧ o = o' ∧ e = e' ∧ n = n') := by simp [D.eqv]
theorem xfc {b b' : Nat} : D.eqv (.map b) (.map b') = (b = b') := by simp [D.eqv]
theorem xa0 {f f' : Fn} {a a' b b' : List D} : D.eqv (.func f a b) (.func f' a' b') = (f = f' ∧ D.eqvL a a' ∧ D.eqvL b b') := by simp [D.eqv]
theorem q55 {t t' : TypeId} {a a' : D} : D.eqv (.iface t a) (.iface t' a') = (t = t' ∧ D.eqv a a') := by simp [D.eqv]
theorem q56 {a a' : D} {l l' : List D} : D.eqvL (a :: l) (a' :: l') = (D.eqv a a' ∧ D.eqvL l l') := by simp [D.eqvL]
theorem xa1 : D.eqvL [] [] = True := by simp [D.eqvL]
theorem q57 {a a' : List D} {l l' : List (List D)} : D.eqvR (a :: l) (a' :: l') = (D.eqvL a a' ∧ D.eqvR l l') := by simp [D.eqvR]
theorem xa2 : D.eqvR [] [] = True := by simp [D.eqvR]
theorem quq {es : Nat} {r r' : List (List D)} : w8 es r es r' = D.eqvR r r' := by simp [w8]
theorem qya {es es' : Nat} : w8 es [] es' [] = True := by simp [w8, D.eqvR]
theorem qmy {α : Type} {es es' : Nat} {f : α → List D} : w8 es [] es' (List.map f []) = True := by simp [w8, D.eqvR]
theorem xa3 {a b b' : List (List D)} : D.eqvR (a ++ b) (a ++ b') = D.eqvR b b' := by
 induction a with
 | nil => rfl
 | cons x a ih => simp [D.eqvR, D.eqvL_refl, ih]
theorem xa4 {s : ASlot} {x : D} : qan s (.d x) = s.eqvD x := by cases s <;> rfl
theorem q22 {t t' es es' : Nat} {r r' : List (List D)} : qan (.own t es r) (.own t' es' r') = (es = es' ∧ D.eqvR r r') := rfl
theorem qmz {t' es es' : Nat} {r r' : List (List D)} : qan (.full es r) (.own t' es' r') = w8 es r es' r' := rfl
theorem qyb {es es' : Nat} {r r' : List (List D)} : qan (.full es r) (.full es' r') = w8 es r es' r' := rfl
theorem q58 {r r' : List D} : qan (.rd r) (.rd r') = D.eqvL r r' := rfl
theorem qc {x : D} : qan (.d x) (.d x) := D.eqv_refl x
def xa5 (P : Program) (ops : List SOper) (objs : Nat) (pairs : List (Nat × Nat)) (Q : SExit → St → Prop) (st : St) : Prop := AWp P 0 (.region ops objs pairs) Q st
theorem xfd {P : Program} {k0 : Nat} {ops : List SOper} {objs : Nat} {pairs : List (Nat × Nat)} {Q : SExit → St → Prop} {st : St} : AWp P k0 (.region ops objs pairs) Q st = xa5 P ops objs pairs Q st := rfl
def xa6 (P : Program) (ops : List SOper) (objs : Nat) (pairs : List (Nat × Nat)) (Q : SExit → St → Prop) (st : St) : Prop := AWp P 0 (.region ops objs pairs) Q st
def regK (pairs : List (Nat × Nat)) (Q : SExit → St → Prop) (n : Nat) (tids : List (List Nat)) (st' : St) : Prop := qdd pairs tids ∧ Q .normal (st'.bump n)
theorem xfe {pairs : List (Nat × Nat)} {Q : SExit → St → Prop} {n : Nat} {tids : List (List Nat)} {fr : Fr} {os : List AObj} {live : List Nat} {nt : Nat} :
  regK pairs Q n tids ⟨fr, os, live, nt⟩ = (qdd pairs tids ∧ Q .normal (⟨fr, os, live, nt + n⟩)) := rfl
theorem xa7 {P : Program} {ops : List SOper} {objs : Nat} {pairs : List (Nat × Nat)} {Q : SExit → St → Prop} {fr : Fr} {os : List AObj} {live : List Nat} {nt : Nat} :
  xa6 P ops objs pairs Q ⟨fr, os, live, nt⟩ = ARun P ops 0 [] (regK pairs Q ops.length) ⟨fr, os ++ List.replicate objs .none, live, nt⟩ := rfl
def xff {ops lit : List SOper} (_ : ops = lit) : List SOper := lit
attribute [go_sem] qx2 x5 qj3 eqOk xe0 xfd xa7 xfe xff xao q5z xap xe1 qh6 qud q5n q97 q98 q5o q99 q2o q2p qmr q5p q2q qri xaa xab q2r q2s xem xac xad q5q xae xaf xag qxr qow q2t qxt q2u q2v q2w qxu qxv qxw quf xah q5r q2x qxx qja yw ve List.flatMap_cons List.flatMap_nil ASlot.toks List.append_nil List.nil_append List.replicate Nat.zero_add Nat.add_zero q5w qke gv xj sem xai xaj q5v Fr.get Opd.get Opd.ok vw if_true if_false ite_self or_false or_true true_or false_or or_self List.filter_cons List.filter_nil List.contains_cons List.contains_nil Int.cast_ofNat_Int Int.natCast_add not_false_eq_true implies_true forall_const imp_self and_self true_and and_true false_and and_false Bool.and_true Bool.true_and Bool.false_and Bool.and_false Bool.or_true Bool.true_or Bool.or_false Bool.false_or Bool.not_true Bool.not_false Bool.not_not xar xe2 xhf xhg Bool.false_eq_true List.length_cons List.length_nil List.length_append List.set_cons_zero List.set_cons_succ List.cons_append List.map_cons List.map_nil List.all_cons List.all_nil List.getElem?_cons_zero List.getElem?_cons_succ List.getElem?_nil List.getD_cons_zero List.getD_cons_succ List.drop_zero List.drop_succ_cons List.take_zero List.take_succ_cons List.drop_nil List.take_nil List.forall_mem_cons List.not_mem_nil false_imp_iff List.flatten_cons List.flatten_nil ASlot.toCells ASlot.dCells ASlot.dCellsOk ASlot.cellD ASlot.isCellD ASlot.isOne ASlot.asD ASlot.rows D.isCell ky vr storeAt y4 qe AObj.cells binS qhh qj4 qbx hiB loB qah qlt qai wu jc qaf qk2 Option.map_some Option.map_none Option.isSome_some qx4 St.bump_mk xav qjg qh7 yp qpn xas ltB qmv qmw decide_true decide_false RVar.good RVar.slot xat frW qa3 xe5 q50 q52 qoy q21 xaw qk5 q53 Int.toNat_natCast List.length_map q51 qun qx7 q20 qx8 xe3 xau qx5 qum xe4 qx6 qrk qgj qdk List.nodup_nil Option.some.injEq ASlot.d.injEq D.bool.injEq D.int.injEq D.agg.injEq D.sl.injEq List.cons.injEq D.okW D.okWL D.okWR D.okW_noPtr D.okWL_noPtr D.okWR_noPtr D.noPtr D.noPtrL D.noPtrR ASlot.eqvD xkp xjo xjp xe7 xaz xe8 xhi xe9 xfa xfb xfc xa0 q55 q56 xa1 q57 xa2 quq qya qmy xa3 xa4 q22 qmz qyb q58 yn qrm qoz qrn qo0 qmx xay xe6 qx9 xax qbg yh Int.toNat_zero D.default_eq Option.getD_some Option.getD_none qrl qup Nat.add_sub_cancel beq_self_eq_true ASlot.noPtr xe Bool.and_self Bool.and_self_left Bool.and_self_right bne_self_eq_false qul disj xaq qro D.ren D.renL D.renR xew xjl xex xak xhe xey xez ASlot.ren1 AObj.ren D.renL_noPtr D.renR_noPtr D.ren_noPtr D.inK D.inKL D.inKR D.inK_noPtr D.inKL_noPtr D.inKR_noPtr ASlot.inK ASlot.inKC AObj.inK zt List.zip_cons_cons List.zip_nil_left List.zip_nil_right qc2 q46 qdc qtz isNone qap List.isEmpty_nil List.isEmpty_cons List.drop_nil Option.some_inj exists_eq_left' exists_eq_left Option.toList_some Option.toList_none
end Go.Abs
