/- Texts Ba. -/
import Derived.Test.YtkcdbcbpbolgkaaGreatDoorMah
import Derived.Calls
import Derived.Orders
import Derived.Tactics
import Derived.Laws.AppendOwn
import Derived.Laws.Slices
import Derived.Laws.Closers25
import Derived.Laws.StructEq
import Derived.Laws.BytesString
import Derived.Laws.CopyRow
import Derived.MapKept
import Derived.Maps.RangeRun
import Derived.TacticsIn
import Derived.OrdersIn
import Derived.RangeFuncRecord
import Derived.RangeFuncLeaves
import Derived.IntWalk

namespace Go.Abs
set_option linter.unusedSimpArgs false
set_option linter.unusedVariables false
def SOp.special : SOp → Bool
 | .call .. => true
 | .eqnilS .. => true
 | .nextM .. => true
 | .appendR .. => true
 | .entryM .. => true
 | _ => false
def St.put (st : St) (dst : Option Nat) (g : Bool) (out : Out) : St :=
 {fr := ke st.fr dst g out.v, os := za st.os out.wrs, live := qf st.live out, nt := st.nt }
def zo (P : Program) (ops : List SOper) (k : Nat) (tids : List (List Nat)) (K : List (List Nat) → St → Prop) (dst : Option Nat) (st : St) (g : Bool) (out : Out) : Prop :=
 Obl g out st.live ∧ ARun P ops (k + 1) (tids ++ [out.tags]) K (st.put dst g out)
def xc : Option Bool → (Bool → Prop) → Prop
 | some g, F => F g
 | none, _ => False
theorem q3x {P : Program} {k : Nat} {tids : List (List Nat)} {K : List (List Nat) → St → Prop} {st : St} : ARun P [] k tids K st = K tids st := rfl
theorem qr {P : Program} {ops : List SOper} {k : Nat} {tids : List (List Nat)} {K : List (List Nat) → St → Prop} {st : St} {dst : Option Nat} {op : SOp} {gd : Option (Nat × Bool)} (h : op.special = false) :
  ARun P (⟨dst, op, gd⟩ :: ops) k tids K st = xc (gv st.fr gd) fun g => zo P ops k tids K dst st g (sem (16 * (st.nt + k)) op st) := by
 simp only [ARun]
 cases gv st.fr gd with
 | none => rfl
 | some g => cases op <;> first | rfl | (simp [SOp.special] at h)
section
variable {P : Program} {ops : List SOper} {k : Nat} {tids : List (List Nat)} {K : List (List Nat) → St → Prop} {st : St} {dst : Option Nat} {gd : Option (Nat × Bool)}
theorem q3y {x : Opd} : ARun P (⟨dst, .mov x, gd⟩ :: ops) k tids K st = xc (gv st.fr gd) fun g => zo P ops k tids K dst st g (sem (16 * (st.nt + k)) (.mov x) st) := qr rfl
theorem qz7 {c a b : Opd} : ARun P (⟨dst, .pick c a b, gd⟩ :: ops) k tids K st = xc (gv st.fr gd) fun g => zo P ops k tids K dst st g (sem (16 * (st.nt + k)) (.pick c a b) st) := qr rfl
theorem q3z {back : Nat} {x : Opd} : ARun P (⟨dst, .box back x, gd⟩ :: ops) k tids K st = xc (gv st.fr gd) fun g => zo P ops k tids K dst st g (sem (16 * (st.nt + k)) (.box back x) st) := qr rfl
theorem qxt {back : Nat} {zero : List ASlot} : ARun P (⟨dst, .alloc back zero, gd⟩ :: ops) k tids K st = xc (gv st.fr gd) fun g => zo P ops k tids K dst st g (sem (16 * (st.nt + k)) (.alloc back zero) st) := qr rfl
theorem qxu {zero : List D} {parts : List (Nat × Nat × Opd)} : ARun P (⟨dst, .build zero parts, gd⟩ :: ops) k tids K st = xc (gv st.fr gd) fun g => zo P ops k tids K dst st g (sem (16 * (st.nt + k)) (.build zero parts) st) := qr rfl
theorem qke {u : Bool} {es len : Nat} {zero : List D} {parts : List (Nat × Nat × Opd)} : ARun P (⟨dst, .buildSlice u es len zero parts, gd⟩ :: ops) k tids K st = xc (gv st.fr gd) fun g => zo P ops k tids K dst st g (sem (16 * (st.nt + k)) (.buildSlice u es len zero parts) st) := qr rfl
theorem qz8 {n : Option Nat} {x : Opd} : ARun P (⟨dst, .load n x, gd⟩ :: ops) k tids K st = xc (gv st.fr gd) fun g => zo P ops k tids K dst st g (sem (16 * (st.nt + k)) (.load n x) st) := qr rfl
theorem qxv {n : Option Nat} {x v : Opd} : ARun P (⟨dst, .store n x v, gd⟩ :: ops) k tids K st = xc (gv st.fr gd) fun g => zo P ops k tids K dst st g (sem (16 * (st.nt + k)) (.store n x v) st) := qr rfl
theorem qof {x : Opd} : ARun P (⟨dst, .nilCheck x, gd⟩ :: ops) k tids K st = xc (gv st.fr gd) fun g => zo P ops k tids K dst st g (sem (16 * (st.nt + k)) (.nilCheck x) st) := qr rfl
theorem q30 {op' : BinOp} {x y : Opd} : ARun P (⟨dst, .bin op' x y, gd⟩ :: ops) k tids K st = xc (gv st.fr gd) fun g => zo P ops k tids K dst st g (sem (16 * (st.nt + k)) (.bin op' x y) st) := qr rfl
theorem q31 {neg : Bool} {x y : Opd} : ARun P (⟨dst, .eqb neg x y, gd⟩ :: ops) k tids K st = xc (gv st.fr gd) fun g => zo P ops k tids K dst st g (sem (16 * (st.nt + k)) (.eqb neg x y) st) := qr rfl
theorem qxw {neg : Bool} {k' : NK} {x : Opd} : ARun P (⟨dst, .eqnil neg k' x, gd⟩ :: ops) k tids K st = xc (gv st.fr gd) fun g => zo P ops k tids K dst st g (sem (16 * (st.nt + k)) (.eqnil neg k' x) st) := qr rfl
theorem qxx {neg : Bool} {ks : List CK} {x y : Opd} : ARun P (⟨dst, .eqAgg neg ks x y, gd⟩ :: ops) k tids K st = xc (gv st.fr gd) fun g => zo P ops k tids K dst st g (sem (16 * (st.nt + k)) (.eqAgg neg ks x y) st) := qr rfl
theorem q32 {x : Opd} : ARun P (⟨dst, .not x, gd⟩ :: ops) k tids K st = xc (gv st.fr gd) fun g => zo P ops k tids K dst st g (sem (16 * (st.nt + k)) (.not x) st) := qr rfl
theorem q33 {x : Opd} : ARun P (⟨dst, .neg x, gd⟩ :: ops) k tids K st = xc (gv st.fr gd) fun g => zo P ops k tids K dst st g (sem (16 * (st.nt + k)) (.neg x) st) := qr rfl
theorem qz9 {k' : IntKind} {x : Opd} : ARun P (⟨dst, .conv k' x, gd⟩ :: ops) k tids K st = xc (gv st.fr gd) fun g => zo P ops k tids K dst st g (sem (16 * (st.nt + k)) (.conv k' x) st) := qr rfl
theorem q34 {x : Opd} : ARun P (⟨dst, .i2s x, gd⟩ :: ops) k tids K st = xc (gv st.fr gd) fun g => zo P ops k tids K dst st g (sem (16 * (st.nt + k)) (.i2s x) st) := qr rfl
theorem q35 {x : Opd} : ARun P (⟨dst, .b2s x, gd⟩ :: ops) k tids K st = xc (gv st.fr gd) fun g => zo P ops k tids K dst st g (sem (16 * (st.nt + k)) (.b2s x) st) := qr rfl
theorem q36 {x : Opd} : ARun P (⟨dst, .s2b x, gd⟩ :: ops) k tids K st = xc (gv st.fr gd) fun g => zo P ops k tids K dst st g (sem (16 * (st.nt + k)) (.s2b x) st) := qr rfl
theorem qtm {fn : Fn} {first captured : List Opd} : ARun P (⟨dst, .mkFunc fn first captured, gd⟩ :: ops) k tids K st = xc (gv st.fr gd) fun g => zo P ops k tids K dst st g (sem (16 * (st.nt + k)) (.mkFunc fn first captured) st) := qr rfl
theorem qly {u : Bool} {es bytes : Nat} {zero : List D} {l c : Opd} : ARun P (⟨dst, .makeSlice u es bytes zero l c, gd⟩ :: ops) k tids K st = xc (gv st.fr gd) fun g => zo P ops k tids K dst st g (sem (16 * (st.nt + k)) (.makeSlice u es bytes zero l c) st) := qr rfl
theorem qkf {back es bytes : Nat} {zero : List D} {l c : Opd} : ARun P (⟨dst, .makeSliceO back es bytes zero l c, gd⟩ :: ops) k tids K st = xc (gv st.fr gd) fun g => zo P ops k tids K dst st g (sem (16 * (st.nt + k)) (.makeSliceO back es bytes zero l c) st) := qr rfl
theorem qxy {es : Nat} {x : Opd} {lo hi mx : Option Opd} : ARun P (⟨dst, .slice es x lo hi mx, gd⟩ :: ops) k tids K st = xc (gv st.fr gd) fun g => zo P ops k tids K dst st g (sem (16 * (st.nt + k)) (.slice es x lo hi mx) st) := qr rfl
theorem qtn {len es : Nat} {x : Opd} {lo hi mx : Option Opd} : ARun P (⟨dst, .sliceA len es x lo hi mx, gd⟩ :: ops) k tids K st = xc (gv st.fr gd) fun g => zo P ops k tids K dst st g (sem (16 * (st.nt + k)) (.sliceA len es x lo hi mx) st) := qr rfl
theorem qto {x : Opd} {lo hi : Option Opd} : ARun P (⟨dst, .sliceS x lo hi, gd⟩ :: ops) k tids K st = xc (gv st.fr gd) fun g => zo P ops k tids K dst st g (sem (16 * (st.nt + k)) (.sliceS x lo hi) st) := qr rfl
theorem qxz {off : Nat} {x : Opd} : ARun P (⟨dst, .faddr off x, gd⟩ :: ops) k tids K st = xc (gv st.fr gd) fun g => zo P ops k tids K dst st g (sem (16 * (st.nt + k)) (.faddr off x) st) := qr rfl
theorem qx0 {n : Option Nat} {off : Nat} {x : Opd} : ARun P (⟨dst, .field n off x, gd⟩ :: ops) k tids K st = xc (gv st.fr gd) fun g => zo P ops k tids K dst st g (sem (16 * (st.nt + k)) (.field n off x) st) := qr rfl
theorem qx1 {es : Nat} {x i : Opd} : ARun P (⟨dst, .iaddr es x i, gd⟩ :: ops) k tids K st = xc (gv st.fr gd) fun g => zo P ops k tids K dst st g (sem (16 * (st.nt + k)) (.iaddr es x i) st) := qr rfl
theorem qtp {len es : Nat} {x i : Opd} : ARun P (⟨dst, .iaddrA len es x i, gd⟩ :: ops) k tids K st = xc (gv st.fr gd) fun g => zo P ops k tids K dst st g (sem (16 * (st.nt + k)) (.iaddrA len es x i) st) := qr rfl
theorem qtq {x i : Opd} : ARun P (⟨dst, .indexS x i, gd⟩ :: ops) k tids K st = xc (gv st.fr gd) fun g => zo P ops k tids K dst st g (sem (16 * (st.nt + k)) (.indexS x i) st) := qr rfl
theorem qtr {len es : Nat} {n : Option Nat} {x i : Opd} : ARun P (⟨dst, .indexA len es n x i, gd⟩ :: ops) k tids K st = xc (gv st.fr gd) fun g => zo P ops k tids K dst st g (sem (16 * (st.nt + k)) (.indexA len es n x i) st) := qr rfl
theorem qqs {i : Nat} {x : Opd} : ARun P (⟨dst, .extract i x, gd⟩ :: ops) k tids K st = xc (gv st.fr gd) fun g => zo P ops k tids K dst st g (sem (16 * (st.nt + k)) (.extract i x) st) := qr rfl
theorem q37 {x : Opd} : ARun P (⟨dst, .len x, gd⟩ :: ops) k tids K st = xc (gv st.fr gd) fun g => zo P ops k tids K dst st g (sem (16 * (st.nt + k)) (.len x) st) := qr rfl
theorem q0a {x : Opd} : ARun P (⟨dst, .lenS x, gd⟩ :: ops) k tids K st = xc (gv st.fr gd) fun g => zo P ops k tids K dst st g (sem (16 * (st.nt + k)) (.lenS x) st) := qr rfl
theorem qx2 {x : Opd} : ARun P (⟨dst, .asStr x, gd⟩ :: ops) k tids K st = xc (gv st.fr gd) fun g => zo P ops k tids K dst st g (sem (16 * (st.nt + k)) (.asStr x) st) := qr rfl
theorem qts {u : Bool} {es bytes : Nat} {s x : Opd} : ARun P (⟨dst, .append u es bytes s x, gd⟩ :: ops) k tids K st = xc (gv st.fr gd) fun g => zo P ops k tids K dst st g (sem (16 * (st.nt + k)) (.append u es bytes s x) st) := qr rfl
theorem q0b {es : Nat} {s x : Opd} : ARun P (⟨dst, .copy es s x, gd⟩ :: ops) k tids K st = xc (gv st.fr gd) fun g => zo P ops k tids K dst st g (sem (16 * (st.nt + k)) (.copy es s x) st) := qr rfl
theorem qqt {back : Nat} : ARun P (⟨dst, .makeMap back, gd⟩ :: ops) k tids K st = xc (gv st.fr gd) fun g => zo P ops k tids K dst st g (sem (16 * (st.nt + k)) (.makeMap back) st) := qr rfl
theorem q0c {n : Nat} {x : Opd} : ARun P (⟨dst, .s2ap n x, gd⟩ :: ops) k tids K st = xc (gv st.fr gd) fun g => zo P ops k tids K dst st g (sem (16 * (st.nt + k)) (.s2ap n x) st) := qr rfl
theorem qtt {kd : KD} {z : ASlot} {c : Bool} {x y : Opd} : ARun P (⟨dst, .lookup kd z c x y, gd⟩ :: ops) k tids K st = xc (gv st.fr gd) fun g => zo P ops k tids K dst st g (sem (16 * (st.nt + k)) (.lookup kd z c x y) st) := qr rfl
theorem qlz {kd : KD} {x y v : Opd} : ARun P (⟨dst, .mapUpdate kd x y v, gd⟩ :: ops) k tids K st = xc (gv st.fr gd) fun g => zo P ops k tids K dst st g (sem (16 * (st.nt + k)) (.mapUpdate kd x y v) st) := qr rfl
theorem qtu {kd : KD} {x y : Opd} : ARun P (⟨dst, .delete kd x y, gd⟩ :: ops) k tids K st = xc (gv st.fr gd) fun g => zo P ops k tids K dst st g (sem (16 * (st.nt + k)) (.delete kd x y) st) := qr rfl
theorem q0d {x : Opd} : ARun P (⟨dst, .lenM x, gd⟩ :: ops) k tids K st = xc (gv st.fr gd) fun g => zo P ops k tids K dst st g (sem (16 * (st.nt + k)) (.lenM x) st) := qr rfl
theorem qtv {back : Nat} {x : Opd} : ARun P (⟨dst, .rangeM back x, gd⟩ :: ops) k tids K st = xc (gv st.fr gd) fun g => zo P ops k tids K dst st g (sem (16 * (st.nt + k)) (.rangeM back x) st) := qr rfl
theorem qqu {t : TypeId} {x : Opd} : ARun P (⟨dst, .mkIface t x, gd⟩ :: ops) k tids K st = xc (gv st.fr gd) fun g => zo P ops k tids K dst st g (sem (16 * (st.nt + k)) (.mkIface t x) st) := qr rfl
theorem qqv {t : TypeId} {c : Bool} {x : Opd} : ARun P (⟨dst, .assertT t c x, gd⟩ :: ops) k tids K st = xc (gv st.fr gd) fun g => zo P ops k tids K dst st g (sem (16 * (st.nt + k)) (.assertT t c x) st) := qr rfl
theorem qqw {back es bytes : Nat} {s x : Opd} : ARun P (⟨dst, .appendO back es bytes s x, gd⟩ :: ops) k tids K st = xc (gv st.fr gd) fun g => zo P ops k tids K dst st g (sem (16 * (st.nt + k)) (.appendO back es bytes s x) st) := qr rfl
theorem qtw {mx : Bool} {x y : Opd} : ARun P (⟨dst, .minmax mx x y, gd⟩ :: ops) k tids K st = xc (gv st.fr gd) fun g => zo P ops k tids K dst st g (sem (16 * (st.nt + k)) (.minmax mx x y) st) := qr rfl
end
theorem q38 {P : Program} {ops : List SOper} {k : Nat} {tids : List (List Nat)} {K : List (List Nat) → St → Prop} {dst : Option Nat} {fr : Fr} {os : List AObj} {live : List Nat} {nt : Nat} {g : Bool} {v : ASlot} {ob : Prop} {rd : Option Nat} :
  zo P ops k tids K dst ⟨fr, os, live, nt⟩ g ⟨v, ob, rd, none, [], [], [], []⟩ = ((g = true → ob) ∧ ARun P ops (k + 1) (tids ++ [rd.toList]) K ⟨ke fr dst g v, os, live, nt⟩) := by
 have hl : qf live (⟨v, ob, rd, none, [], [], [], []⟩ : Out) = live := qv rfl rfl
 simp only [zo, Obl, Out.tags, Out.wrs, St.put, Out.tame, hl]
 simp [za]
theorem q39 {P : Program} {ops : List SOper} {k : Nat} {tids : List (List Nat)} {K : List (List Nat) → St → Prop} {dst : Option Nat} {fr : Fr} {os : List AObj} {live : List Nat} {nt : Nat} {g : Bool} {v : ASlot} {ob : Prop} {rd : Option Nat} {id : Nat} {o : AObj} :
  zo P ops k tids K dst ⟨fr, os, live, nt⟩ g ⟨v, ob, rd, some (id, o), [], [], [], []⟩ = (g = true ∧ ob ∧ ARun P ops (k + 1) (tids ++ [id :: (1000000 + id) :: rd.toList]) K ⟨ke fr dst g v, os.set id o, live, nt⟩) := by
 have hl : qf live (⟨v, ob, rd, some (id, o), [], [], [], []⟩ : Out) = live := qv rfl rfl
 simp only [zo, Obl, Out.tags, Out.wrs, St.put, Out.tame, hl]
 cases g <;> simp [za]
theorem q0e {P : Program} {ops : List SOper} {k : Nat} {tids : List (List Nat)} {K : List (List Nat) → St → Prop} {dst : Option Nat} {fr : Fr} {os : List AObj} {live : List Nat} {nt : Nat} {g : Bool} {v : ASlot} {ob : Prop} {rd : Option Nat} {cons : List Nat} {t : Nat} :
  zo P ops k tids K dst ⟨fr, os, live, nt⟩ g ⟨v, ob, rd, none, cons, [t], [], []⟩ = (g = true ∧ ob ∧ (cons.all fun t => live.contains t) = true ∧ ARun P ops (k + 1) (tids ++ [rd.toList]) K ⟨ke fr dst g v, os, (live.filter fun t => !cons.contains t) ++ [t], nt⟩) := by
 have hc : ((cons.all fun t => live.contains t) = true) = (∀ t ∈ cons, t ∈ live) := by simp
 rw [hc]
 simp only [zo, Obl, Out.tags, Out.wrs, St.put, Out.tame, qf]
 cases g <;> simp [and_assoc, za]
def qg9 (P : Program) (ops : List SOper) (k : Nat) (tids : List (List Nat)) (K : List (List Nat) → St → Prop) (dst : Option Nat) (st : St) (g : Bool) (c : Option (FuncId × List ASlot)) (ok : Bool) : Prop :=
 ∃ n as fa r fo fo' ι q, r.toks.length ≤ 16 ∧ (g = true → c = some (n, as) ∧ ok = true ∧ qh P n fa fo r fo' ∧ (P.funcs[n]?).any (fun fn => fn.body.isSome && !(fn.name == "runtime.NumGoroutine")) = true ∧ Fits st.live as fa ι fo.length ∧ ObjFit st.os fo fo' ι ∧ r.toks.Nodup ∧ (q = true → ∀ p ∈ ι.zip (fo'.map (AObj.ren ι)), st.os[p.1]? = some p.2)) ∧
  (g = true ∨ (xw (16 * (st.nt + k)) as fa r fo' ι q).tame) ∧ ARun P ops (k + 1) (tids ++ [(xw (16 * (st.nt + k)) as fa r fo' ι q).tags]) K (st.put dst g (xw (16 * (st.nt + k)) as fa r fo' ι q))
theorem q0f {P : Program} {ops : List SOper} {k : Nat} {tids : List (List Nat)} {K : List (List Nat) → St → Prop} {st : St} {dst : Option Nat} {f : Opd} {args : List Opd} {gd : Option (Nat × Bool)} :
  ARun P (⟨dst, .call f args, gd⟩ :: ops) k tids K st = xc (gv st.fr gd) fun g => qg9 P ops k tids K dst st g (qh8 st.fr f args) (f.ok st.fr && args.all fun x => x.ok st.fr) := by
 simp only [ARun]
 cases hg : gv st.fr gd with
 | none => rfl
 | some g =>
  simp only [xc, qg9]
  apply propext
  constructor
  ·rintro ⟨n, as, fa, r, fo, fo', ι, q, h1, h2, h3, h4⟩
   exact ⟨n, as, fa, r, fo, fo', ι, q, h1, fun h => ⟨(h2 h).callee, by rw [(h2 h).ok, (h2 h).oks]; rfl, (h2 h).contract, (h2 h).body, (h2 h).fits, (h2 h).objs, (h2 h).nodup, (h2 h).quiet⟩, h3, h4⟩
  ·rintro ⟨n, as, fa, r, fo, fo', ι, q, h1, h2, h3, h4⟩
   refine ⟨n, as, fa, r, fo, fo', ι, q, h1, fun h => ?_, h3, h4⟩
   obtain ⟨q1, q2, q3, q4, q5, q6, q7, q8⟩ := h2 h
   rw [Bool.and_eq_true] at q2
   exact ⟨q1, q2.1, q2.2, q3, q4, q5, q6, q7, h1, q8⟩
theorem qha {r : ASlot} (hr : r.toks = []) (b : Nat) : wn b r = r := by
 have hren : ∀ (b : Nat) (s : ASlot), s.toks = [] → renT [] b s = s := by
  intro b s hs
  cases s <;> first | rfl | (simp [ASlot.toks] at hs)
 cases r with
 | tup l =>
  simp only [wn, hr, ASlot.tup.injEq]
  have : ∀ s ∈ l, renT [] b s = s := fun s hs => by
   cases s with
   | own t es rows => simp only [ASlot.toks, List.flatMap_eq_nil_iff] at hr; have := hr _ hs; simp [ya] at this
   | uni t es rows => simp only [ASlot.toks, List.flatMap_eq_nil_iff] at hr; have := hr _ hs; simp [ya] at this
   | _ => rfl
  rw [List.map_congr_left this, List.map_id']
 | own t es rows => simp [ASlot.toks] at hr
 | uni t es rows => simp [ASlot.toks] at hr
 | _ => rfl
mutual
theorem qid {s : ASlot} (k : Nat) (h : s.noPtr = true) : s.inK k = true := by
 cases s with
 | d x => exact D.inK_noPtr k h
 | own t es rows => exact D.inKR_noPtr k h
 | uni t es rows => exact D.inKR_noPtr k h
 | full es rows => exact D.inKR_noPtr k h
 | rd cs => exact D.inKL_noPtr k h
 | _ => simp [ASlot.noPtr] at h
end
theorem qmo (os : List AObj) : ObjFit os [] [] [] := ⟨List.nodup_nil, rfl, Nat.le_refl _, trivial, by simp, rfl, by simp⟩
theorem qkg (l : List ASlot) : l.map (ASlot.ren []) = l := by
 have : ASlot.ren [] = id := by funext s; rfl
 rw [this, List.map_id]
theorem xj {P : Program} {ops : List SOper} {k : Nat} {tids : List (List Nat)} {K : List (List Nat) → St → Prop} {fr : Fr} {os : List AObj} {live : List Nat} {nt : Nat} {dst : Option Nat} {g ok : Bool} {n : FuncId} {fa as : List ASlot} {r : ASlot}
  (hc : qh P n fa [] r []) (hb : (P.funcs[n]?).any (fun fn => fn.body.isSome && !(fn.name == "runtime.NumGoroutine")) = true) (ho : g = true → ok = true)
  (hfit : g = true → wg as fa) (hnp : fa.all ASlot.noPtr = true) (hh : qy as fa = []) (hr : r.toks = [])
  (hK : ARun P ops (k + 1) (tids ++ [[]]) K ⟨ke fr dst g r, os, live, nt⟩) :
  qg9 P ops k tids K dst ⟨fr, os, live, nt⟩ g (some (n, as)) ok := by
 have hre := qha hr
 have hput : St.put (⟨fr, os, live, nt⟩ : St) dst g (xw (16 * (nt + k)) as fa r [] [] false) = ⟨ke fr dst g r, os, live, nt⟩ := by
  simp only [St.put, xw, Out.wrs, hre, qf, hh, hr]
  simp [za, ASlot.ren]
 refine ⟨n, as, fa, r, [], [], [], false, by rw [hr]; simp, fun h => ⟨rfl, ho h, hc, hb, ⟨by rw [qkg]; exact hfit h, List.all_eq_true.2 fun s hs => qid _ (List.all_eq_true.1 hnp s hs), by rw [hh]; simp, by rw [hh]; simp⟩, qmo _, by rw [hr]; simp, (nomatch ·)⟩, .inr ⟨by simp [xw, Out.wrs], by simp [xw, hh], by simp [xw, hre, hr]⟩, ?_⟩
 rw [hput]
 exact hK
theorem qf9 {P : Program} {ops : List SOper} {k : Nat} {tids : List (List Nat)} {K : List (List Nat) → St → Prop} {fr : Fr} {os : List AObj} {live : List Nat} {nt : Nat} {dst : Option Nat} {g ok : Bool} {c : Option (FuncId × List ASlot)} (x : D)
  (hg : g = false) (hK : ARun P ops (k + 1) (tids ++ [[]]) K ⟨ke fr dst g (.d x), os, live, nt⟩) : qg9 P ops k tids K dst ⟨fr, os, live, nt⟩ g c ok := by
 subst hg
 refine ⟨0, [], [], .d x, [], [], [], false, by simp [ASlot.toks], fun h => (by cases h), .inr ⟨rfl, rfl, rfl⟩, ?_⟩
 have : St.put (⟨fr, os, live, nt⟩ : St) dst false (xw (16 * (nt + k)) [] [] (.d x) [] [] false) = ⟨ke fr dst false (.d x), os, live, nt⟩ := by
  simp [St.put, xw, Out.wrs, wn, renT, qf, qy, ASlot.toks, za, ASlot.ren]
 rw [this]
 exact hK
theorem q71 {s : ASlot} : ASlot.ren [] s = s := rfl
theorem xb9 {i : Nat} {ι : List Nat} {x : D} : ASlot.ren (i :: ι) (.d x) = .d (x.ren (i :: ι)) := rfl
theorem q72 {i : Nat} {ι : List Nat} {t es : Nat} {rows : List (List D)} : ASlot.ren (i :: ι) (.own t es rows) = .own t es (D.renR (i :: ι) rows) := rfl
theorem q4a {i : Nat} {ι : List Nat} {es : Nat} {rows : List (List D)} : ASlot.ren (i :: ι) (.full es rows) = .full es (D.renR (i :: ι) rows) := rfl
theorem q99 {i : Nat} {ι : List Nat} {cs : List D} : ASlot.ren (i :: ι) (.rd cs) = .rd (D.renL (i :: ι) cs) := rfl
theorem q73 {i : Nat} {ι : List Nat} {l : List ASlot} : ASlot.ren (i :: ι) (.tup l) = .tup (l.map (ASlot.ren1 (i :: ι))) := rfl
theorem q74 {i : Nat} {ι : List Nat} : ASlot.ren (i :: ι) .bad = .bad := rfl
def isNone (os : List AObj) (id : Nat) : Bool := match os[id]? with | some .none => true | _ => false
def yk : List ASlot → Bool
 | [] => true
 | s :: l => s.toks.isEmpty && yk l
theorem qhb : ∀ (l : List ASlot), yk l = true ↔ ∀ s ∈ l, s.toks = []
 | [] => by simp [yk]
 | s :: l => by simp [yk, qhb l]
theorem q0g {P : Program} {ops : List SOper} {k : Nat} {tids : List (List Nat)} {K : List (List Nat) → St → Prop} {fr : Fr} {os : List AObj} {live : List Nat} {nt : Nat} {dst : Option Nat} {ok : Bool} {n : FuncId} {fa as : List ASlot} {r : ASlot} {fo fo' : List AObj} (ι : List Nat)
  (hc : qh P n fa fo r fo') (hb : (P.funcs[n]?).any (fun fn => fn.body.isSome && !(fn.name == "runtime.NumGoroutine")) = true) (ho : ok = true)
  (hfit : wg as (fa.map (ASlot.ren ι))) (hin : fa.all (ASlot.inK fo.length) = true) (hh : qy as fa = []) (hr : r.toks = [])
  (hnd : ι.Nodup) (hlen : ι.length = fo'.length) (hle : fo.length ≤ fo'.length) (hold : qbp ι os ι fo) (hnew : (ι.drop fo.length).all (isNone os) = true) (hik : fo.all (AObj.inK fo.length) = true) (htk : (fo'.all fun o => yk o.cells) = true)
  (hK : ARun P ops (k + 1) (tids ++ [ι ++ ι.map fun i => 1000000 + i]) K ⟨ke fr dst true (r.ren ι), za os (ι.zip (fo'.map (AObj.ren ι))), live, nt⟩) :
  qg9 P ops k tids K dst ⟨fr, os, live, nt⟩ true (some (n, as)) ok := by
 have hre := qha hr
 have hput : St.put (⟨fr, os, live, nt⟩ : St) dst true (xw (16 * (nt + k)) as fa r fo' ι false) = ⟨ke fr dst true (r.ren ι), za os (ι.zip (fo'.map (AObj.ren ι))), live, nt⟩ := by
  simp only [St.put, xw, Out.wrs, hre, qf, hh, hr, cond_false]
  simp
 have hto : (xw (16 * (nt + k)) as fa r fo' ι false).tags = ι ++ ι.map (fun i => 1000000 + i) := by
  simp only [Out.tags, Out.wrs, xw, cond_false]
  have : (ι.zip (fo'.map (AObj.ren ι))).map (·.1) = ι := by
   rw [List.map_fst_zip (by rw [List.length_map]; omega)]
  have h2 : (ι.zip (fo'.map (AObj.ren ι))).map (fun p => 1000000 + p.1) = ι.map fun i => 1000000 + i := by
   rw [← this, List.map_map]; rw [this]; rfl
  simp [this, h2]
 refine ⟨n, as, fa, r, fo, fo', ι, false, by rw [hr]; simp, fun _ => ⟨rfl, ho, hc, hb, ⟨hfit, hin, by rw [hh]; simp, by rw [hh]; simp⟩, ⟨hnd, hlen, hle, hold, fun id hid => ?_, hik, fun o ho' => (qhb _).1 (List.all_eq_true.1 htk o ho')⟩, by rw [hr]; simp, (nomatch ·)⟩, .inl rfl, ?_⟩
 ·have := List.all_eq_true.1 hnew id hid
  unfold isNone at this
  split at this
  ·rename_i h; exact h
  ·cases this
 ·rw [hto, hput]
  exact hK
def nilO (P : Program) (ops : List SOper) (k : Nat) (tids : List (List Nat)) (K : List (List Nat) → St → Prop) (dst : Option Nat) (st : St) (g neg ok : Bool) (s : ASlot) : Prop :=
 g = true ∧ ok = true ∧ ∃ es rows, s.rows = some (es, rows) ∧ ∀ b : Bool, (b = true → rows = []) → ARun P ops (k + 1) (tids ++ [[]]) K ⟨ke st.fr dst true (.d (.bool (if neg = true then !b else b))), st.os, st.live, st.nt⟩
theorem qtx {P : Program} {ops : List SOper} {k : Nat} {tids : List (List Nat)} {K : List (List Nat) → St → Prop} {st : St} {dst : Option Nat} {neg : Bool} {x : Opd} {gd : Option (Nat × Bool)} :
  ARun P (⟨dst, .eqnilS neg x, gd⟩ :: ops) k tids K st = xc (gv st.fr gd) fun g => nilO P ops k tids K dst st g neg (x.ok st.fr) (x.get st.fr) := by
 simp only [ARun]
 cases gv st.fr gd with
 | none => rfl
 | some g =>
  cases g with
  | false => simp [xc, nilO]
  | true =>
   have hn : ∀ b, st.next ⟨dst, .eqnilS neg x, gd⟩ true (qmg neg b) = ⟨ke st.fr dst true (.d (.bool (if neg = true then !b else b))), st.os, st.live, st.nt⟩ := by
    intro b
    have hl : qf st.live (qmg neg b) = st.live := qv rfl rfl
    simp only [St.next, hl]
    rfl
   simp only [xc, nilO, hn]
def q4b (P : Program) (ops : List SOper) (k : Nat) (tids : List (List Nat)) (K : List (List Nat) → St → Prop) (dst : Option Nat) (st : St) (g ok : Bool) (s : ASlot) : Prop :=
 g = true ∧ ok = true ∧ ∃ iid, s = .d (.ptr iid 0) ∧
  ((∃ since seen last, st.os[iid]? = some (.iter (.d .nilmap) since seen last) ∧ ARun P ops (k + 1) (tids ++ [[]]) K ⟨ke st.fr dst true qj3, st.os, st.live, st.nt⟩) ∨
   ∃ mid since seen last es clock, IterOn st.os iid mid since seen last es clock ∧ (qce es seen = [] → ARun P ops (k + 1) (tids ++ [[]]) K ⟨ke st.fr dst true qj3, st.os, st.live, st.nt⟩) ∧
    ∀ e ∈ qce es seen, ARun P ops (k + 1) (tids ++ [[]]) K ⟨ke st.fr dst true (entV e), st.os.set iid (.iter (.d (.map mid)) since (seen ++ [e.1]) clock), st.live, st.nt⟩)
theorem qx4 {P : Program} {ops : List SOper} {k : Nat} {tids : List (List Nat)} {K : List (List Nat) → St → Prop} {st : St} {dst : Option Nat} {x : Opd} {gd : Option (Nat × Bool)} :
  ARun P (⟨dst, .nextM x, gd⟩ :: ops) k tids K st = xc (gv st.fr gd) fun g => q4b P ops k tids K dst st g (x.ok st.fr) (x.get st.fr) := by
 simp only [ARun]
 cases gv st.fr gd with
 | none => rfl
 | some g =>
  cases g with
  | false => simp [xc, q4b]
  | true =>
   have h1 : st.next ⟨dst, .nextM x, gd⟩ true qci = ⟨ke st.fr dst true qj3, st.os, st.live, st.nt⟩ := by
    have hl : qf st.live qci = st.live := qv rfl rfl
    simp only [St.next, hl]
    rfl
   have h2 : ∀ iid mid since seen clock e, st.next ⟨dst, .nextM x, gd⟩ true (qj6 iid mid since seen clock e) = ⟨ke st.fr dst true (entV e), st.os.set iid (.iter (.d (.map mid)) since (seen ++ [e.1]) clock), st.live, st.nt⟩ := by
    intro iid mid since seen clock e
    have hl : qf st.live (qj6 iid mid since seen clock e) = st.live := qv rfl rfl
    simp only [St.next, hl]
    rfl
   simp only [xc, q4b, h1, h2]
theorem q4c {P : Program} {ops : List SOper} {k : Nat} {tids : List (List Nat)} {K : List (List Nat) → St → Prop} {fr : Fr} {os : List AObj} {live : List Nat} {nt : Nat} {dst : Option Nat} {ok : Bool} {iid mid since last clock : Nat} {seen : List Nat} {es : Ents}
  (h : IterOn os iid mid since seen last es clock) (h1 : qce es seen = [] → ARun P ops (k + 1) (tids ++ [[]]) K ⟨ke fr dst true qj3, os, live, nt⟩)
  (h2 : ∀ e ∈ qce es seen, ARun P ops (k + 1) (tids ++ [[]]) K ⟨ke fr dst true (entV e), os.set iid (.iter (.d (.map mid)) since (seen ++ [e.1]) clock), live, nt⟩) (ho : ok = true := by rfl) :
  q4b P ops k tids K dst ⟨fr, os, live, nt⟩ true ok (.d (.ptr iid 0)) := ⟨rfl, ho, iid, rfl, .inr ⟨mid, since, seen, last, es, clock, h, h1, h2⟩⟩
def q4d (P : Program) (ops : List SOper) (k : Nat) (tids : List (List Nat)) (K : List (List Nat) → St → Prop) (dst : Option Nat) (st : St) (g : Bool) (back es bytes : Nat) (s x : Opd) : Prop :=
 g = true ∧ (((sem (16 * (st.nt + k)) (.appendO back es bytes s x) st).ob ∧ ARun P ops (k + 1) (tids ++ [[]]) K (st.next ⟨dst, .appendR back es bytes s x, none⟩ true (sem (16 * (st.nt + k)) (.appendO back es bytes s x) st))) ∨
     (s.ok st.fr = true ∧ x.ok st.fr = true ∧ ∃ id n r, s.get st.fr = .d (.ref id 0 es n) ∧ vj es st.os (x.get st.fr) = some r ∧ AppR st.os es bytes back id n r ∧
      ARun P ops (k + 1) (tids ++ [[]]) K (st.next ⟨dst, .appendR back es bytes s x, none⟩ true (qj7 id id es n st.os r)) ∧ ARun P ops (k + 1) (tids ++ [[]]) K (st.next ⟨dst, .appendR back es bytes s x, none⟩ true (qj7 id (st.os.length - back) es n st.os r))))
theorem qqx {P : Program} {ops : List SOper} {k : Nat} {tids : List (List Nat)} {K : List (List Nat) → St → Prop} {st : St} {dst : Option Nat} {back es bytes : Nat} {s x : Opd} {gd : Option (Nat × Bool)} :
  ARun P (⟨dst, .appendR back es bytes s x, gd⟩ :: ops) k tids K st = xc (gv st.fr gd) fun g => q4d P ops k tids K dst st g back es bytes s x := by
 simp only [ARun]
 cases gv st.fr gd with
 | none => rfl
 | some g =>
  cases g with
  | false => simp [xc, q4d]
  | true => rfl
def qvs (P : Program) (ops : List SOper) (k : Nat) (tids : List (List Nat)) (K : List (List Nat) → St → Prop) (dst : Option Nat) (st : St) (g ok : Bool) (s : ASlot) : Prop :=
 g = true ∧ ok = true ∧ ∃ iid mid since seen clock es e, s = .d (.ptr iid 0) ∧ EntryOn st.os iid mid since seen clock es e ∧ ARun P ops (k + 1) (tids ++ [[]]) K ⟨ke st.fr dst true (.tup [.d e.2.1, .d e.2.2]), st.os, st.live, st.nt⟩
theorem qty {P : Program} {ops : List SOper} {k : Nat} {tids : List (List Nat)} {K : List (List Nat) → St → Prop} {st : St} {dst : Option Nat} {x : Opd} {gd : Option (Nat × Bool)} :
  ARun P (⟨dst, .entryM x, gd⟩ :: ops) k tids K st = xc (gv st.fr gd) fun g => qvs P ops k tids K dst st g (x.ok st.fr) (x.get st.fr) := by
 simp only [ARun]
 cases gv st.fr gd with
 | none => rfl
 | some g =>
  cases g with
  | false => simp [xc, qvs]
  | true =>
   have h1 : ∀ e, st.next ⟨dst, .entryM x, gd⟩ true (qcj e) = ⟨ke st.fr dst true (.tup [.d e.2.1, .d e.2.2]), st.os, st.live, st.nt⟩ := by
    intro e
    have hl : qf st.live (qcj e) = st.live := qv rfl rfl
    simp only [St.next, hl]
    rfl
   simp only [xc, qvs, h1]
theorem q0h {P : Program} {ops : List SOper} {k : Nat} {tids : List (List Nat)} {K : List (List Nat) → St → Prop} {fr : Fr} {os : List AObj} {live : List Nat} {nt : Nat} {dst : Option Nat} {ok : Bool} {iid mid since clock : Nat} {seen : List Nat} {es : Ents} {e : Nat × D × D}
  (h : EntryOn os iid mid since seen clock es e) (h1 : ARun P ops (k + 1) (tids ++ [[]]) K ⟨ke fr dst true (.tup [.d e.2.1, .d e.2.2]), os, live, nt⟩) (ho : ok = true := by rfl) :
  qvs P ops k tids K dst ⟨fr, os, live, nt⟩ true ok (.d (.ptr iid 0)) := ⟨rfl, ho, iid, mid, since, seen, clock, es, e, rfl, h, h1⟩
theorem qhc {P : Program} {ops : List SOper} {k : Nat} {tids : List (List Nat)} {K : List (List Nat) → St → Prop} {fr : Fr} {os : List AObj} {live : List Nat} {nt : Nat} {dst : Option Nat} {neg ok : Bool} {s : ASlot} {es : Nat} {rows : List (List D)}
  (ho : ok = true) (hr : s.rows = some (es, rows)) (h : ∀ b : Bool, (b = true → rows = []) → ARun P ops (k + 1) (tids ++ [[]]) K ⟨ke fr dst true (.d (.bool (if neg = true then !b else b))), os, live, nt⟩) :
  nilO P ops k tids K dst ⟨fr, os, live, nt⟩ true neg ok s := ⟨rfl, ho, es, rows, hr, h⟩
structure Fits0 (live : List Nat) (as fa : List ASlot) : Prop where
 all : wg as fa
 noPtr : fa.all ASlot.noPtr = true
 lv : ∀ p ∈ qy as fa, p.1 ∈ live
 nd1 : ((qy as fa).map (·.1)).Nodup
theorem qdl {P : Program} {ops : List SOper} {k : Nat} {tids : List (List Nat)} {K : List (List Nat) → St → Prop} {fr : Fr} {os : List AObj} {live : List Nat} {nt : Nat} {dst : Option Nat} {ok : Bool} {n : FuncId} {fa as : List ASlot} {r : ASlot}
  (hc : qh P n fa [] r []) (hb : (P.funcs[n]?).any (fun fn => fn.body.isSome && !(fn.name == "runtime.NumGoroutine")) = true) (ho : ok = true)
  (hfit : Fits0 live as fa) (hnd : r.toks.Nodup) (hfew : r.toks.length ≤ 16)
  (hK : ARun P ops (k + 1) (tids ++ [[]]) K ⟨ke fr dst true (wn (16 * (nt + k)) r), os, (live.filter fun t => !((qy as fa).map (·.1)).contains t) ++ (wn (16 * (nt + k)) r).toks, nt⟩) :
  qg9 P ops k tids K dst ⟨fr, os, live, nt⟩ true (some (n, as)) ok :=
 ⟨n, as, fa, r, [], [], [], false, hfew, fun _ => ⟨rfl, ho, hc, hb, ⟨by rw [qkg]; exact hfit.all, List.all_eq_true.2 fun s hs => qid _ (List.all_eq_true.1 hfit.noPtr s hs), hfit.lv, hfit.nd1⟩, qmo _, hnd, (nomatch ·)⟩, .inl rfl, hK⟩
theorem qm {P : Program} {k0 : Nat} {c : Opd} {x y : SCode} {Q : SExit → St → Prop} {st : St} (t : Bool) (h1 : c.ok st.fr = true) (h2 : c.get st.fr = .d (.bool t)) (hx : t = true → AWp P k0 x Q st) (hy : t = false → AWp P k0 y Q st) : AWp P k0 (.cond c x y) Q st :=
 ⟨t, ⟨h1, h2⟩, hx, hy⟩
theorem q75 {P : Program} {k0 : Nat} {a b : SCode} {Q : SExit → St → Prop} {st : St} : AWp P k0 (.seq a b) Q st = AWp P k0 a (qf8 (AWp P k0 b Q) Q) st := rfl
theorem q4e {P : Program} {k0 : Nat} {Q : SExit → St → Prop} {st : St} : AWp P k0 .skip Q st = Q .normal st := rfl
theorem q0i {P : Program} {k0 id : Nat} {a : SCode} {Q : SExit → St → Prop} {st : St} : AWp P k0 (.block id a) Q st = AWp P k0 a (qqq id Q) st := rfl
theorem q4f {P : Program} {k0 id : Nat} {Q : SExit → St → Prop} {st : St} : AWp P k0 (.exit id) Q st = Q (.exit id) st := rfl
theorem q76 {P : Program} {k0 : Nat} {Q : SExit → St → Prop} {st : St} : AWp P k0 .ret Q st = Q .ret st := rfl
def disj : List Nat → List Nat → Bool
 | [], _ => true
 | i :: l, r => !r.contains i && disj l r
theorem qog : ∀ (l r : List Nat), disj l r = true ↔ ∀ i ∈ l, i ∉ r
 | [], r => by simp [disj]
 | i :: l, r => by simp [disj, qog l r]
theorem q4g {l : List Nat} : disj l [] = true := (qog l []).2 (by simp)
theorem qqy {p : Nat × Nat} {ps : List (Nat × Nat)} {tids : List (List Nat)} : qb0 (p :: ps) tids = (disj (tids.getD p.1 []) (tids.getD p.2 []) = true ∧ qb0 ps tids) := by
 rw [qog]
 apply propext
 simp only [qb0, List.forall_mem_cons]
theorem qtz {tids : List (List Nat)} : qb0 [] tids = True := by simp [qb0]
theorem St.bump_mk {fr : Fr} {os : List AObj} {live : List Nat} {nt n : Nat} : (⟨fr, os, live, nt⟩ : St).bump n = ⟨fr, os, live, nt + n⟩ := rfl
theorem q4h (c a : Bool) : (if c = true then a else false) = (c && a) := by cases c <;> rfl
theorem q77 (c b : Bool) : (if c = true then true else b) = (c || b) := by cases c <;> rfl
theorem xaa (b : Bool) : (b == true) = b := by cases b <;> rfl
theorem xab (b : Bool) : (b == false) = !b := by cases b <;> rfl
def qmp : List Nat → Bool
 | [] => true
 | t :: l => !l.contains t && qmp l
theorem qmq : ∀ (l : List Nat), qmp l = true ↔ l.Nodup
 | [] => by simp [qmp]
 | t :: l => by simp [qmp, qmq l]
def q4i (live live' : List Nat) (ps : List (Nat × Nat)) : Bool := ps.all fun p => !live'.contains p.2 || live.contains p.1
def ltB (n : Nat) (l : List Nat) : Bool := l.all fun t => decide (t < n)
theorem q4j {k0 : Nat} {fr fr' : Fr} {os os' : List AObj} {live live' : List Nat} {nt nt' : Nat} : Weak k0 ⟨fr, os, live, nt⟩ ⟨fr', os', live', nt'⟩ ↔
  frW (v7 os') fr fr' ∧ osW (v7 os') os os' ∧ q4i live live' (yv fr fr' ++ kg os os') = true ∧ qmp ((yv fr fr' ++ kg os os').map (·.1)) = true ∧ qck k0 os os' ∧
  ltB (16 * nt') (live' ++ qes fr' ++ qb6 os') = true := by
 have h1 : q4i live live' (yv fr fr' ++ kg os os') = true ↔ ∀ p ∈ yv fr fr' ++ kg os os', p.2 ∈ live' → p.1 ∈ live := by
  simp only [q4i, List.all_eq_true, Bool.or_eq_true, Bool.not_eq_true', List.contains_iff_mem, ← Bool.not_eq_true]
  exact ⟨fun h p hp hl => (h p hp).resolve_left (fun hn => hn hl), fun h p hp => by by_cases hl : p.2 ∈ live' <;> simp [hl, h p hp]⟩
 have h2 : ltB (16 * nt') (live' ++ qes fr' ++ qb6 os') = true ↔ ∀ t ∈ live' ++ qes fr' ++ qb6 os', t < 16 * nt' := by
  simp only [ltB, List.all_eq_true, decide_eq_true_eq]
 rw [h1, h2, qmq]
 exact ⟨fun h => ⟨h.fr, h.os, h.live, h.nd, h.base, h.wf⟩, fun h => ⟨h.1, h.2.1, h.2.2.1, h.2.2.2.1, h.2.2.2.2.1, h.2.2.2.2.2⟩⟩
theorem q78 {keep : Nat → Bool} {os : List AObj} : osW keep os [] = True := by cases os with | nil => rfl | cons o l => cases o <;> rfl
theorem q4k {keep : Nat → Bool} {o : AObj} {l l' : List AObj} : osW keep (o :: l) (.none :: l') = osW keep l l' := by cases o <;> rfl
theorem qt0 {os : List AObj} : kg os [] = [] := by cases os with | nil => rfl | cons o l => cases o <;> rfl
theorem qqz {o : AObj} {l l' : List AObj} : kg (o :: l) (.none :: l') = kg l l' := by cases o <;> rfl
theorem q79 {keep : Nat → Bool} {cs : List ASlot} : csW keep cs [] = True := by cases cs <;> rfl
theorem qt1 {cs : List ASlot} : wx cs [] = [] := by cases cs <;> rfl
theorem qoh {os os' : List AObj} : qck 0 os os' = True := by simp [qck]
theorem q8a {keep : Nat → Bool} {s : ASlot} {x : D} : qaf keep s (.d x) = (s.eqvD x ∧ x.okW keep = true) := by cases s <;> rfl
theorem q0j {keep : Nat → Bool} {s : ASlot} : qaf keep s .bad = True := by cases s <;> rfl
theorem q0k {s : ASlot} {x : D} : jk s (.d x) = [] := by cases s <;> rfl
theorem qq0 {s : ASlot} {es : Nat} {rows : List (List D)} : jk s (.full es rows) = [] := by cases s <;> rfl
theorem qt2 {s : ASlot} : jk s .bad = [] := by cases s <;> rfl
theorem qx5 {s : ASlot} {cs : List D} : jk s (.rd cs) = [] := by cases s <;> rfl
theorem qt3 {t t' es es' : Nat} {r r' : List (List D)} : jk (.own t es r) (.own t' es' r') = [(t, t')] := rfl
def qhd (st : St) : List RVar → Prop
 | [] => True
 | r :: l => r.good st ∧ qhd st l
theorem qkh {st : St} : ∀ (l : List RVar), qhd st l ↔ ∀ r ∈ l, r.good st
 | [] => by simp [qhd]
 | r :: l => by simp [qhd, qkh l]
theorem qki {α : Type} {x : α} {p : α → Prop} : (∀ y ∈ some x, p y) = p x := by simp
theorem qkj {α : Type} {p : α → Prop} : (∀ y ∈ (none : Option α), p y) = True := by simp
theorem q4l {k0 : Nat} {rvs : List RVar} {rs : List ASlot} {objs : List AObj} {fr : Fr} {os : List AObj} {live : List Nat} {nt : Nat} :
  q3v k0 rvs rs objs ⟨fr, os, live, nt⟩ = (qhd ⟨fr, os, live, nt⟩ rvs ∧ Weak k0 ⟨wo (rvs.map (RVar.slot ⟨fr, os, live, nt⟩)) 0, os, live, nt⟩ ⟨wo rs 0, objs, jx rs, 1⟩) := by rw [qkh]; rfl
def xca {α : Type} (k0 : Nat) (S : α → St) (μ : α → Nat) (x : α) (st' : St) : Prop := ∃ y, Weak k0 st' (S y) ∧ μ y < μ x
theorem qn {α : Type} {P : Program} {k0 : Nat} {a : SCode} {Q : SExit → St → Prop} {st : St} (S : α → St) (μ : α → Nat) (x0 : α) (h0 : Weak k0 st (S x0))
  (h : ∀ x, AWp P k0 a (qf8 (xca k0 S μ x) Q) (S x)) : AWp P k0 (.loop a) Q st :=
 ⟨α, S, μ, x0, .weak h0 (.refl _), fun x => AWp.mono a (qd6 (fun _ ⟨y, h1, h2⟩ => ⟨y, .weak h1 (.refl _), h2⟩) (fun _ _ h => h)) (h x)⟩
theorem q0l {keep : Nat → Bool} {t t' es es' : Nat} {r r' : List (List D)} : qaf keep (.own t es r) (.own t' es' r') = ((es = es' ∧ D.eqvR r r') ∧ D.noPtrR r' = true) := rfl
theorem ql0 {keep : Nat → Bool} {t' es es' : Nat} {r r' : List (List D)} : qaf keep (.full es r) (.own t' es' r') = (vr es r es' r' ∧ D.noPtrR r' = true) := rfl
theorem qx6 {keep : Nat → Bool} {es es' : Nat} {r r' : List (List D)} : qaf keep (.full es r) (.full es' r') = (vr es r es' r' ∧ D.noPtrR r' = true) := rfl
theorem q4m {keep : Nat → Bool} {r r' : List D} : qaf keep (.rd r) (.rd r') = (D.eqvL r r' ∧ D.noPtrL r' = true) := rfl
theorem q8b {keep : Nat → Bool} {cs cs' : List ASlot} {l l' : List AObj} : osW keep (.row cs :: l) (.row cs' :: l') = (csW keep cs cs' ∧ osW keep l l') := rfl
theorem qt4 {cs cs' : List ASlot} {l l' : List AObj} : kg (.row cs :: l) (.row cs' :: l') = wx cs cs' ++ kg l l' := rfl
theorem q4n {keep : Nat → Bool} {s s' : ASlot} {l l' : List ASlot} : csW keep (s :: l) (s' :: l') = (qaf keep s s' ∧ csW keep l l') := rfl
theorem y8 {s s' : ASlot} {l l' : List ASlot} : wx (s :: l) (s' :: l') = jk s s' ++ wx l l' := rfl
theorem qoi {n : Nat} : ((n : Int) + 1).toNat = n + 1 := by omega
theorem qq1 {α β : Type} {f : α → β} {l : List α} : (l.map f).take l.length = l.map f := by rw [List.take_of_length_le (by simp)]
theorem D.default_eq : (default : D) = .int default default := rfl
theorem qoj {keep : Nat → Bool} {t' es' : Nat} {r' : List (List D)} : qaf keep (.d .nilsl) (.own t' es' r') = (r' = []) := rfl
theorem ql1 {keep : Nat → Bool} {es' : Nat} {r' : List (List D)} : qaf keep (.d .nilsl) (.full es' r') = (r' = []) := rfl
theorem qok {x : D} {t' es' : Nat} {r' : List (List D)} : jk (.d x) (.own t' es' r') = [] := rfl
theorem ql2 {t' es' : Nat} {r' : List (List D)} : yj (.d .nilsl) (.own t' es' r') = (r' = []) := rfl
theorem qkk {es' : Nat} {r' : List (List D)} : yj (.d .nilsl) (.full es' r') = (r' = []) := rfl
theorem q4o {es' : Nat} {r' : List (List D)} : D.eqv .nilsl (.sl es' r') = (r' = []) := by simp [D.eqv]
theorem qiv {t' es es' : Nat} {r r' : List (List D)} : jk (.full es r) (.own t' es' r') = [] := rfl
theorem q0m (t : Nat) : [t].Nodup = True := by simp
theorem qj {α β : Type} (f : α → β) (l : List α) {i : Nat} (h : i < l.length) (d : β) : (l.map f).getD i d = f l[i] := by simp [List.getD, h]
theorem xi {α : Type} {f : α → List D} (h : ∀ x, D.noPtrL (f x) = true) (l : List α) : D.noPtrR (l.map f) = true := by
 induction l with
 | nil => rfl
 | cons x l ih => simp [D.noPtrR, h, ih]
theorem qga : ∀ (a b : List D), D.noPtrL (a ++ b) = (D.noPtrL a && D.noPtrL b)
 | [], b => by simp [D.noPtrL]
 | x :: a, b => by simp [D.noPtrL, qga a b, Bool.and_assoc]
theorem qgb : ∀ (a b : List (List D)), D.noPtrR (a ++ b) = (D.noPtrR a && D.noPtrR b)
 | [], b => by simp [D.noPtrR]
 | x :: a, b => by simp [D.noPtrR, qgb a b, Bool.and_assoc]
theorem wrap_i64 {n : Int} (h1 : -9223372036854775808 ≤ n) (h2 : n ≤ 9223372036854775807) : IntKind.i64.wrap n = n := IntWalk.i64_in n ⟨h1, h2⟩
theorem qg {n : Nat} (h : n < 9223372036854775807) : IntKind.i64.wrap ((n : Int) + 1) = ((n + 1 : Nat) : Int) := by
 rw [wrap_i64 (by omega) (by omega)]; rfl
theorem qol {k : Nat} {o o' : AObj} {os os' : List AObj} : qck (k + 1) (o :: os) (o' :: os') = ((v7 [o] 0 = true → v7 [o'] 0 = true) ∧ qck k os os') := by
 apply propext
 simp only [qck]
 constructor
 ·intro h
  refine ⟨fun h0 => ?_, fun id hid hk => ?_⟩
  ·exact h 0 (by omega) h0
  ·exact h (id + 1) (by omega) hk
 ·rintro ⟨h1, h2⟩ id hid hk
  cases id with
  | zero => exact h1 hk
  | succ id => exact h2 id (by omega) hk
theorem qvt {P : Program} {mu : List Nat} {news : List (FuncId × Nat)} {f : FuncId} {fn : Func} {sc : SCode} {args rs : List ASlot} {rvs : List RVar} {objs objs' : List AObj} (hm : P.follows .mixedOrders = true) (hf : P.funcs[f]? = some fn)
  (hc : fn.body.bind (xp P mu fn.ntmps news) = some sc.erase) (hr : fn.results.toList.mapM (qdj P) = some rvs)
  (h : AWp P objs.length sc (qz6 objs.length rvs rs objs') (qg7 args objs)) (hN : args.length ≤ fn.ntmps) (hl : rvs.length = rs.length) (hw : ltB 16 (jx args ++ qb6 objs) = true) : qh P f args objs (qqr rs) objs' := by
 rw [Option.bind_eq_some_iff] at hc
 obtain ⟨c, hb, hc⟩ := hc
 refine qoe hm hf hb (rv := fn.results.toList) (by simp) hr hc hN hl (fun t ht => ?_) h
 simp only [ltB, List.all_eq_true, decide_eq_true_eq] at hw
 exact hw t ht
theorem q0n {rs : List ASlot} (h : rs.length ≠ 1) : qqr rs = .tup rs := by
 match rs with
 | [] => rfl
 | [_] => simp at h
 | _ :: _ :: _ => rfl
theorem xda (d : D) : D.eqv d d = True := eq_true (D.eqv_refl d)
theorem xcc (d : List D) : D.eqvL d d = True := eq_true (D.eqvL_refl d)
theorem xcd (d : List (List D)) : D.eqvR d d = True := eq_true (D.eqvR_refl d)
theorem q8c {k k' : IntKind} {n n' : Int} : D.eqv (.int k n) (.int k' n') = (k = k' ∧ n = n') := by simp [D.eqv]
theorem q4p {b b' : Bool} : D.eqv (.bool b) (.bool b') = (b = b') := by simp [D.eqv]
theorem q8d {b b' : List UInt8} : D.eqv (.str b) (.str b') = (b = b') := by simp [D.eqv]
theorem xad {es es' : Nat} {r r' : List (List D)} : D.eqv (.sl es r) (.sl es' r') = vr es r es' r' := by simp [D.eqv, vr]
theorem q8e {l l' : List D} : D.eqv (.agg l) (.agg l') = D.eqvL l l' := by simp [D.eqv]
theorem q8f {b b' o o' : Nat} : D.eqv (.ptr b o) (.ptr b' o') = (b = b' ∧ o = o') := by simp [D.eqv]
theorem q8g {b b' o o' e e' n n' : Nat} : D.eqv (.ref b o e n) (.ref b' o' e' n') = (b = b' ∧ o = o' ∧ e = e' ∧ n = n') := by simp [D.eqv]
theorem q8h {b b' : Nat} : D.eqv (.map b) (.map b') = (b = b') := by simp [D.eqv]
theorem q4q {f f' : Fn} {a a' b b' : List D} : D.eqv (.func f a b) (.func f' a' b') = (f = f' ∧ D.eqvL a a' ∧ D.eqvL b b') := by simp [D.eqv]
theorem q0o {t t' : TypeId} {a a' : D} : D.eqv (.iface t a) (.iface t' a') = (t = t' ∧ D.eqv a a') := by simp [D.eqv]
theorem q0p {a a' : D} {l l' : List D} : D.eqvL (a :: l) (a' :: l') = (D.eqv a a' ∧ D.eqvL l l') := by simp [D.eqvL]
theorem q4r : D.eqvL [] [] = True := by simp [D.eqvL]
theorem q0q {a a' : List D} {l l' : List (List D)} : D.eqvR (a :: l) (a' :: l') = (D.eqvL a a' ∧ D.eqvR l l') := by simp [D.eqvR]
theorem q4s : D.eqvR [] [] = True := by simp [D.eqvR]
theorem qq2 {es : Nat} {r r' : List (List D)} : vr es r es r' = D.eqvR r r' := by simp [vr]
theorem qt5 {es es' : Nat} : vr es [] es' [] = True := by simp [vr, D.eqvR]
theorem qkl {α : Type} {es es' : Nat} {f : α → List D} : vr es [] es' (List.map f []) = True := by simp [vr, D.eqvR]
theorem q4t {a b b' : List (List D)} : D.eqvR (a ++ b) (a ++ b') = D.eqvR b b' := by
 induction a with
 | nil => rfl
 | cons x a ih => simp [D.eqvR, D.eqvL_refl, ih]
theorem q4u {s : ASlot} {x : D} : yj s (.d x) = s.eqvD x := by cases s <;> rfl
theorem qx7 {t t' es es' : Nat} {r r' : List (List D)} : yj (.own t es r) (.own t' es' r') = (es = es' ∧ D.eqvR r r') := rfl
theorem qkm {t' es es' : Nat} {r r' : List (List D)} : yj (.full es r) (.own t' es' r') = vr es r es' r' := rfl
theorem qt6 {es es' : Nat} {r r' : List (List D)} : yj (.full es r) (.full es' r') = vr es r es' r' := rfl
theorem q0r {r r' : List D} : yj (.rd r) (.rd r') = D.eqvL r r' := rfl
theorem qa {x : D} : yj (.d x) (.d x) := D.eqv_refl x
def q4v (P : Program) (ops : List SOper) (objs : Nat) (pairs : List (Nat × Nat)) (Q : SExit → St → Prop) (st : St) : Prop := AWp P 0 (.region ops objs pairs) Q st
theorem q8i {P : Program} {k0 : Nat} {ops : List SOper} {objs : Nat} {pairs : List (Nat × Nat)} {Q : SExit → St → Prop} {st : St} : AWp P k0 (.region ops objs pairs) Q st = q4v P ops objs pairs Q st := rfl
def q4w (P : Program) (ops : List SOper) (objs : Nat) (pairs : List (Nat × Nat)) (Q : SExit → St → Prop) (st : St) : Prop := AWp P 0 (.region ops objs pairs) Q st
def regK (pairs : List (Nat × Nat)) (Q : SExit → St → Prop) (n : Nat) (tids : List (List Nat)) (st' : St) : Prop := qb0 pairs tids ∧ Q .normal (st'.bump n)
theorem q8j {pairs : List (Nat × Nat)} {Q : SExit → St → Prop} {n : Nat} {tids : List (List Nat)} {fr : Fr} {os : List AObj} {live : List Nat} {nt : Nat} :
  regK pairs Q n tids ⟨fr, os, live, nt⟩ = (qb0 pairs tids ∧ Q .normal (⟨fr, os, live, nt + n⟩)) := rfl
theorem q4x {P : Program} {ops : List SOper} {objs : Nat} {pairs : List (Nat × Nat)} {Q : SExit → St → Prop} {fr : Fr} {os : List AObj} {live : List Nat} {nt : Nat} :
  q4w P ops objs pairs Q ⟨fr, os, live, nt⟩ = ARun P ops 0 [] (regK pairs Q ops.length) ⟨fr, os ++ List.replicate objs .none, live, nt⟩ := rfl
def q8k {ops lit : List SOper} (_ : ops = lit) : List SOper := lit
attribute [go_sem] qtx xo qhx eqOk q75 q8i q4x q8j q8k q4e q0i q4f q76 qf8 qqq qz6 q3x q3y qz7 q3z qxt qxu qke qz8 qxv qof q30 q31 qxw qxx q32 q33 qz9 q34 q35 q36 qtm qly qxy qto qxz qx0 qx1 qtp qtq qtr qqs q37 q0a qx2 qts qg7 wo jx List.flatMap_cons List.flatMap_nil ASlot.toks List.append_nil List.nil_append List.replicate Nat.zero_add Nat.add_zero q0f qh8 gv xc sem q38 q39 q0e Fr.get Opd.get Opd.ok ke if_true if_false ite_self or_false or_true true_or false_or or_self List.filter_cons List.filter_nil List.contains_cons List.contains_nil Int.cast_ofNat_Int Int.natCast_add not_false_eq_true implies_true forall_const imp_self and_self true_and and_true false_and and_false Bool.and_true Bool.true_and Bool.false_and Bool.and_false Bool.or_true Bool.true_or Bool.or_false Bool.false_or Bool.not_true Bool.not_false Bool.not_not q4h q77 xaa xab Bool.false_eq_true List.length_cons List.length_nil List.length_append List.set_cons_zero List.set_cons_succ List.cons_append List.map_cons List.map_nil List.all_cons List.all_nil List.getElem?_cons_zero List.getElem?_cons_succ List.getElem?_nil List.getD_cons_zero List.getD_cons_succ List.drop_zero List.drop_succ_cons List.take_zero List.take_succ_cons List.drop_nil List.take_nil List.forall_mem_cons List.not_mem_nil false_imp_iff List.flatten_cons List.flatten_nil ASlot.toCells ASlot.dCells ASlot.dCellsOk ASlot.cellD ASlot.isCellD ASlot.isOne ASlot.asD ASlot.rows D.isCell jo jy storeAt wu qd AObj.cells binS qfj qhy qak hiB loB yd qjg ye vj zg ya qis Option.map_some Option.map_none Option.isSome_some qtz St.bump_mk q4l qhd qgb qga qmp q4i ltB qki qkj decide_true decide_false RVar.good RVar.slot q4j frW yv q8a q0j q0l ql0 qx6 q4m qiv q0m Int.toNat_natCast List.length_map q0k qq0 qt2 qx5 qt3 q78 q4k qt0 qqz q79 qt1 qoh qes qb6 List.nodup_nil Option.some.injEq ASlot.d.injEq D.bool.injEq D.int.injEq D.agg.injEq D.sl.injEq List.cons.injEq D.okW D.okWL D.okWR D.okW_noPtr D.okWL_noPtr D.okWR_noPtr D.noPtr D.noPtrL D.noPtrR ASlot.eqvD xda xcc xcd q8c q4p q8d xad q8e q8f q8g q8h q4q q0o q0p q4r q0q q4s qq2 qt5 qkl q4t q4u qx7 qkm qt6 q0r wg qoj ql1 qok ql2 qkk q4o q8b qt4 q4n y8 v7 Int.toNat_zero D.default_eq Option.getD_some Option.getD_none qoi qq1 Nat.add_sub_cancel beq_self_eq_true ASlot.noPtr qy Bool.and_self Bool.and_self_left Bool.and_self_right bne_self_eq_false qqy disj q4g qol D.ren D.renL D.renR q71 xb9 q72 q4a q99 q73 q74 ASlot.ren1 AObj.ren D.renL_noPtr D.renR_noPtr D.ren_noPtr D.inK D.inKL D.inKR D.inK_noPtr D.inKL_noPtr D.inKR_noPtr ASlot.inK ASlot.inKC AObj.inK za List.zip_cons_cons List.zip_nil_left List.zip_nil_right qbp qzo qbz qqc isNone yk List.isEmpty_nil List.isEmpty_cons List.drop_nil Option.some_inj exists_eq_left' exists_eq_left Option.toList_some Option.toList_none
end Go.Abs
