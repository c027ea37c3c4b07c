/- Texts Ba. -/
import Derived.Test.YtinnaedmdoengaaGreatMqh
import Derived.Calls
import Derived.Orders
import Derived.Tactics
import Derived.Laws.AppendOwn
import Derived.Laws.Slices
import Derived.Laws.Closers25
import Derived.Laws.StructEq
import Derived.Laws.BytesString
import Derived.Laws.CopyRow
import Derived.MapKept
import Derived.Maps.RangeRun
import Derived.TacticsIn
import Derived.OrdersIn
import Derived.RangeFuncRecord
import Derived.RangeFuncLeaves
import Derived.IntWalk

namespace Go.Abs
set_option linter.unusedSimpArgs false
set_option linter.unusedVariables false
def SOp.special : SOp → Bool
 | .call .. => true
 | .eqnilS .. => true
 | .nextM .. => true
 | .appendR .. => true
 | .entryM .. => true
 | _ => false
def St.put (st : St) (dst : Option Nat) (g : Bool) (out : Out) : St :=
 {fr := vo st.fr dst g out.v, os := zq st.os out.wrs, live := qk st.live out, nt := st.nt }
def jb (P : Program) (ops : List SOper) (k : Nat) (tids : List (List Nat)) (K : List (List Nat) → St → Prop) (dst : Option Nat) (st : St) (g : Bool) (out : Out) : Prop :=
 Obl g out st.live ∧ ARun P ops (k + 1) (tids ++ [out.tags]) K (st.put dst g out)
def xo : Option Bool → (Bool → Prop) → Prop
 | some g, F => F g
 | none, _ => False
theorem q7x {P : Program} {k : Nat} {tids : List (List Nat)} {K : List (List Nat) → St → Prop} {st : St} : ARun P [] k tids K st = K tids st := rfl
theorem qv {P : Program} {ops : List SOper} {k : Nat} {tids : List (List Nat)} {K : List (List Nat) → St → Prop} {st : St} {dst : Option Nat} {op : SOp} {gd : Option (Nat × Bool)} (h : op.special = false) :
  ARun P (⟨dst, op, gd⟩ :: ops) k tids K st = xo (gv st.fr gd) fun g => jb P ops k tids K dst st g (sem (16 * (st.nt + k)) op st) := by
 simp only [ARun]
 cases gv st.fr gd with
 | none => rfl
 | some g => cases op <;> first | rfl | (simp [SOp.special] at h)
section
variable {P : Program} {ops : List SOper} {k : Nat} {tids : List (List Nat)} {K : List (List Nat) → St → Prop} {st : St} {dst : Option Nat} {gd : Option (Nat × Bool)}
theorem q7y {x : Opd} : ARun P (⟨dst, .mov x, gd⟩ :: ops) k tids K st = xo (gv st.fr gd) fun g => jb P ops k tids K dst st g (sem (16 * (st.nt + k)) (.mov x) st) := qv rfl
theorem q3y {c a b : Opd} : ARun P (⟨dst, .pick c a b, gd⟩ :: ops) k tids K st = xo (gv st.fr gd) fun g => jb P ops k tids K dst st g (sem (16 * (st.nt + k)) (.pick c a b) st) := qv rfl
theorem q7z {back : Nat} {x : Opd} : ARun P (⟨dst, .box back x, gd⟩ :: ops) k tids K st = xo (gv st.fr gd) fun g => jb P ops k tids K dst st g (sem (16 * (st.nt + k)) (.box back x) st) := qv rfl
theorem q06 {back : Nat} {zero : List ASlot} : ARun P (⟨dst, .alloc back zero, gd⟩ :: ops) k tids K st = xo (gv st.fr gd) fun g => jb P ops k tids K dst st g (sem (16 * (st.nt + k)) (.alloc back zero) st) := qv rfl
theorem q07 {zero : List D} {parts : List (Nat × Nat × Opd)} : ARun P (⟨dst, .build zero parts, gd⟩ :: ops) k tids K st = xo (gv st.fr gd) fun g => jb P ops k tids K dst st g (sem (16 * (st.nt + k)) (.build zero parts) st) := qv rfl
theorem ql9 {u : Bool} {es len : Nat} {zero : List D} {parts : List (Nat × Nat × Opd)} : ARun P (⟨dst, .buildSlice u es len zero parts, gd⟩ :: ops) k tids K st = xo (gv st.fr gd) fun g => jb P ops k tids K dst st g (sem (16 * (st.nt + k)) (.buildSlice u es len zero parts) st) := qv rfl
theorem q3z {n : Option Nat} {x : Opd} : ARun P (⟨dst, .load n x, gd⟩ :: ops) k tids K st = xo (gv st.fr gd) fun g => jb P ops k tids K dst st g (sem (16 * (st.nt + k)) (.load n x) st) := qv rfl
theorem q08 {n : Option Nat} {x v : Opd} : ARun P (⟨dst, .store n x v, gd⟩ :: ops) k tids K st = xo (gv st.fr gd) fun g => jb P ops k tids K dst st g (sem (16 * (st.nt + k)) (.store n x v) st) := qv rfl
theorem qqj {x : Opd} : ARun P (⟨dst, .nilCheck x, gd⟩ :: ops) k tids K st = xo (gv st.fr gd) fun g => jb P ops k tids K dst st g (sem (16 * (st.nt + k)) (.nilCheck x) st) := qv rfl
theorem q70 {op' : BinOp} {x y : Opd} : ARun P (⟨dst, .bin op' x y, gd⟩ :: ops) k tids K st = xo (gv st.fr gd) fun g => jb P ops k tids K dst st g (sem (16 * (st.nt + k)) (.bin op' x y) st) := qv rfl
theorem q71 {neg : Bool} {x y : Opd} : ARun P (⟨dst, .eqb neg x y, gd⟩ :: ops) k tids K st = xo (gv st.fr gd) fun g => jb P ops k tids K dst st g (sem (16 * (st.nt + k)) (.eqb neg x y) st) := qv rfl
theorem q09 {neg : Bool} {k' : NK} {x : Opd} : ARun P (⟨dst, .eqnil neg k' x, gd⟩ :: ops) k tids K st = xo (gv st.fr gd) fun g => jb P ops k tids K dst st g (sem (16 * (st.nt + k)) (.eqnil neg k' x) st) := qv rfl
theorem q1a {neg : Bool} {ks : List CK} {x y : Opd} : ARun P (⟨dst, .eqAgg neg ks x y, gd⟩ :: ops) k tids K st = xo (gv st.fr gd) fun g => jb P ops k tids K dst st g (sem (16 * (st.nt + k)) (.eqAgg neg ks x y) st) := qv rfl
theorem q72 {x : Opd} : ARun P (⟨dst, .not x, gd⟩ :: ops) k tids K st = xo (gv st.fr gd) fun g => jb P ops k tids K dst st g (sem (16 * (st.nt + k)) (.not x) st) := qv rfl
theorem q73 {x : Opd} : ARun P (⟨dst, .neg x, gd⟩ :: ops) k tids K st = xo (gv st.fr gd) fun g => jb P ops k tids K dst st g (sem (16 * (st.nt + k)) (.neg x) st) := qv rfl
theorem q30 {k' : IntKind} {x : Opd} : ARun P (⟨dst, .conv k' x, gd⟩ :: ops) k tids K st = xo (gv st.fr gd) fun g => jb P ops k tids K dst st g (sem (16 * (st.nt + k)) (.conv k' x) st) := qv rfl
theorem q74 {x : Opd} : ARun P (⟨dst, .i2s x, gd⟩ :: ops) k tids K st = xo (gv st.fr gd) fun g => jb P ops k tids K dst st g (sem (16 * (st.nt + k)) (.i2s x) st) := qv rfl
theorem q75 {x : Opd} : ARun P (⟨dst, .b2s x, gd⟩ :: ops) k tids K st = xo (gv st.fr gd) fun g => jb P ops k tids K dst st g (sem (16 * (st.nt + k)) (.b2s x) st) := qv rfl
theorem q76 {x : Opd} : ARun P (⟨dst, .s2b x, gd⟩ :: ops) k tids K st = xo (gv st.fr gd) fun g => jb P ops k tids K dst st g (sem (16 * (st.nt + k)) (.s2b x) st) := qv rfl
theorem qws {fn : Fn} {first captured : List Opd} : ARun P (⟨dst, .mkFunc fn first captured, gd⟩ :: ops) k tids K st = xo (gv st.fr gd) fun g => jb P ops k tids K dst st g (sem (16 * (st.nt + k)) (.mkFunc fn first captured) st) := qv rfl
theorem qn6 {u : Bool} {es bytes : Nat} {zero : List D} {l c : Opd} : ARun P (⟨dst, .makeSlice u es bytes zero l c, gd⟩ :: ops) k tids K st = xo (gv st.fr gd) fun g => jb P ops k tids K dst st g (sem (16 * (st.nt + k)) (.makeSlice u es bytes zero l c) st) := qv rfl
theorem q1b {es : Nat} {x : Opd} {lo hi mx : Option Opd} : ARun P (⟨dst, .slice es x lo hi mx, gd⟩ :: ops) k tids K st = xo (gv st.fr gd) fun g => jb P ops k tids K dst st g (sem (16 * (st.nt + k)) (.slice es x lo hi mx) st) := qv rfl
theorem qwt {len es : Nat} {x : Opd} {lo hi mx : Option Opd} : ARun P (⟨dst, .sliceA len es x lo hi mx, gd⟩ :: ops) k tids K st = xo (gv st.fr gd) fun g => jb P ops k tids K dst st g (sem (16 * (st.nt + k)) (.sliceA len es x lo hi mx) st) := qv rfl
theorem qwu {x : Opd} {lo hi : Option Opd} : ARun P (⟨dst, .sliceS x lo hi, gd⟩ :: ops) k tids K st = xo (gv st.fr gd) fun g => jb P ops k tids K dst st g (sem (16 * (st.nt + k)) (.sliceS x lo hi) st) := qv rfl
theorem q1c {off : Nat} {x : Opd} : ARun P (⟨dst, .faddr off x, gd⟩ :: ops) k tids K st = xo (gv st.fr gd) fun g => jb P ops k tids K dst st g (sem (16 * (st.nt + k)) (.faddr off x) st) := qv rfl
theorem q1d {n : Option Nat} {off : Nat} {x : Opd} : ARun P (⟨dst, .field n off x, gd⟩ :: ops) k tids K st = xo (gv st.fr gd) fun g => jb P ops k tids K dst st g (sem (16 * (st.nt + k)) (.field n off x) st) := qv rfl
theorem q1e {es : Nat} {x i : Opd} : ARun P (⟨dst, .iaddr es x i, gd⟩ :: ops) k tids K st = xo (gv st.fr gd) fun g => jb P ops k tids K dst st g (sem (16 * (st.nt + k)) (.iaddr es x i) st) := qv rfl
theorem qwv {len es : Nat} {x i : Opd} : ARun P (⟨dst, .iaddrA len es x i, gd⟩ :: ops) k tids K st = xo (gv st.fr gd) fun g => jb P ops k tids K dst st g (sem (16 * (st.nt + k)) (.iaddrA len es x i) st) := qv rfl
theorem qww {x i : Opd} : ARun P (⟨dst, .indexS x i, gd⟩ :: ops) k tids K st = xo (gv st.fr gd) fun g => jb P ops k tids K dst st g (sem (16 * (st.nt + k)) (.indexS x i) st) := qv rfl
theorem qwx {len es : Nat} {n : Option Nat} {x i : Opd} : ARun P (⟨dst, .indexA len es n x i, gd⟩ :: ops) k tids K st = xo (gv st.fr gd) fun g => jb P ops k tids K dst st g (sem (16 * (st.nt + k)) (.indexA len es n x i) st) := qv rfl
theorem qti {i : Nat} {x : Opd} : ARun P (⟨dst, .extract i x, gd⟩ :: ops) k tids K st = xo (gv st.fr gd) fun g => jb P ops k tids K dst st g (sem (16 * (st.nt + k)) (.extract i x) st) := qv rfl
theorem q77 {x : Opd} : ARun P (⟨dst, .len x, gd⟩ :: ops) k tids K st = xo (gv st.fr gd) fun g => jb P ops k tids K dst st g (sem (16 * (st.nt + k)) (.len x) st) := qv rfl
theorem q31 {x : Opd} : ARun P (⟨dst, .lenS x, gd⟩ :: ops) k tids K st = xo (gv st.fr gd) fun g => jb P ops k tids K dst st g (sem (16 * (st.nt + k)) (.lenS x) st) := qv rfl
theorem q1f {x : Opd} : ARun P (⟨dst, .asStr x, gd⟩ :: ops) k tids K st = xo (gv st.fr gd) fun g => jb P ops k tids K dst st g (sem (16 * (st.nt + k)) (.asStr x) st) := qv rfl
theorem qwy {u : Bool} {es bytes : Nat} {s x : Opd} : ARun P (⟨dst, .append u es bytes s x, gd⟩ :: ops) k tids K st = xo (gv st.fr gd) fun g => jb P ops k tids K dst st g (sem (16 * (st.nt + k)) (.append u es bytes s x) st) := qv rfl
theorem q32 {es : Nat} {s x : Opd} : ARun P (⟨dst, .copy es s x, gd⟩ :: ops) k tids K st = xo (gv st.fr gd) fun g => jb P ops k tids K dst st g (sem (16 * (st.nt + k)) (.copy es s x) st) := qv rfl
theorem qtj {back : Nat} : ARun P (⟨dst, .makeMap back, gd⟩ :: ops) k tids K st = xo (gv st.fr gd) fun g => jb P ops k tids K dst st g (sem (16 * (st.nt + k)) (.makeMap back) st) := qv rfl
theorem q33 {n : Nat} {x : Opd} : ARun P (⟨dst, .s2ap n x, gd⟩ :: ops) k tids K st = xo (gv st.fr gd) fun g => jb P ops k tids K dst st g (sem (16 * (st.nt + k)) (.s2ap n x) st) := qv rfl
theorem qwz {kd : KD} {z : ASlot} {c : Bool} {x y : Opd} : ARun P (⟨dst, .lookup kd z c x y, gd⟩ :: ops) k tids K st = xo (gv st.fr gd) fun g => jb P ops k tids K dst st g (sem (16 * (st.nt + k)) (.lookup kd z c x y) st) := qv rfl
theorem qn7 {kd : KD} {x y v : Opd} : ARun P (⟨dst, .mapUpdate kd x y v, gd⟩ :: ops) k tids K st = xo (gv st.fr gd) fun g => jb P ops k tids K dst st g (sem (16 * (st.nt + k)) (.mapUpdate kd x y v) st) := qv rfl
theorem qw0 {kd : KD} {x y : Opd} : ARun P (⟨dst, .delete kd x y, gd⟩ :: ops) k tids K st = xo (gv st.fr gd) fun g => jb P ops k tids K dst st g (sem (16 * (st.nt + k)) (.delete kd x y) st) := qv rfl
theorem q34 {x : Opd} : ARun P (⟨dst, .lenM x, gd⟩ :: ops) k tids K st = xo (gv st.fr gd) fun g => jb P ops k tids K dst st g (sem (16 * (st.nt + k)) (.lenM x) st) := qv rfl
theorem qw1 {back : Nat} {x : Opd} : ARun P (⟨dst, .rangeM back x, gd⟩ :: ops) k tids K st = xo (gv st.fr gd) fun g => jb P ops k tids K dst st g (sem (16 * (st.nt + k)) (.rangeM back x) st) := qv rfl
theorem qtk {t : TypeId} {x : Opd} : ARun P (⟨dst, .mkIface t x, gd⟩ :: ops) k tids K st = xo (gv st.fr gd) fun g => jb P ops k tids K dst st g (sem (16 * (st.nt + k)) (.mkIface t x) st) := qv rfl
theorem qtl {t : TypeId} {c : Bool} {x : Opd} : ARun P (⟨dst, .assertT t c x, gd⟩ :: ops) k tids K st = xo (gv st.fr gd) fun g => jb P ops k tids K dst st g (sem (16 * (st.nt + k)) (.assertT t c x) st) := qv rfl
theorem qtm {back es bytes : Nat} {s x : Opd} : ARun P (⟨dst, .appendO back es bytes s x, gd⟩ :: ops) k tids K st = xo (gv st.fr gd) fun g => jb P ops k tids K dst st g (sem (16 * (st.nt + k)) (.appendO back es bytes s x) st) := qv rfl
theorem qw2 {mx : Bool} {x y : Opd} : ARun P (⟨dst, .minmax mx x y, gd⟩ :: ops) k tids K st = xo (gv st.fr gd) fun g => jb P ops k tids K dst st g (sem (16 * (st.nt + k)) (.minmax mx x y) st) := qv rfl
end
theorem q78 {P : Program} {ops : List SOper} {k : Nat} {tids : List (List Nat)} {K : List (List Nat) → St → Prop} {dst : Option Nat} {fr : Fr} {os : List AObj} {live : List Nat} {nt : Nat} {g : Bool} {v : ASlot} {ob : Prop} {rd : Option Nat} :
  jb P ops k tids K dst ⟨fr, os, live, nt⟩ g ⟨v, ob, rd, none, [], [], [], []⟩ = ((g = true → ob) ∧ ARun P ops (k + 1) (tids ++ [rd.toList]) K ⟨vo fr dst g v, os, live, nt⟩) := by
 have hl : qk live (⟨v, ob, rd, none, [], [], [], []⟩ : Out) = live := xa rfl rfl
 simp only [jb, Obl, Out.tags, Out.wrs, St.put, Out.tame, hl]
 simp [zq]
theorem q79 {P : Program} {ops : List SOper} {k : Nat} {tids : List (List Nat)} {K : List (List Nat) → St → Prop} {dst : Option Nat} {fr : Fr} {os : List AObj} {live : List Nat} {nt : Nat} {g : Bool} {v : ASlot} {ob : Prop} {rd : Option Nat} {id : Nat} {o : AObj} :
  jb P ops k tids K dst ⟨fr, os, live, nt⟩ g ⟨v, ob, rd, some (id, o), [], [], [], []⟩ = (g = true ∧ ob ∧ ARun P ops (k + 1) (tids ++ [id :: (1000000 + id) :: rd.toList]) K ⟨vo fr dst g v, os.set id o, live, nt⟩) := by
 have hl : qk live (⟨v, ob, rd, some (id, o), [], [], [], []⟩ : Out) = live := xa rfl rfl
 simp only [jb, Obl, Out.tags, Out.wrs, St.put, Out.tame, hl]
 cases g <;> simp [zq]
theorem q35 {P : Program} {ops : List SOper} {k : Nat} {tids : List (List Nat)} {K : List (List Nat) → St → Prop} {dst : Option Nat} {fr : Fr} {os : List AObj} {live : List Nat} {nt : Nat} {g : Bool} {v : ASlot} {ob : Prop} {rd : Option Nat} {cons : List Nat} {t : Nat} :
  jb P ops k tids K dst ⟨fr, os, live, nt⟩ g ⟨v, ob, rd, none, cons, [t], [], []⟩ = (g = true ∧ ob ∧ (cons.all fun t => live.contains t) = true ∧ ARun P ops (k + 1) (tids ++ [rd.toList]) K ⟨vo fr dst g v, os, (live.filter fun t => !cons.contains t) ++ [t], nt⟩) := by
 have hc : ((cons.all fun t => live.contains t) = true) = (∀ t ∈ cons, t ∈ live) := by simp
 rw [hc]
 simp only [jb, Obl, Out.tags, Out.wrs, St.put, Out.tame, qk]
 cases g <;> simp [and_assoc, zq]
def qiw (P : Program) (ops : List SOper) (k : Nat) (tids : List (List Nat)) (K : List (List Nat) → St → Prop) (dst : Option Nat) (st : St) (g : Bool) (c : Option (FuncId × List ASlot)) (ok : Bool) : Prop :=
 ∃ n as fa r fo fo' ι q, r.toks.length ≤ 16 ∧ (g = true → c = some (n, as) ∧ ok = true ∧ qg P n fa fo r fo' ∧ (P.funcs[n]?).any (fun fn => fn.body.isSome && !(fn.name == "runtime.NumGoroutine")) = true ∧ Fits st.live as fa ι fo.length ∧ ObjFit st.os fo fo' ι ∧ r.toks.Nodup ∧ (q = true → ∀ p ∈ ι.zip (fo'.map (AObj.ren ι)), st.os[p.1]? = some p.2)) ∧
  (g = true ∨ (zd (16 * (st.nt + k)) as fa r fo' ι q).tame) ∧ ARun P ops (k + 1) (tids ++ [(zd (16 * (st.nt + k)) as fa r fo' ι q).tags]) K (st.put dst g (zd (16 * (st.nt + k)) as fa r fo' ι q))
theorem q36 {P : Program} {ops : List SOper} {k : Nat} {tids : List (List Nat)} {K : List (List Nat) → St → Prop} {st : St} {dst : Option Nat} {f : Opd} {args : List Opd} {gd : Option (Nat × Bool)} :
  ARun P (⟨dst, .call f args, gd⟩ :: ops) k tids K st = xo (gv st.fr gd) fun g => qiw P ops k tids K dst st g (qjz st.fr f args) (f.ok st.fr && args.all fun x => x.ok st.fr) := by
 simp only [ARun]
 cases hg : gv st.fr gd with
 | none => rfl
 | some g =>
  simp only [xo, qiw]
  apply propext
  constructor
  ·rintro ⟨n, as, fa, r, fo, fo', ι, q, h1, h2, h3, h4⟩
   exact ⟨n, as, fa, r, fo, fo', ι, q, h1, fun h => ⟨(h2 h).callee, by rw [(h2 h).ok, (h2 h).oks]; rfl, (h2 h).contract, (h2 h).body, (h2 h).fits, (h2 h).objs, (h2 h).nodup, (h2 h).quiet⟩, h3, h4⟩
  ·rintro ⟨n, as, fa, r, fo, fo', ι, q, h1, h2, h3, h4⟩
   refine ⟨n, as, fa, r, fo, fo', ι, q, h1, fun h => ?_, h3, h4⟩
   obtain ⟨q1, q2, q3, q4, q5, q6, q7, q8⟩ := h2 h
   rw [Bool.and_eq_true] at q2
   exact ⟨q1, q2.1, q2.2, q3, q4, q5, q6, q7, h1, q8⟩
theorem qix {r : ASlot} (hr : r.toks = []) (b : Nat) : qan b r = r := by
 have hren : ∀ (b : Nat) (s : ASlot), s.toks = [] → renT [] b s = s := by
  intro b s hs
  cases s <;> first | rfl | (simp [ASlot.toks] at hs)
 cases r with
 | tup l =>
  simp only [qan, hr, ASlot.tup.injEq]
  have : ∀ s ∈ l, renT [] b s = s := fun s hs => by
   cases s with
   | own t es rows => simp only [ASlot.toks, List.flatMap_eq_nil_iff] at hr; have := hr _ hs; simp [yy] at this
   | uni t es rows => simp only [ASlot.toks, List.flatMap_eq_nil_iff] at hr; have := hr _ hs; simp [yy] at this
   | _ => rfl
  rw [List.map_congr_left this, List.map_id']
 | own t es rows => simp [ASlot.toks] at hr
 | uni t es rows => simp [ASlot.toks] at hr
 | _ => rfl
mutual
theorem qj4 {s : ASlot} (k : Nat) (h : s.noPtr = true) : s.inK k = true := by
 cases s with
 | d x => exact D.inK_noPtr k h
 | own t es rows => exact D.inKR_noPtr k h
 | uni t es rows => exact D.inKR_noPtr k h
 | full es rows => exact D.inKR_noPtr k h
 | rd cs => exact D.inKL_noPtr k h
 | _ => simp [ASlot.noPtr] at h
end
theorem qow (os : List AObj) : ObjFit os [] [] [] := ⟨List.nodup_nil, rfl, Nat.le_refl _, trivial, by simp, rfl, by simp⟩
theorem qma (l : List ASlot) : l.map (ASlot.ren []) = l := by
 have : ASlot.ren [] = id := by funext s; rfl
 rw [this, List.map_id]
theorem xr {P : Program} {ops : List SOper} {k : Nat} {tids : List (List Nat)} {K : List (List Nat) → St → Prop} {fr : Fr} {os : List AObj} {live : List Nat} {nt : Nat} {dst : Option Nat} {g ok : Bool} {n : FuncId} {fa as : List ASlot} {r : ASlot}
  (hc : qg P n fa [] r []) (hb : (P.funcs[n]?).any (fun fn => fn.body.isSome && !(fn.name == "runtime.NumGoroutine")) = true) (ho : g = true → ok = true)
  (hfit : g = true → w7 as fa) (hnp : fa.all ASlot.noPtr = true) (hh : xd as fa = []) (hr : r.toks = [])
  (hK : ARun P ops (k + 1) (tids ++ [[]]) K ⟨vo fr dst g r, os, live, nt⟩) :
  qiw P ops k tids K dst ⟨fr, os, live, nt⟩ g (some (n, as)) ok := by
 have hre := qix hr
 have hput : St.put (⟨fr, os, live, nt⟩ : St) dst g (zd (16 * (nt + k)) as fa r [] [] false) = ⟨vo fr dst g r, os, live, nt⟩ := by
  simp only [St.put, zd, Out.wrs, hre, qk, hh, hr]
  simp [zq, ASlot.ren]
 refine ⟨n, as, fa, r, [], [], [], false, by rw [hr]; simp, fun h => ⟨rfl, ho h, hc, hb, ⟨by rw [qma]; exact hfit h, List.all_eq_true.2 fun s hs => qj4 _ (List.all_eq_true.1 hnp s hs), by rw [hh]; simp, by rw [hh]; simp⟩, qow _, by rw [hr]; simp, (nomatch ·)⟩, .inr ⟨by simp [zd, Out.wrs], by simp [zd, hh], by simp [zd, hre, hr]⟩, ?_⟩
 rw [hput]
 exact hK
theorem qac {P : Program} {ops : List SOper} {k : Nat} {tids : List (List Nat)} {K : List (List Nat) → St → Prop} {fr : Fr} {os : List AObj} {live : List Nat} {nt : Nat} {dst : Option Nat} {g ok : Bool} {c : Option (FuncId × List ASlot)} (x : D)
  (hg : g = false) (hK : ARun P ops (k + 1) (tids ++ [[]]) K ⟨vo fr dst g (.d x), os, live, nt⟩) : qiw P ops k tids K dst ⟨fr, os, live, nt⟩ g c ok := by
 subst hg
 refine ⟨0, [], [], .d x, [], [], [], false, by simp [ASlot.toks], fun h => (by cases h), .inr ⟨rfl, rfl, rfl⟩, ?_⟩
 have : St.put (⟨fr, os, live, nt⟩ : St) dst false (zd (16 * (nt + k)) [] [] (.d x) [] [] false) = ⟨vo fr dst false (.d x), os, live, nt⟩ := by
  simp [St.put, zd, Out.wrs, qan, renT, qk, xd, ASlot.toks, zq, ASlot.ren]
 rw [this]
 exact hK
theorem xcp {s : ASlot} : ASlot.ren [] s = s := rfl
theorem xge {i : Nat} {ι : List Nat} {x : D} : ASlot.ren (i :: ι) (.d x) = .d (x.ren (i :: ι)) := rfl
theorem xcq {i : Nat} {ι : List Nat} {t es : Nat} {rows : List (List D)} : ASlot.ren (i :: ι) (.own t es rows) = .own t es (D.renR (i :: ι) rows) := rfl
theorem q8a {i : Nat} {ι : List Nat} {es : Nat} {rows : List (List D)} : ASlot.ren (i :: ι) (.full es rows) = .full es (D.renR (i :: ι) rows) := rfl
theorem xen {i : Nat} {ι : List Nat} {cs : List D} : ASlot.ren (i :: ι) (.rd cs) = .rd (D.renL (i :: ι) cs) := rfl
theorem xcr {i : Nat} {ι : List Nat} {l : List ASlot} : ASlot.ren (i :: ι) (.tup l) = .tup (l.map (ASlot.ren1 (i :: ι))) := rfl
theorem xcs {i : Nat} {ι : List Nat} : ASlot.ren (i :: ι) .bad = .bad := rfl
def isNone (os : List AObj) (id : Nat) : Bool := match os[id]? with | some .none => true | _ => false
def qev : List ASlot → Bool
 | [] => true
 | s :: l => s.toks.isEmpty && qev l
theorem qiy : ∀ (l : List ASlot), qev l = true ↔ ∀ s ∈ l, s.toks = []
 | [] => by simp [qev]
 | s :: l => by simp [qev, qiy l]
theorem q37 {P : Program} {ops : List SOper} {k : Nat} {tids : List (List Nat)} {K : List (List Nat) → St → Prop} {fr : Fr} {os : List AObj} {live : List Nat} {nt : Nat} {dst : Option Nat} {ok : Bool} {n : FuncId} {fa as : List ASlot} {r : ASlot} {fo fo' : List AObj} (ι : List Nat)
  (hc : qg P n fa fo r fo') (hb : (P.funcs[n]?).any (fun fn => fn.body.isSome && !(fn.name == "runtime.NumGoroutine")) = true) (ho : ok = true)
  (hfit : w7 as (fa.map (ASlot.ren ι))) (hin : fa.all (ASlot.inK fo.length) = true) (hh : xd as fa = []) (hr : r.toks = [])
  (hnd : ι.Nodup) (hlen : ι.length = fo'.length) (hle : fo.length ≤ fo'.length) (hold : qcq ι os ι fo) (hnew : (ι.drop fo.length).all (isNone os) = true) (hik : fo.all (AObj.inK fo.length) = true) (htk : (fo'.all fun o => qev o.cells) = true)
  (hK : ARun P ops (k + 1) (tids ++ [ι ++ ι.map fun i => 1000000 + i]) K ⟨vo fr dst true (r.ren ι), zq os (ι.zip (fo'.map (AObj.ren ι))), live, nt⟩) :
  qiw P ops k tids K dst ⟨fr, os, live, nt⟩ true (some (n, as)) ok := by
 have hre := qix hr
 have hput : St.put (⟨fr, os, live, nt⟩ : St) dst true (zd (16 * (nt + k)) as fa r fo' ι false) = ⟨vo fr dst true (r.ren ι), zq os (ι.zip (fo'.map (AObj.ren ι))), live, nt⟩ := by
  simp only [St.put, zd, Out.wrs, hre, qk, hh, hr, cond_false]
  simp
 have hto : (zd (16 * (nt + k)) as fa r fo' ι false).tags = ι ++ ι.map (fun i => 1000000 + i) := by
  simp only [Out.tags, Out.wrs, zd, cond_false]
  have : (ι.zip (fo'.map (AObj.ren ι))).map (·.1) = ι := by
   rw [List.map_fst_zip (by rw [List.length_map]; omega)]
  have h2 : (ι.zip (fo'.map (AObj.ren ι))).map (fun p => 1000000 + p.1) = ι.map fun i => 1000000 + i := by
   rw [← this, List.map_map]; rw [this]; rfl
  simp [this, h2]
 refine ⟨n, as, fa, r, fo, fo', ι, false, by rw [hr]; simp, fun _ => ⟨rfl, ho, hc, hb, ⟨hfit, hin, by rw [hh]; simp, by rw [hh]; simp⟩, ⟨hnd, hlen, hle, hold, fun id hid => ?_, hik, fun o ho' => (qiy _).1 (List.all_eq_true.1 htk o ho')⟩, by rw [hr]; simp, (nomatch ·)⟩, .inl rfl, ?_⟩
 ·have := List.all_eq_true.1 hnew id hid
  unfold isNone at this
  split at this
  ·rename_i h; exact h
  ·cases this
 ·rw [hto, hput]
  exact hK
def nilO (P : Program) (ops : List SOper) (k : Nat) (tids : List (List Nat)) (K : List (List Nat) → St → Prop) (dst : Option Nat) (st : St) (g neg ok : Bool) (s : ASlot) : Prop :=
 g = true ∧ ok = true ∧ ∃ es rows, s.rows = some (es, rows) ∧ ∀ b : Bool, (b = true → rows = []) → ARun P ops (k + 1) (tids ++ [[]]) K ⟨vo st.fr dst true (.d (.bool (if neg = true then !b else b))), st.os, st.live, st.nt⟩
theorem qw3 {P : Program} {ops : List SOper} {k : Nat} {tids : List (List Nat)} {K : List (List Nat) → St → Prop} {st : St} {dst : Option Nat} {neg : Bool} {x : Opd} {gd : Option (Nat × Bool)} :
  ARun P (⟨dst, .eqnilS neg x, gd⟩ :: ops) k tids K st = xo (gv st.fr gd) fun g => nilO P ops k tids K dst st g neg (x.ok st.fr) (x.get st.fr) := by
 simp only [ARun]
 cases gv st.fr gd with
 | none => rfl
 | some g =>
  cases g with
  | false => simp [xo, nilO]
  | true =>
   have hn : ∀ b, st.next ⟨dst, .eqnilS neg x, gd⟩ true (qoo neg b) = ⟨vo st.fr dst true (.d (.bool (if neg = true then !b else b))), st.os, st.live, st.nt⟩ := by
    intro b
    have hl : qk st.live (qoo neg b) = st.live := xa rfl rfl
    simp only [St.next, hl]
    rfl
   simp only [xo, nilO, hn]
def q8b (P : Program) (ops : List SOper) (k : Nat) (tids : List (List Nat)) (K : List (List Nat) → St → Prop) (dst : Option Nat) (st : St) (g ok : Bool) (s : ASlot) : Prop :=
 g = true ∧ ok = true ∧ ∃ iid, s = .d (.ptr iid 0) ∧
  ((∃ since seen last, st.os[iid]? = some (.iter (.d .nilmap) since seen last) ∧ ARun P ops (k + 1) (tids ++ [[]]) K ⟨vo st.fr dst true qly, st.os, st.live, st.nt⟩) ∨
   ∃ mid since seen last es clock, IterOn st.os iid mid since seen last es clock ∧ (qdo es seen = [] → ARun P ops (k + 1) (tids ++ [[]]) K ⟨vo st.fr dst true qly, st.os, st.live, st.nt⟩) ∧
    ∀ e ∈ qdo es seen, ARun P ops (k + 1) (tids ++ [[]]) K ⟨vo st.fr dst true (entV e), st.os.set iid (.iter (.d (.map mid)) since (seen ++ [e.1]) clock), st.live, st.nt⟩)
theorem q1h {P : Program} {ops : List SOper} {k : Nat} {tids : List (List Nat)} {K : List (List Nat) → St → Prop} {st : St} {dst : Option Nat} {x : Opd} {gd : Option (Nat × Bool)} :
  ARun P (⟨dst, .nextM x, gd⟩ :: ops) k tids K st = xo (gv st.fr gd) fun g => q8b P ops k tids K dst st g (x.ok st.fr) (x.get st.fr) := by
 simp only [ARun]
 cases gv st.fr gd with
 | none => rfl
 | some g =>
  cases g with
  | false => simp [xo, q8b]
  | true =>
   have h1 : st.next ⟨dst, .nextM x, gd⟩ true qdt = ⟨vo st.fr dst true qly, st.os, st.live, st.nt⟩ := by
    have hl : qk st.live qdt = st.live := xa rfl rfl
    simp only [St.next, hl]
    rfl
   have h2 : ∀ iid mid since seen clock e, st.next ⟨dst, .nextM x, gd⟩ true (ql1 iid mid since seen clock e) = ⟨vo st.fr dst true (entV e), st.os.set iid (.iter (.d (.map mid)) since (seen ++ [e.1]) clock), st.live, st.nt⟩ := by
    intro iid mid since seen clock e
    have hl : qk st.live (ql1 iid mid since seen clock e) = st.live := xa rfl rfl
    simp only [St.next, hl]
    rfl
   simp only [xo, q8b, h1, h2]
theorem q8c {P : Program} {ops : List SOper} {k : Nat} {tids : List (List Nat)} {K : List (List Nat) → St → Prop} {fr : Fr} {os : List AObj} {live : List Nat} {nt : Nat} {dst : Option Nat} {ok : Bool} {iid mid since last clock : Nat} {seen : List Nat} {es : Ents}
  (h : IterOn os iid mid since seen last es clock) (h1 : qdo es seen = [] → ARun P ops (k + 1) (tids ++ [[]]) K ⟨vo fr dst true qly, os, live, nt⟩)
  (h2 : ∀ e ∈ qdo es seen, ARun P ops (k + 1) (tids ++ [[]]) K ⟨vo fr dst true (entV e), os.set iid (.iter (.d (.map mid)) since (seen ++ [e.1]) clock), live, nt⟩) (ho : ok = true := by rfl) :
  q8b P ops k tids K dst ⟨fr, os, live, nt⟩ true ok (.d (.ptr iid 0)) := ⟨rfl, ho, iid, rfl, .inr ⟨mid, since, seen, last, es, clock, h, h1, h2⟩⟩
def q8d (P : Program) (ops : List SOper) (k : Nat) (tids : List (List Nat)) (K : List (List Nat) → St → Prop) (dst : Option Nat) (st : St) (g : Bool) (back es bytes : Nat) (s x : Opd) : Prop :=
 g = true ∧ (((sem (16 * (st.nt + k)) (.appendO back es bytes s x) st).ob ∧ ARun P ops (k + 1) (tids ++ [[]]) K (st.next ⟨dst, .appendR back es bytes s x, none⟩ true (sem (16 * (st.nt + k)) (.appendO back es bytes s x) st))) ∨
     (s.ok st.fr = true ∧ x.ok st.fr = true ∧ ∃ id n r, s.get st.fr = .d (.ref id 0 es n) ∧ wj es st.os (x.get st.fr) = some r ∧ AppR st.os es bytes back id n r ∧
      ARun P ops (k + 1) (tids ++ [[]]) K (st.next ⟨dst, .appendR back es bytes s x, none⟩ true (ql2 id id es n st.os r)) ∧ ARun P ops (k + 1) (tids ++ [[]]) K (st.next ⟨dst, .appendR back es bytes s x, none⟩ true (ql2 id (st.os.length - back) es n st.os r))))
theorem qtn {P : Program} {ops : List SOper} {k : Nat} {tids : List (List Nat)} {K : List (List Nat) → St → Prop} {st : St} {dst : Option Nat} {back es bytes : Nat} {s x : Opd} {gd : Option (Nat × Bool)} :
  ARun P (⟨dst, .appendR back es bytes s x, gd⟩ :: ops) k tids K st = xo (gv st.fr gd) fun g => q8d P ops k tids K dst st g back es bytes s x := by
 simp only [ARun]
 cases gv st.fr gd with
 | none => rfl
 | some g =>
  cases g with
  | false => simp [xo, q8d]
  | true => rfl
def qy2 (P : Program) (ops : List SOper) (k : Nat) (tids : List (List Nat)) (K : List (List Nat) → St → Prop) (dst : Option Nat) (st : St) (g ok : Bool) (s : ASlot) : Prop :=
 g = true ∧ ok = true ∧ ∃ iid mid since seen clock es e, s = .d (.ptr iid 0) ∧ EntryOn st.os iid mid since seen clock es e ∧ ARun P ops (k + 1) (tids ++ [[]]) K ⟨vo st.fr dst true (.tup [.d e.2.1, .d e.2.2]), st.os, st.live, st.nt⟩
theorem qw4 {P : Program} {ops : List SOper} {k : Nat} {tids : List (List Nat)} {K : List (List Nat) → St → Prop} {st : St} {dst : Option Nat} {x : Opd} {gd : Option (Nat × Bool)} :
  ARun P (⟨dst, .entryM x, gd⟩ :: ops) k tids K st = xo (gv st.fr gd) fun g => qy2 P ops k tids K dst st g (x.ok st.fr) (x.get st.fr) := by
 simp only [ARun]
 cases gv st.fr gd with
 | none => rfl
 | some g =>
  cases g with
  | false => simp [xo, qy2]
  | true =>
   have h1 : ∀ e, st.next ⟨dst, .entryM x, gd⟩ true (qdu e) = ⟨vo st.fr dst true (.tup [.d e.2.1, .d e.2.2]), st.os, st.live, st.nt⟩ := by
    intro e
    have hl : qk st.live (qdu e) = st.live := xa rfl rfl
    simp only [St.next, hl]
    rfl
   simp only [xo, qy2, h1]
theorem q38 {P : Program} {ops : List SOper} {k : Nat} {tids : List (List Nat)} {K : List (List Nat) → St → Prop} {fr : Fr} {os : List AObj} {live : List Nat} {nt : Nat} {dst : Option Nat} {ok : Bool} {iid mid since clock : Nat} {seen : List Nat} {es : Ents} {e : Nat × D × D}
  (h : EntryOn os iid mid since seen clock es e) (h1 : ARun P ops (k + 1) (tids ++ [[]]) K ⟨vo fr dst true (.tup [.d e.2.1, .d e.2.2]), os, live, nt⟩) (ho : ok = true := by rfl) :
  qy2 P ops k tids K dst ⟨fr, os, live, nt⟩ true ok (.d (.ptr iid 0)) := ⟨rfl, ho, iid, mid, since, seen, clock, es, e, rfl, h, h1⟩
theorem qw5 {P : Program} {ops : List SOper} {k : Nat} {tids : List (List Nat)} {K : List (List Nat) → St → Prop} {fr : Fr} {os : List AObj} {live : List Nat} {nt : Nat} {dst : Option Nat} {neg ok : Bool} {s : ASlot} {es : Nat} {rows : List (List D)}
  (ho : ok = true) (hr : s.rows = some (es, rows)) (h : ∀ b : Bool, (b = true → rows = []) → ARun P ops (k + 1) (tids ++ [[]]) K ⟨vo fr dst true (.d (.bool (if neg = true then !b else b))), os, live, nt⟩) :
  nilO P ops k tids K dst ⟨fr, os, live, nt⟩ true neg ok s := ⟨rfl, ho, es, rows, hr, h⟩
structure Fits0 (live : List Nat) (as fa : List ASlot) : Prop where
 all : w7 as fa
 noPtr : fa.all ASlot.noPtr = true
 lv : ∀ p ∈ xd as fa, p.1 ∈ live
 nd1 : ((xd as fa).map (·.1)).Nodup
theorem qmb {P : Program} {ops : List SOper} {k : Nat} {tids : List (List Nat)} {K : List (List Nat) → St → Prop} {fr : Fr} {os : List AObj} {live : List Nat} {nt : Nat} {dst : Option Nat} {ok : Bool} {n : FuncId} {fa as : List ASlot} {r : ASlot}
  (hc : qg P n fa [] r []) (hb : (P.funcs[n]?).any (fun fn => fn.body.isSome && !(fn.name == "runtime.NumGoroutine")) = true) (ho : ok = true)
  (hfit : Fits0 live as fa) (hnd : r.toks.Nodup) (hfew : r.toks.length ≤ 16)
  (hK : ARun P ops (k + 1) (tids ++ [[]]) K ⟨vo fr dst true (qan (16 * (nt + k)) r), os, (live.filter fun t => !((xd as fa).map (·.1)).contains t) ++ (qan (16 * (nt + k)) r).toks, nt⟩) :
  qiw P ops k tids K dst ⟨fr, os, live, nt⟩ true (some (n, as)) ok :=
 ⟨n, as, fa, r, [], [], [], false, hfew, fun _ => ⟨rfl, ho, hc, hb, ⟨by rw [qma]; exact hfit.all, List.all_eq_true.2 fun s hs => qj4 _ (List.all_eq_true.1 hfit.noPtr s hs), hfit.lv, hfit.nd1⟩, qow _, hnd, (nomatch ·)⟩, .inl rfl, hK⟩
theorem qs {P : Program} {k0 : Nat} {c : Opd} {x y : SCode} {Q : SExit → St → Prop} {st : St} (t : Bool) (h1 : c.ok st.fr = true) (h2 : c.get st.fr = .d (.bool t)) (hx : t = true → AWp P k0 x Q st) (hy : t = false → AWp P k0 y Q st) : AWp P k0 (.cond c x y) Q st :=
 ⟨t, ⟨h1, h2⟩, hx, hy⟩
theorem xct {P : Program} {k0 : Nat} {a b : SCode} {Q : SExit → St → Prop} {st : St} : AWp P k0 (.seq a b) Q st = AWp P k0 a (qhm (AWp P k0 b Q) Q) st := rfl
theorem q8e {P : Program} {k0 : Nat} {Q : SExit → St → Prop} {st : St} : AWp P k0 .skip Q st = Q .normal st := rfl
theorem q39 {P : Program} {k0 id : Nat} {a : SCode} {Q : SExit → St → Prop} {st : St} : AWp P k0 (.block id a) Q st = AWp P k0 a (qtg id Q) st := rfl
theorem q8f {P : Program} {k0 id : Nat} {Q : SExit → St → Prop} {st : St} : AWp P k0 (.exit id) Q st = Q (.exit id) st := rfl
theorem xcu {P : Program} {k0 : Nat} {Q : SExit → St → Prop} {st : St} : AWp P k0 .ret Q st = Q .ret st := rfl
def disj : List Nat → List Nat → Bool
 | [], _ => true
 | i :: l, r => !r.contains i && disj l r
theorem qqk : ∀ (l r : List Nat), disj l r = true ↔ ∀ i ∈ l, i ∉ r
 | [], r => by simp [disj]
 | i :: l, r => by simp [disj, qqk l r]
theorem q8g {l : List Nat} : disj l [] = true := (qqk l []).2 (by simp)
theorem qto {p : Nat × Nat} {ps : List (Nat × Nat)} {tids : List (List Nat)} : qc0 (p :: ps) tids = (disj (tids.getD p.1 []) (tids.getD p.2 []) = true ∧ qc0 ps tids) := by
 rw [qqk]
 apply propext
 simp only [qc0, List.forall_mem_cons]
theorem qw6 {tids : List (List Nat)} : qc0 [] tids = True := by simp [qc0]
theorem St.bump_mk {fr : Fr} {os : List AObj} {live : List Nat} {nt n : Nat} : (⟨fr, os, live, nt⟩ : St).bump n = ⟨fr, os, live, nt + n⟩ := rfl
theorem q8h (c a : Bool) : (if c = true then a else false) = (c && a) := by cases c <;> rfl
theorem xcv (c b : Bool) : (if c = true then true else b) = (c || b) := by cases c <;> rfl
theorem xeo (b : Bool) : (b == true) = b := by cases b <;> rfl
theorem xep (b : Bool) : (b == false) = !b := by cases b <;> rfl
def qox : List Nat → Bool
 | [] => true
 | t :: l => !l.contains t && qox l
theorem qoy : ∀ (l : List Nat), qox l = true ↔ l.Nodup
 | [] => by simp [qox]
 | t :: l => by simp [qox, qoy l]
def q8i (live live' : List Nat) (ps : List (Nat × Nat)) : Bool := ps.all fun p => !live'.contains p.2 || live.contains p.1
def ltB (n : Nat) (l : List Nat) : Bool := l.all fun t => decide (t < n)
theorem q8j {k0 : Nat} {fr fr' : Fr} {os os' : List AObj} {live live' : List Nat} {nt nt' : Nat} : Weak k0 ⟨fr, os, live, nt⟩ ⟨fr', os', live', nt'⟩ ↔
  frW (wt os') fr fr' ∧ osW (wt os') os os' ∧ q8i live live' (qas fr fr' ++ vq os os') = true ∧ qox ((qas fr fr' ++ vq os os').map (·.1)) = true ∧ qdv k0 os os' ∧
  ltB (16 * nt') (live' ++ qf6 fr' ++ qc8 os') = true := by
 have h1 : q8i live live' (qas fr fr' ++ vq os os') = true ↔ ∀ p ∈ qas fr fr' ++ vq os os', p.2 ∈ live' → p.1 ∈ live := by
  simp only [q8i, List.all_eq_true, Bool.or_eq_true, Bool.not_eq_true', List.contains_iff_mem, ← Bool.not_eq_true]
  exact ⟨fun h p hp hl => (h p hp).resolve_left (fun hn => hn hl), fun h p hp => by by_cases hl : p.2 ∈ live' <;> simp [hl, h p hp]⟩
 have h2 : ltB (16 * nt') (live' ++ qf6 fr' ++ qc8 os') = true ↔ ∀ t ∈ live' ++ qf6 fr' ++ qc8 os', t < 16 * nt' := by
  simp only [ltB, List.all_eq_true, decide_eq_true_eq]
 rw [h1, h2, qoy]
 exact ⟨fun h => ⟨h.fr, h.os, h.live, h.nd, h.base, h.wf⟩, fun h => ⟨h.1, h.2.1, h.2.2.1, h.2.2.2.1, h.2.2.2.2.1, h.2.2.2.2.2⟩⟩
theorem xcw {keep : Nat → Bool} {os : List AObj} : osW keep os [] = True := by cases os with | nil => rfl | cons o l => cases o <;> rfl
theorem q8k {keep : Nat → Bool} {o : AObj} {l l' : List AObj} : osW keep (o :: l) (.none :: l') = osW keep l l' := by cases o <;> rfl
theorem qw7 {os : List AObj} : vq os [] = [] := by cases os with | nil => rfl | cons o l => cases o <;> rfl
theorem qtp {o : AObj} {l l' : List AObj} : vq (o :: l) (.none :: l') = vq l l' := by cases o <;> rfl
theorem xcx {keep : Nat → Bool} {cs : List ASlot} : csW keep cs [] = True := by cases cs <;> rfl
theorem qw8 {cs : List ASlot} : qc1 cs [] = [] := by cases cs <;> rfl
theorem qql {os os' : List AObj} : qdv 0 os os' = True := by simp [qdv]
theorem xcy {keep : Nat → Bool} {s : ASlot} {x : D} : qbq keep s (.d x) = (s.eqvD x ∧ x.okW keep = true) := by cases s <;> rfl
theorem q4a {keep : Nat → Bool} {s : ASlot} : qbq keep s .bad = True := by cases s <;> rfl
theorem q4b {s : ASlot} {x : D} : j0 s (.d x) = [] := by cases s <;> rfl
theorem qtq {s : ASlot} {es : Nat} {rows : List (List D)} : j0 s (.full es rows) = [] := by cases s <;> rfl
theorem qw9 {s : ASlot} : j0 s .bad = [] := by cases s <;> rfl
theorem q1i {s : ASlot} {cs : List D} : j0 s (.rd cs) = [] := by cases s <;> rfl
theorem qxa {t t' es es' : Nat} {r r' : List (List D)} : j0 (.own t es r) (.own t' es' r') = [(t, t')] := rfl
def qiz (st : St) : List RVar → Prop
 | [] => True
 | r :: l => r.good st ∧ qiz st l
theorem qmc {st : St} : ∀ (l : List RVar), qiz st l ↔ ∀ r ∈ l, r.good st
 | [] => by simp [qiz]
 | r :: l => by simp [qiz, qmc l]
theorem qmd {α : Type} {x : α} {p : α → Prop} : (∀ y ∈ some x, p y) = p x := by simp
theorem qme {α : Type} {p : α → Prop} : (∀ y ∈ (none : Option α), p y) = True := by simp
theorem q8l {k0 : Nat} {rvs : List RVar} {rs : List ASlot} {objs : List AObj} {fr : Fr} {os : List AObj} {live : List Nat} {nt : Nat} :
  q7v k0 rvs rs objs ⟨fr, os, live, nt⟩ = (qiz ⟨fr, os, live, nt⟩ rvs ∧ Weak k0 ⟨yg (rvs.map (RVar.slot ⟨fr, os, live, nt⟩)) 0, os, live, nt⟩ ⟨yg rs 0, objs, v5 rs, 1⟩) := by rw [qmc]; rfl
def xgf {α : Type} (k0 : Nat) (S : α → St) (μ : α → Nat) (x : α) (st' : St) : Prop := ∃ y, Weak k0 st' (S y) ∧ μ y < μ x
theorem qj {α : Type} {P : Program} {k0 : Nat} {a : SCode} {Q : SExit → St → Prop} {st : St} (S : α → St) (μ : α → Nat) (x0 : α) (h0 : Weak k0 st (S x0))
  (h : ∀ x, AWp P k0 a (qhm (xgf k0 S μ x) Q) (S x)) : AWp P k0 (.loop a) Q st :=
 ⟨α, S, μ, x0, .weak h0 (.refl _), fun x => AWp.mono a (qfi (fun _ ⟨y, h1, h2⟩ => ⟨y, .weak h1 (.refl _), h2⟩) (fun _ _ h => h)) (h x)⟩
theorem q4c {keep : Nat → Bool} {t t' es es' : Nat} {r r' : List (List D)} : qbq keep (.own t es r) (.own t' es' r') = ((es = es' ∧ D.eqvR r r') ∧ D.noPtrR r' = true) := rfl
theorem qn8 {keep : Nat → Bool} {t' es es' : Nat} {r r' : List (List D)} : qbq keep (.full es r) (.own t' es' r') = (wl es r es' r' ∧ D.noPtrR r' = true) := rfl
theorem q1j {keep : Nat → Bool} {es es' : Nat} {r r' : List (List D)} : qbq keep (.full es r) (.full es' r') = (wl es r es' r' ∧ D.noPtrR r' = true) := rfl
theorem q8m {keep : Nat → Bool} {r r' : List D} : qbq keep (.rd r) (.rd r') = (D.eqvL r r' ∧ D.noPtrL r' = true) := rfl
theorem xcz {keep : Nat → Bool} {cs cs' : List ASlot} {l l' : List AObj} : osW keep (.row cs :: l) (.row cs' :: l') = (csW keep cs cs' ∧ osW keep l l') := rfl
theorem qxb {cs cs' : List ASlot} {l l' : List AObj} : vq (.row cs :: l) (.row cs' :: l') = qc1 cs cs' ++ vq l l' := rfl
theorem q8n {keep : Nat → Bool} {s s' : ASlot} {l l' : List ASlot} : csW keep (s :: l) (s' :: l') = (qbq keep s s' ∧ csW keep l l') := rfl
theorem qtr {s s' : ASlot} {l l' : List ASlot} : qc1 (s :: l) (s' :: l') = j0 s s' ++ qc1 l l' := rfl
theorem qqm {n : Nat} : ((n : Int) + 1).toNat = n + 1 := by omega
theorem qts {α β : Type} {f : α → β} {l : List α} : (l.map f).take l.length = l.map f := by rw [List.take_of_length_le (by simp)]
theorem D.default_eq : (default : D) = .int default default := rfl
theorem qqn {keep : Nat → Bool} {t' es' : Nat} {r' : List (List D)} : qbq keep (.d .nilsl) (.own t' es' r') = (r' = []) := rfl
theorem qn9 {keep : Nat → Bool} {es' : Nat} {r' : List (List D)} : qbq keep (.d .nilsl) (.full es' r') = (r' = []) := rfl
theorem qqo {x : D} {t' es' : Nat} {r' : List (List D)} : j0 (.d x) (.own t' es' r') = [] := rfl
theorem qoa {t' es' : Nat} {r' : List (List D)} : qab (.d .nilsl) (.own t' es' r') = (r' = []) := rfl
theorem qmf {es' : Nat} {r' : List (List D)} : qab (.d .nilsl) (.full es' r') = (r' = []) := rfl
theorem q8o {es' : Nat} {r' : List (List D)} : D.eqv .nilsl (.sl es' r') = (r' = []) := by simp [D.eqv]
theorem qkn {t' es es' : Nat} {r r' : List (List D)} : j0 (.full es r) (.own t' es' r') = [] := rfl
theorem q4d (t : Nat) : [t].Nodup = True := by simp
theorem qq {α β : Type} (f : α → β) (l : List α) {i : Nat} (h : i < l.length) (d : β) : (l.map f).getD i d = f l[i] := by simp [List.getD, h]
theorem xz {α : Type} {f : α → List D} (h : ∀ x, D.noPtrL (f x) = true) (l : List α) : D.noPtrR (l.map f) = true := by
 induction l with
 | nil => rfl
 | cons x l ih => simp [D.noPtrR, h, ih]
theorem qdx {α β : Type} (f : α → β) (l : List α) {i : Nat} (h : i < l.length) : (l.take (i + 1)).map f = (l.take i).map f ++ [f l[i]] := by
 rw [List.take_succ_eq_append_getElem h, List.map_append]; rfl
theorem ya : ∀ (a b : List D), D.noPtrL (a ++ b) = (D.noPtrL a && D.noPtrL b)
 | [], b => by simp [D.noPtrL]
 | x :: a, b => by simp [D.noPtrL, ya a b, Bool.and_assoc]
theorem qhn : ∀ (a b : List (List D)), D.noPtrR (a ++ b) = (D.noPtrR a && D.noPtrR b)
 | [], b => by simp [D.noPtrR]
 | x :: a, b => by simp [D.noPtrR, qhn a b, Bool.and_assoc]
theorem wrap_i64 {n : Int} (h1 : -9223372036854775808 ≤ n) (h2 : n ≤ 9223372036854775807) : IntKind.i64.wrap n = n := IntWalk.i64_in n ⟨h1, h2⟩
theorem qi {n : Nat} (h : n < 9223372036854775807) : IntKind.i64.wrap ((n : Int) + 1) = ((n + 1 : Nat) : Int) := by
 rw [wrap_i64 (by omega) (by omega)]; rfl
theorem qqp {k : Nat} {o o' : AObj} {os os' : List AObj} : qdv (k + 1) (o :: os) (o' :: os') = ((wt [o] 0 = true → wt [o'] 0 = true) ∧ qdv k os os') := by
 apply propext
 simp only [qdv]
 constructor
 ·intro h
  refine ⟨fun h0 => ?_, fun id hid hk => ?_⟩
  ·exact h 0 (by omega) h0
  ·exact h (id + 1) (by omega) hk
 ·rintro ⟨h1, h2⟩ id hid hk
  cases id with
  | zero => exact h1 hk
  | succ id => exact h2 id (by omega) hk
theorem qy3 {P : Program} {mu : List Nat} {news : List (FuncId × Nat)} {f : FuncId} {fn : Func} {sc : SCode} {args rs : List ASlot} {rvs : List RVar} {objs objs' : List AObj} (hm : P.follows .mixedOrders = true) (hf : P.funcs[f]? = some fn)
  (hc : fn.body.bind (x9 P mu fn.ntmps news) = some sc.erase) (hr : fn.results.toList.mapM (qet P) = some rvs)
  (h : AWp P objs.length sc (q3x objs.length rvs rs objs') (qiu args objs)) (hN : args.length ≤ fn.ntmps) (hl : rvs.length = rs.length) (hw : ltB 16 (v5 args ++ qc8 objs) = true) : qg P f args objs (qth rs) objs' := by
 rw [Option.bind_eq_some_iff] at hc
 obtain ⟨c, hb, hc⟩ := hc
 refine qqi hm hf hb (rv := fn.results.toList) (by simp) hr hc hN hl (fun t ht => ?_) h
 simp only [ltB, List.all_eq_true, decide_eq_true_eq] at hw
 exact hw t ht
theorem q4e {rs : List ASlot} (h : rs.length ≠ 1) : qth rs = .tup rs := by
 match rs with
 | [] => rfl
 | [_] => simp at h
 | _ :: _ :: _ => rfl
theorem xhc (d : D) : D.eqv d d = True := eq_true (D.eqv_refl d)
theorem xgh (d : List D) : D.eqvL d d = True := eq_true (D.eqvL_refl d)
theorem xgi (d : List (List D)) : D.eqvR d d = True := eq_true (D.eqvR_refl d)
theorem xc0 {k k' : IntKind} {n n' : Int} : D.eqv (.int k n) (.int k' n') = (k = k' ∧ n = n') := by simp [D.eqv]
theorem q8p {b b' : Bool} : D.eqv (.bool b) (.bool b') = (b = b') := by simp [D.eqv]
theorem xc1 {b b' : List UInt8} : D.eqv (.str b) (.str b') = (b = b') := by simp [D.eqv]
theorem xer {es es' : Nat} {r r' : List (List D)} : D.eqv (.sl es r) (.sl es' r') = wl es r es' r' := by simp [D.eqv, wl]
theorem xc2 {l l' : List D} : D.eqv (.agg l) (.agg l') = D.eqvL l l' := by simp [D.eqv]
theorem xc3 {b b' o o' : Nat} : D.eqv (.ptr b o) (.ptr b' o') = (b = b' ∧ o = o') := by simp [D.eqv]
theorem xc4 {b b' o o' e e' n n' : Nat} : D.eqv (.ref b o e n) (.ref b' o' e' n') = (b = b' ∧ o = o' ∧ e = e' ∧ n = n') := by simp [D.eqv]
theorem xc5 {b b' : Nat} : D.eqv (.map b) (.map b') = (b = b') := by simp [D.eqv]
theorem q8q {f f' : Fn} {a a' b b' : List D} : D.eqv (.func f a b) (.func f' a' b') = (f = f' ∧ D.eqvL a a' ∧ D.eqvL b b') := by simp [D.eqv]
theorem q4f {t t' : TypeId} {a a' : D} : D.eqv (.iface t a) (.iface t' a') = (t = t' ∧ D.eqv a a') := by simp [D.eqv]
theorem q4g {a a' : D} {l l' : List D} : D.eqvL (a :: l) (a' :: l') = (D.eqv a a' ∧ D.eqvL l l') := by simp [D.eqvL]
theorem q8r : D.eqvL [] [] = True := by simp [D.eqvL]
theorem q4h {a a' : List D} {l l' : List (List D)} : D.eqvR (a :: l) (a' :: l') = (D.eqvL a a' ∧ D.eqvR l l') := by simp [D.eqvR]
theorem q8s : D.eqvR [] [] = True := by simp [D.eqvR]
theorem qtt {es : Nat} {r r' : List (List D)} : wl es r es r' = D.eqvR r r' := by simp [wl]
theorem qxc {es es' : Nat} : wl es [] es' [] = True := by simp [wl, D.eqvR]
theorem qmg {α : Type} {es es' : Nat} {f : α → List D} : wl es [] es' (List.map f []) = True := by simp [wl, D.eqvR]
theorem q8t {a b b' : List (List D)} : D.eqvR (a ++ b) (a ++ b') = D.eqvR b b' := by
 induction a with
 | nil => rfl
 | cons x a ih => simp [D.eqvR, D.eqvL_refl, ih]
theorem q8u {s : ASlot} {x : D} : qab s (.d x) = s.eqvD x := by cases s <;> rfl
theorem q1k {t t' es es' : Nat} {r r' : List (List D)} : qab (.own t es r) (.own t' es' r') = (es = es' ∧ D.eqvR r r') := rfl
theorem qmh {t' es es' : Nat} {r r' : List (List D)} : qab (.full es r) (.own t' es' r') = wl es r es' r' := rfl
theorem qxd {es es' : Nat} {r r' : List (List D)} : qab (.full es r) (.full es' r') = wl es r es' r' := rfl
theorem q4i {r r' : List D} : qab (.rd r) (.rd r') = D.eqvL r r' := rfl
theorem qc {x : D} : qab (.d x) (.d x) := D.eqv_refl x
def q8v (P : Program) (ops : List SOper) (objs : Nat) (pairs : List (Nat × Nat)) (Q : SExit → St → Prop) (st : St) : Prop := AWp P 0 (.region ops objs pairs) Q st
theorem xc6 {P : Program} {k0 : Nat} {ops : List SOper} {objs : Nat} {pairs : List (Nat × Nat)} {Q : SExit → St → Prop} {st : St} : AWp P k0 (.region ops objs pairs) Q st = q8v P ops objs pairs Q st := rfl
def q8w (P : Program) (ops : List SOper) (objs : Nat) (pairs : List (Nat × Nat)) (Q : SExit → St → Prop) (st : St) : Prop := AWp P 0 (.region ops objs pairs) Q st
def regK (pairs : List (Nat × Nat)) (Q : SExit → St → Prop) (n : Nat) (tids : List (List Nat)) (st' : St) : Prop := qc0 pairs tids ∧ Q .normal (st'.bump n)
theorem xc7 {pairs : List (Nat × Nat)} {Q : SExit → St → Prop} {n : Nat} {tids : List (List Nat)} {fr : Fr} {os : List AObj} {live : List Nat} {nt : Nat} :
  regK pairs Q n tids ⟨fr, os, live, nt⟩ = (qc0 pairs tids ∧ Q .normal (⟨fr, os, live, nt + n⟩)) := rfl
theorem q8x {P : Program} {ops : List SOper} {objs : Nat} {pairs : List (Nat × Nat)} {Q : SExit → St → Prop} {fr : Fr} {os : List AObj} {live : List Nat} {nt : Nat} :
  q8w P ops objs pairs Q ⟨fr, os, live, nt⟩ = ARun P ops 0 [] (regK pairs Q ops.length) ⟨fr, os ++ List.replicate objs .none, live, nt⟩ := rfl
def xc8 {ops lit : List SOper} (_ : ops = lit) : List SOper := lit
attribute [go_sem] qw3 vl qlf eqOk xct xc6 q8x xc7 xc8 q8e q39 q8f xcu qhm qtg q3x q7x q7y q3y q7z q06 q07 ql9 q3z q08 qqj q70 q71 q09 q1a q72 q73 q30 q74 q75 q76 qws qn6 q1b qwu q1c q1d q1e qwv qww qwx qti q77 q31 q1f qwy qiu yg v5 List.flatMap_cons List.flatMap_nil ASlot.toks List.append_nil List.nil_append List.replicate Nat.zero_add Nat.add_zero q36 qjz gv xo sem q78 q79 q35 Fr.get Opd.get Opd.ok vo if_true if_false ite_self or_false or_true true_or false_or or_self List.filter_cons List.filter_nil List.contains_cons List.contains_nil Int.cast_ofNat_Int Int.natCast_add not_false_eq_true implies_true forall_const imp_self and_self true_and and_true false_and and_false Bool.and_true Bool.true_and Bool.false_and Bool.and_false Bool.or_true Bool.true_or Bool.or_false Bool.false_or Bool.not_true Bool.not_false Bool.not_not q8h xcv xeo xep Bool.false_eq_true List.length_cons List.length_nil List.length_append List.set_cons_zero List.set_cons_succ List.cons_append List.map_cons List.map_nil List.all_cons List.all_nil List.getElem?_cons_zero List.getElem?_cons_succ List.getElem?_nil List.getD_cons_zero List.getD_cons_succ List.drop_zero List.drop_succ_cons List.take_zero List.take_succ_cons List.drop_nil List.take_nil List.forall_mem_cons List.not_mem_nil false_imp_iff List.flatten_cons List.flatten_nil ASlot.toCells ASlot.dCells ASlot.dCellsOk ASlot.cellD ASlot.isCellD ASlot.isOne ASlot.asD ASlot.rows D.isCell jz vk storeAt yn qf AObj.cells binS qgz qjq qbn hiB loB y5 qlb y6 wj z0 yy qkk Option.map_some Option.map_none Option.isSome_some qw6 St.bump_mk q8l qiz qhn ya qox q8i ltB qmd qme decide_true decide_false RVar.good RVar.slot q8j frW qas xcy q4a q4c qn8 q1j q8m qkn q4d Int.toNat_natCast List.length_map q4b qtq qw9 q1i qxa xcw q8k qw7 qtp xcx qw8 qql qf6 qc8 List.nodup_nil Option.some.injEq ASlot.d.injEq D.bool.injEq D.int.injEq D.agg.injEq D.sl.injEq List.cons.injEq D.okW D.okWL D.okWR D.okW_noPtr D.okWL_noPtr D.okWR_noPtr D.noPtr D.noPtrL D.noPtrR ASlot.eqvD xhc xgh xgi xc0 q8p xc1 xer xc2 xc3 xc4 xc5 q8q q4f q4g q8r q4h q8s qtt qxc qmg q8t q8u q1k qmh qxd q4i w7 qqn qn9 qqo qoa qmf q8o xcz qxb q8n qtr wt Int.toNat_zero D.default_eq Option.getD_some Option.getD_none qqm qts Nat.add_sub_cancel beq_self_eq_true ASlot.noPtr xd Bool.and_self Bool.and_self_left Bool.and_self_right bne_self_eq_false qto disj q8g qqp D.ren D.renL D.renR xcp xge xcq q8a xen xcr xcs ASlot.ren1 AObj.ren D.renL_noPtr D.renR_noPtr D.ren_noPtr D.inK D.inKL D.inKR D.inK_noPtr D.inKL_noPtr D.inKR_noPtr ASlot.inK ASlot.inKC AObj.inK zq List.zip_cons_cons List.zip_nil_left List.zip_nil_right qcq q3g qcz qs2 isNone qev List.isEmpty_nil List.isEmpty_cons List.drop_nil Option.some_inj exists_eq_left' exists_eq_left Option.toList_some Option.toList_none
end Go.Abs
