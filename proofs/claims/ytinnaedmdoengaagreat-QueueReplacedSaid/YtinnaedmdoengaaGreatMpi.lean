/- Texts Ba. -/
import Derived.Test.YtinnaedmdoengaaGreatMph
import Derived.Calls
import Derived.Orders
import Derived.Tactics
import Derived.Laws.AppendOwn
import Derived.Laws.Slices
import Derived.Laws.Closers25
import Derived.Laws.StructEq
import Derived.Laws.BytesString
import Derived.Laws.CopyRow
import Derived.MapKept
import Derived.Maps.RangeRun
import Derived.TacticsIn
import Derived.OrdersIn
import Derived.RangeFuncRecord
import Derived.RangeFuncLeaves
import Derived.IntWalk

namespace Go.Abs
def SOp.special : SOp → Bool
 | .call .. => true
 | .eqnilS .. => true
 | .nextM .. => true
 | .appendR .. => true
 | .entryM .. => true
 | _ => false
def St.put (st : St) (dst : Option Nat) (g : Bool) (out : Out) : St :=
 {fr := jj st.fr dst g out.v, os := x8 st.os out.wrs, live := qj st.live out, nt := st.nt }
def zm (P : Program) (ops : List SOper) (k : Nat) (tids : List (List Nat)) (K : List (List Nat) → St → Prop) (dst : Option Nat) (st : St) (g : Bool) (out : Out) : Prop :=
 Obl g out st.live ∧ ARun P ops (k + 1) (tids ++ [out.tags]) K (st.put dst g out)
def xf : Option Bool → (Bool → Prop) → Prop
 | some g, F => F g
 | none, _ => False
theorem q2e {P : Program} {k : Nat} {tids : List (List Nat)} {K : List (List Nat) → St → Prop} {st : St} : ARun P [] k tids K st = K tids st := rfl
theorem qq {P : Program} {ops : List SOper} {k : Nat} {tids : List (List Nat)} {K : List (List Nat) → St → Prop} {st : St} {dst : Option Nat} {op : SOp} {gd : Option (Nat × Bool)} (h : op.special = false) :
  ARun P (⟨dst, op, gd⟩ :: ops) k tids K st = xf (gv st.fr gd) fun g => zm P ops k tids K dst st g (sem (16 * (st.nt + k)) op st) := by
 simp only [ARun]
 cases gv st.fr gd with
 | none => rfl
 | some g => cases op <;> first | rfl | (simp [SOp.special] at h)
section
variable {P : Program} {ops : List SOper} {k : Nat} {tids : List (List Nat)} {K : List (List Nat) → St → Prop} {st : St} {dst : Option Nat} {gd : Option (Nat × Bool)}
theorem q2f {x : Opd} : ARun P (⟨dst, .mov x, gd⟩ :: ops) k tids K st = xf (gv st.fr gd) fun g => zm P ops k tids K dst st g (sem (16 * (st.nt + k)) (.mov x) st) := qq rfl
theorem qxg {c a b : Opd} : ARun P (⟨dst, .pick c a b, gd⟩ :: ops) k tids K st = xf (gv st.fr gd) fun g => zm P ops k tids K dst st g (sem (16 * (st.nt + k)) (.pick c a b) st) := qq rfl
theorem q2g {back : Nat} {x : Opd} : ARun P (⟨dst, .box back x, gd⟩ :: ops) k tids K st = xf (gv st.fr gd) fun g => zm P ops k tids K dst st g (sem (16 * (st.nt + k)) (.box back x) st) := qq rfl
theorem qu3 {back : Nat} {zero : List ASlot} : ARun P (⟨dst, .alloc back zero, gd⟩ :: ops) k tids K st = xf (gv st.fr gd) fun g => zm P ops k tids K dst st g (sem (16 * (st.nt + k)) (.alloc back zero) st) := qq rfl
theorem qu4 {zero : List D} {parts : List (Nat × Nat × Opd)} : ARun P (⟨dst, .build zero parts, gd⟩ :: ops) k tids K st = xf (gv st.fr gd) fun g => zm P ops k tids K dst st g (sem (16 * (st.nt + k)) (.build zero parts) st) := qq rfl
theorem qi2 {u : Bool} {es len : Nat} {zero : List D} {parts : List (Nat × Nat × Opd)} : ARun P (⟨dst, .buildSlice u es len zero parts, gd⟩ :: ops) k tids K st = xf (gv st.fr gd) fun g => zm P ops k tids K dst st g (sem (16 * (st.nt + k)) (.buildSlice u es len zero parts) st) := qq rfl
theorem qxh {n : Option Nat} {x : Opd} : ARun P (⟨dst, .load n x, gd⟩ :: ops) k tids K st = xf (gv st.fr gd) fun g => zm P ops k tids K dst st g (sem (16 * (st.nt + k)) (.load n x) st) := qq rfl
theorem qu5 {n : Option Nat} {x v : Opd} : ARun P (⟨dst, .store n x v, gd⟩ :: ops) k tids K st = xf (gv st.fr gd) fun g => zm P ops k tids K dst st g (sem (16 * (st.nt + k)) (.store n x v) st) := qq rfl
theorem qmm {x : Opd} : ARun P (⟨dst, .nilCheck x, gd⟩ :: ops) k tids K st = xf (gv st.fr gd) fun g => zm P ops k tids K dst st g (sem (16 * (st.nt + k)) (.nilCheck x) st) := qq rfl
theorem q2h {op' : BinOp} {x y : Opd} : ARun P (⟨dst, .bin op' x y, gd⟩ :: ops) k tids K st = xf (gv st.fr gd) fun g => zm P ops k tids K dst st g (sem (16 * (st.nt + k)) (.bin op' x y) st) := qq rfl
theorem q2i {neg : Bool} {x y : Opd} : ARun P (⟨dst, .eqb neg x y, gd⟩ :: ops) k tids K st = xf (gv st.fr gd) fun g => zm P ops k tids K dst st g (sem (16 * (st.nt + k)) (.eqb neg x y) st) := qq rfl
theorem qu6 {neg : Bool} {k' : NK} {x : Opd} : ARun P (⟨dst, .eqnil neg k' x, gd⟩ :: ops) k tids K st = xf (gv st.fr gd) fun g => zm P ops k tids K dst st g (sem (16 * (st.nt + k)) (.eqnil neg k' x) st) := qq rfl
theorem qu7 {neg : Bool} {ks : List CK} {x y : Opd} : ARun P (⟨dst, .eqAgg neg ks x y, gd⟩ :: ops) k tids K st = xf (gv st.fr gd) fun g => zm P ops k tids K dst st g (sem (16 * (st.nt + k)) (.eqAgg neg ks x y) st) := qq rfl
theorem q2j {x : Opd} : ARun P (⟨dst, .not x, gd⟩ :: ops) k tids K st = xf (gv st.fr gd) fun g => zm P ops k tids K dst st g (sem (16 * (st.nt + k)) (.not x) st) := qq rfl
theorem q2k {x : Opd} : ARun P (⟨dst, .neg x, gd⟩ :: ops) k tids K st = xf (gv st.fr gd) fun g => zm P ops k tids K dst st g (sem (16 * (st.nt + k)) (.neg x) st) := qq rfl
theorem qxi {k' : IntKind} {x : Opd} : ARun P (⟨dst, .conv k' x, gd⟩ :: ops) k tids K st = xf (gv st.fr gd) fun g => zm P ops k tids K dst st g (sem (16 * (st.nt + k)) (.conv k' x) st) := qq rfl
theorem q2l {x : Opd} : ARun P (⟨dst, .i2s x, gd⟩ :: ops) k tids K st = xf (gv st.fr gd) fun g => zm P ops k tids K dst st g (sem (16 * (st.nt + k)) (.i2s x) st) := qq rfl
theorem q2m {x : Opd} : ARun P (⟨dst, .b2s x, gd⟩ :: ops) k tids K st = xf (gv st.fr gd) fun g => zm P ops k tids K dst st g (sem (16 * (st.nt + k)) (.b2s x) st) := qq rfl
theorem q2n {x : Opd} : ARun P (⟨dst, .s2b x, gd⟩ :: ops) k tids K st = xf (gv st.fr gd) fun g => zm P ops k tids K dst st g (sem (16 * (st.nt + k)) (.s2b x) st) := qq rfl
theorem qrn {fn : Fn} {first captured : List Opd} : ARun P (⟨dst, .mkFunc fn first captured, gd⟩ :: ops) k tids K st = xf (gv st.fr gd) fun g => zm P ops k tids K dst st g (sem (16 * (st.nt + k)) (.mkFunc fn first captured) st) := qq rfl
theorem qkf {u : Bool} {es bytes : Nat} {zero : List D} {l c : Opd} : ARun P (⟨dst, .makeSlice u es bytes zero l c, gd⟩ :: ops) k tids K st = xf (gv st.fr gd) fun g => zm P ops k tids K dst st g (sem (16 * (st.nt + k)) (.makeSlice u es bytes zero l c) st) := qq rfl
theorem qu8 {es : Nat} {x : Opd} {lo hi mx : Option Opd} : ARun P (⟨dst, .slice es x lo hi mx, gd⟩ :: ops) k tids K st = xf (gv st.fr gd) fun g => zm P ops k tids K dst st g (sem (16 * (st.nt + k)) (.slice es x lo hi mx) st) := qq rfl
theorem qro {len es : Nat} {x : Opd} {lo hi mx : Option Opd} : ARun P (⟨dst, .sliceA len es x lo hi mx, gd⟩ :: ops) k tids K st = xf (gv st.fr gd) fun g => zm P ops k tids K dst st g (sem (16 * (st.nt + k)) (.sliceA len es x lo hi mx) st) := qq rfl
theorem qrp {x : Opd} {lo hi : Option Opd} : ARun P (⟨dst, .sliceS x lo hi, gd⟩ :: ops) k tids K st = xf (gv st.fr gd) fun g => zm P ops k tids K dst st g (sem (16 * (st.nt + k)) (.sliceS x lo hi) st) := qq rfl
theorem qu9 {off : Nat} {x : Opd} : ARun P (⟨dst, .faddr off x, gd⟩ :: ops) k tids K st = xf (gv st.fr gd) fun g => zm P ops k tids K dst st g (sem (16 * (st.nt + k)) (.faddr off x) st) := qq rfl
theorem qva {n : Option Nat} {off : Nat} {x : Opd} : ARun P (⟨dst, .field n off x, gd⟩ :: ops) k tids K st = xf (gv st.fr gd) fun g => zm P ops k tids K dst st g (sem (16 * (st.nt + k)) (.field n off x) st) := qq rfl
theorem qvb {es : Nat} {x i : Opd} : ARun P (⟨dst, .iaddr es x i, gd⟩ :: ops) k tids K st = xf (gv st.fr gd) fun g => zm P ops k tids K dst st g (sem (16 * (st.nt + k)) (.iaddr es x i) st) := qq rfl
theorem qrq {len es : Nat} {x i : Opd} : ARun P (⟨dst, .iaddrA len es x i, gd⟩ :: ops) k tids K st = xf (gv st.fr gd) fun g => zm P ops k tids K dst st g (sem (16 * (st.nt + k)) (.iaddrA len es x i) st) := qq rfl
theorem qrr {x i : Opd} : ARun P (⟨dst, .indexS x i, gd⟩ :: ops) k tids K st = xf (gv st.fr gd) fun g => zm P ops k tids K dst st g (sem (16 * (st.nt + k)) (.indexS x i) st) := qq rfl
theorem qrs {len es : Nat} {n : Option Nat} {x i : Opd} : ARun P (⟨dst, .indexA len es n x i, gd⟩ :: ops) k tids K st = xf (gv st.fr gd) fun g => zm P ops k tids K dst st g (sem (16 * (st.nt + k)) (.indexA len es n x i) st) := qq rfl
theorem qot {i : Nat} {x : Opd} : ARun P (⟨dst, .extract i x, gd⟩ :: ops) k tids K st = xf (gv st.fr gd) fun g => zm P ops k tids K dst st g (sem (16 * (st.nt + k)) (.extract i x) st) := qq rfl
theorem q2o {x : Opd} : ARun P (⟨dst, .len x, gd⟩ :: ops) k tids K st = xf (gv st.fr gd) fun g => zm P ops k tids K dst st g (sem (16 * (st.nt + k)) (.len x) st) := qq rfl
theorem qxj {x : Opd} : ARun P (⟨dst, .lenS x, gd⟩ :: ops) k tids K st = xf (gv st.fr gd) fun g => zm P ops k tids K dst st g (sem (16 * (st.nt + k)) (.lenS x) st) := qq rfl
theorem qvc {x : Opd} : ARun P (⟨dst, .asStr x, gd⟩ :: ops) k tids K st = xf (gv st.fr gd) fun g => zm P ops k tids K dst st g (sem (16 * (st.nt + k)) (.asStr x) st) := qq rfl
theorem qrt {u : Bool} {es bytes : Nat} {s x : Opd} : ARun P (⟨dst, .append u es bytes s x, gd⟩ :: ops) k tids K st = xf (gv st.fr gd) fun g => zm P ops k tids K dst st g (sem (16 * (st.nt + k)) (.append u es bytes s x) st) := qq rfl
theorem qxk {es : Nat} {s x : Opd} : ARun P (⟨dst, .copy es s x, gd⟩ :: ops) k tids K st = xf (gv st.fr gd) fun g => zm P ops k tids K dst st g (sem (16 * (st.nt + k)) (.copy es s x) st) := qq rfl
theorem qou {back : Nat} : ARun P (⟨dst, .makeMap back, gd⟩ :: ops) k tids K st = xf (gv st.fr gd) fun g => zm P ops k tids K dst st g (sem (16 * (st.nt + k)) (.makeMap back) st) := qq rfl
theorem qxl {n : Nat} {x : Opd} : ARun P (⟨dst, .s2ap n x, gd⟩ :: ops) k tids K st = xf (gv st.fr gd) fun g => zm P ops k tids K dst st g (sem (16 * (st.nt + k)) (.s2ap n x) st) := qq rfl
theorem qru {kd : KD} {z : ASlot} {c : Bool} {x y : Opd} : ARun P (⟨dst, .lookup kd z c x y, gd⟩ :: ops) k tids K st = xf (gv st.fr gd) fun g => zm P ops k tids K dst st g (sem (16 * (st.nt + k)) (.lookup kd z c x y) st) := qq rfl
theorem qkg {kd : KD} {x y v : Opd} : ARun P (⟨dst, .mapUpdate kd x y v, gd⟩ :: ops) k tids K st = xf (gv st.fr gd) fun g => zm P ops k tids K dst st g (sem (16 * (st.nt + k)) (.mapUpdate kd x y v) st) := qq rfl
theorem qrv {kd : KD} {x y : Opd} : ARun P (⟨dst, .delete kd x y, gd⟩ :: ops) k tids K st = xf (gv st.fr gd) fun g => zm P ops k tids K dst st g (sem (16 * (st.nt + k)) (.delete kd x y) st) := qq rfl
theorem qxm {x : Opd} : ARun P (⟨dst, .lenM x, gd⟩ :: ops) k tids K st = xf (gv st.fr gd) fun g => zm P ops k tids K dst st g (sem (16 * (st.nt + k)) (.lenM x) st) := qq rfl
theorem qrw {back : Nat} {x : Opd} : ARun P (⟨dst, .rangeM back x, gd⟩ :: ops) k tids K st = xf (gv st.fr gd) fun g => zm P ops k tids K dst st g (sem (16 * (st.nt + k)) (.rangeM back x) st) := qq rfl
theorem qov {t : TypeId} {x : Opd} : ARun P (⟨dst, .mkIface t x, gd⟩ :: ops) k tids K st = xf (gv st.fr gd) fun g => zm P ops k tids K dst st g (sem (16 * (st.nt + k)) (.mkIface t x) st) := qq rfl
theorem qow {t : TypeId} {c : Bool} {x : Opd} : ARun P (⟨dst, .assertT t c x, gd⟩ :: ops) k tids K st = xf (gv st.fr gd) fun g => zm P ops k tids K dst st g (sem (16 * (st.nt + k)) (.assertT t c x) st) := qq rfl
theorem qox {back es bytes : Nat} {s x : Opd} : ARun P (⟨dst, .appendO back es bytes s x, gd⟩ :: ops) k tids K st = xf (gv st.fr gd) fun g => zm P ops k tids K dst st g (sem (16 * (st.nt + k)) (.appendO back es bytes s x) st) := qq rfl
theorem qrx {mx : Bool} {x y : Opd} : ARun P (⟨dst, .minmax mx x y, gd⟩ :: ops) k tids K st = xf (gv st.fr gd) fun g => zm P ops k tids K dst st g (sem (16 * (st.nt + k)) (.minmax mx x y) st) := qq rfl
end
theorem q2p {P : Program} {ops : List SOper} {k : Nat} {tids : List (List Nat)} {K : List (List Nat) → St → Prop} {dst : Option Nat} {fr : Fr} {os : List AObj} {live : List Nat} {nt : Nat} {g : Bool} {v : ASlot} {ob : Prop} {rd : Option Nat} :
  zm P ops k tids K dst ⟨fr, os, live, nt⟩ g ⟨v, ob, rd, none, [], [], [], []⟩ = ((g = true → ob) ∧ ARun P ops (k + 1) (tids ++ [rd.toList]) K ⟨jj fr dst g v, os, live, nt⟩) := by
 have hl : qj live (⟨v, ob, rd, none, [], [], [], []⟩ : Out) = live := qu rfl rfl
 simp only [zm, Obl, Out.tags, Out.wrs, St.put, Out.tame, hl]
 simp [x8]
theorem q2q {P : Program} {ops : List SOper} {k : Nat} {tids : List (List Nat)} {K : List (List Nat) → St → Prop} {dst : Option Nat} {fr : Fr} {os : List AObj} {live : List Nat} {nt : Nat} {g : Bool} {v : ASlot} {ob : Prop} {rd : Option Nat} {id : Nat} {o : AObj} :
  zm P ops k tids K dst ⟨fr, os, live, nt⟩ g ⟨v, ob, rd, some (id, o), [], [], [], []⟩ = (g = true ∧ ob ∧ ARun P ops (k + 1) (tids ++ [id :: (1000000 + id) :: rd.toList]) K ⟨jj fr dst g v, os.set id o, live, nt⟩) := by
 have hl : qj live (⟨v, ob, rd, some (id, o), [], [], [], []⟩ : Out) = live := qu rfl rfl
 simp only [zm, Obl, Out.tags, Out.wrs, St.put, Out.tame, hl]
 cases g <;> simp [x8]
theorem qxn {P : Program} {ops : List SOper} {k : Nat} {tids : List (List Nat)} {K : List (List Nat) → St → Prop} {dst : Option Nat} {fr : Fr} {os : List AObj} {live : List Nat} {nt : Nat} {g : Bool} {v : ASlot} {ob : Prop} {rd : Option Nat} {cons : List Nat} {t : Nat} :
  zm P ops k tids K dst ⟨fr, os, live, nt⟩ g ⟨v, ob, rd, none, cons, [t], [], []⟩ = (g = true ∧ ob ∧ (cons.all fun t => live.contains t) = true ∧ ARun P ops (k + 1) (tids ++ [rd.toList]) K ⟨jj fr dst g v, os, (live.filter fun t => !cons.contains t) ++ [t], nt⟩) := by
 have hc : ((cons.all fun t => live.contains t) = true) = (∀ t ∈ cons, t ∈ live) := by simp
 rw [hc]
 simp only [zm, Obl, Out.tags, Out.wrs, St.put, Out.tame, qj]
 cases g <;> simp [and_assoc, x8]
def qf3 (P : Program) (ops : List SOper) (k : Nat) (tids : List (List Nat)) (K : List (List Nat) → St → Prop) (dst : Option Nat) (st : St) (g : Bool) (c : Option (FuncId × List ASlot)) (ok : Bool) : Prop :=
 ∃ n as fa r fo fo' ι q, r.toks.length ≤ 16 ∧ (g = true → c = some (n, as) ∧ ok = true ∧ ql P n fa fo r fo' ∧ (P.funcs[n]?).any (fun fn => fn.body.isSome && !(fn.name == "runtime.NumGoroutine")) = true ∧ Fits st.live as fa ι fo.length ∧ ObjFit st.os fo fo' ι ∧ r.toks.Nodup ∧ (q = true → ∀ p ∈ ι.zip (fo'.map (AObj.ren ι)), st.os[p.1]? = some p.2)) ∧
  (g = true ∨ (xr (16 * (st.nt + k)) as fa r fo' ι q).tame) ∧ ARun P ops (k + 1) (tids ++ [(xr (16 * (st.nt + k)) as fa r fo' ι q).tags]) K (st.put dst g (xr (16 * (st.nt + k)) as fa r fo' ι q))
theorem qxo {P : Program} {ops : List SOper} {k : Nat} {tids : List (List Nat)} {K : List (List Nat) → St → Prop} {st : St} {dst : Option Nat} {f : Opd} {args : List Opd} {gd : Option (Nat × Bool)} :
  ARun P (⟨dst, .call f args, gd⟩ :: ops) k tids K st = xf (gv st.fr gd) fun g => qf3 P ops k tids K dst st g (qgy st.fr f args) (f.ok st.fr && args.all fun x => x.ok st.fr) := by
 simp only [ARun]
 cases hg : gv st.fr gd with
 | none => rfl
 | some g =>
  simp only [xf, qf3]
  apply propext
  constructor
  ·rintro ⟨n, as, fa, r, fo, fo', ι, q, h1, h2, h3, h4⟩
   exact ⟨n, as, fa, r, fo, fo', ι, q, h1, fun h => ⟨(h2 h).callee, by rw [(h2 h).ok, (h2 h).oks]; rfl, (h2 h).contract, (h2 h).body, (h2 h).fits, (h2 h).objs, (h2 h).nodup, (h2 h).quiet⟩, h3, h4⟩
  ·rintro ⟨n, as, fa, r, fo, fo', ι, q, h1, h2, h3, h4⟩
   refine ⟨n, as, fa, r, fo, fo', ι, q, h1, fun h => ?_, h3, h4⟩
   obtain ⟨q1, q2, q3, q4, q5, q6, q7, q8⟩ := h2 h
   rw [Bool.and_eq_true] at q2
   exact ⟨q1, q2.1, q2.2, q3, q4, q5, q6, q7, h1, q8⟩
theorem qf4 {r : ASlot} (hr : r.toks = []) (b : Nat) : wv b r = r := by
 have hren : ∀ (b : Nat) (s : ASlot), s.toks = [] → renT [] b s = s := by
  intro b s hs
  cases s <;> first | rfl | (simp [ASlot.toks] at hs)
 cases r with
 | tup l =>
  simp only [wv, hr, ASlot.tup.injEq]
  have : ∀ s ∈ l, renT [] b s = s := fun s hs => by
   cases s with
   | own t es rows => simp only [ASlot.toks, List.flatMap_eq_nil_iff] at hr; have := hr _ hs; simp [v6] at this
   | uni t es rows => simp only [ASlot.toks, List.flatMap_eq_nil_iff] at hr; have := hr _ hs; simp [v6] at this
   | _ => rfl
  rw [List.map_congr_left this, List.map_id']
 | own t es rows => simp [ASlot.toks] at hr
 | uni t es rows => simp [ASlot.toks] at hr
 | _ => rfl
mutual
theorem qg3 {s : ASlot} (k : Nat) (h : s.noPtr = true) : s.inK k = true := by
 cases s with
 | d x => exact D.inK_noPtr k h
 | own t es rows => exact D.inKR_noPtr k h
 | uni t es rows => exact D.inKR_noPtr k h
 | full es rows => exact D.inKR_noPtr k h
 | rd cs => exact D.inKL_noPtr k h
 | _ => simp [ASlot.noPtr] at h
end
theorem qk7 (os : List AObj) : ObjFit os [] [] [] := ⟨List.nodup_nil, rfl, Nat.le_refl _, trivial, by simp, rfl, by simp⟩
theorem qi3 (l : List ASlot) : l.map (ASlot.ren []) = l := by
 have : ASlot.ren [] = id := by funext s; rfl
 rw [this, List.map_id]
theorem xj {P : Program} {ops : List SOper} {k : Nat} {tids : List (List Nat)} {K : List (List Nat) → St → Prop} {fr : Fr} {os : List AObj} {live : List Nat} {nt : Nat} {dst : Option Nat} {g ok : Bool} {n : FuncId} {fa as : List ASlot} {r : ASlot}
  (hc : ql P n fa [] r []) (hb : (P.funcs[n]?).any (fun fn => fn.body.isSome && !(fn.name == "runtime.NumGoroutine")) = true) (ho : g = true → ok = true)
  (hfit : g = true → vg as fa) (hnp : fa.all ASlot.noPtr = true) (hh : qx as fa = []) (hr : r.toks = [])
  (hK : ARun P ops (k + 1) (tids ++ [[]]) K ⟨jj fr dst g r, os, live, nt⟩) :
  qf3 P ops k tids K dst ⟨fr, os, live, nt⟩ g (some (n, as)) ok := by
 have hre := qf4 hr
 have hput : St.put (⟨fr, os, live, nt⟩ : St) dst g (xr (16 * (nt + k)) as fa r [] [] false) = ⟨jj fr dst g r, os, live, nt⟩ := by
  simp only [St.put, xr, Out.wrs, hre, qj, hh, hr]
  simp [x8, ASlot.ren]
 refine ⟨n, as, fa, r, [], [], [], false, by rw [hr]; simp, fun h => ⟨rfl, ho h, hc, hb, ⟨by rw [qi3]; exact hfit h, List.all_eq_true.2 fun s hs => qg3 _ (List.all_eq_true.1 hnp s hs), by rw [hh]; simp, by rw [hh]; simp⟩, qk7 _, by rw [hr]; simp, (nomatch ·)⟩, .inr ⟨by simp [xr, Out.wrs], by simp [xr, hh], by simp [xr, hre, hr]⟩, ?_⟩
 rw [hput]
 exact hK
theorem yf {P : Program} {ops : List SOper} {k : Nat} {tids : List (List Nat)} {K : List (List Nat) → St → Prop} {fr : Fr} {os : List AObj} {live : List Nat} {nt : Nat} {dst : Option Nat} {g ok : Bool} {c : Option (FuncId × List ASlot)} (x : D)
  (hg : g = false) (hK : ARun P ops (k + 1) (tids ++ [[]]) K ⟨jj fr dst g (.d x), os, live, nt⟩) : qf3 P ops k tids K dst ⟨fr, os, live, nt⟩ g c ok := by
 subst hg
 refine ⟨0, [], [], .d x, [], [], [], false, by simp [ASlot.toks], fun h => (by cases h), .inr ⟨rfl, rfl, rfl⟩, ?_⟩
 have : St.put (⟨fr, os, live, nt⟩ : St) dst false (xr (16 * (nt + k)) [] [] (.d x) [] [] false) = ⟨jj fr dst false (.d x), os, live, nt⟩ := by
  simp [St.put, xr, Out.wrs, wv, renT, qj, qx, ASlot.toks, x8, ASlot.ren]
 rw [this]
 exact hK
theorem xhl {s : ASlot} : ASlot.ren [] s = s := rfl
theorem x8i {i : Nat} {ι : List Nat} {x : D} : ASlot.ren (i :: ι) (.d x) = .d (x.ren (i :: ι)) := rfl
theorem xhm {i : Nat} {ι : List Nat} {t es : Nat} {rows : List (List D)} : ASlot.ren (i :: ι) (.own t es rows) = .own t es (D.renR (i :: ι) rows) := rfl
theorem q2r {i : Nat} {ι : List Nat} {es : Nat} {rows : List (List D)} : ASlot.ren (i :: ι) (.full es rows) = .full es (D.renR (i :: ι) rows) := rfl
theorem xkr {i : Nat} {ι : List Nat} {cs : List D} : ASlot.ren (i :: ι) (.rd cs) = .rd (D.renL (i :: ι) cs) := rfl
theorem xhn {i : Nat} {ι : List Nat} {l : List ASlot} : ASlot.ren (i :: ι) (.tup l) = .tup (l.map (ASlot.ren1 (i :: ι))) := rfl
theorem xho {i : Nat} {ι : List Nat} : ASlot.ren (i :: ι) .bad = .bad := rfl
def isNone (os : List AObj) (id : Nat) : Bool := match os[id]? with | some .none => true | _ => false
def qcq : List ASlot → Bool
 | [] => true
 | s :: l => s.toks.isEmpty && qcq l
theorem qf5 : ∀ (l : List ASlot), qcq l = true ↔ ∀ s ∈ l, s.toks = []
 | [] => by simp [qcq]
 | s :: l => by simp [qcq, qf5 l]
theorem qxp {P : Program} {ops : List SOper} {k : Nat} {tids : List (List Nat)} {K : List (List Nat) → St → Prop} {fr : Fr} {os : List AObj} {live : List Nat} {nt : Nat} {dst : Option Nat} {ok : Bool} {n : FuncId} {fa as : List ASlot} {r : ASlot} {fo fo' : List AObj} (ι : List Nat)
  (hc : ql P n fa fo r fo') (hb : (P.funcs[n]?).any (fun fn => fn.body.isSome && !(fn.name == "runtime.NumGoroutine")) = true) (ho : ok = true)
  (hfit : vg as (fa.map (ASlot.ren ι))) (hin : fa.all (ASlot.inK fo.length) = true) (hh : qx as fa = []) (hr : r.toks = [])
  (hnd : ι.Nodup) (hlen : ι.length = fo'.length) (hle : fo.length ≤ fo'.length) (hold : qat ι os ι fo) (hnew : (ι.drop fo.length).all (isNone os) = true) (hik : fo.all (AObj.inK fo.length) = true) (htk : (fo'.all fun o => qcq o.cells) = true)
  (hK : ARun P ops (k + 1) (tids ++ [ι ++ ι.map fun i => 1000000 + i]) K ⟨jj fr dst true (r.ren ι), x8 os (ι.zip (fo'.map (AObj.ren ι))), live, nt⟩) :
  qf3 P ops k tids K dst ⟨fr, os, live, nt⟩ true (some (n, as)) ok := by
 have hre := qf4 hr
 have hput : St.put (⟨fr, os, live, nt⟩ : St) dst true (xr (16 * (nt + k)) as fa r fo' ι false) = ⟨jj fr dst true (r.ren ι), x8 os (ι.zip (fo'.map (AObj.ren ι))), live, nt⟩ := by
  simp only [St.put, xr, Out.wrs, hre, qj, hh, hr, cond_false]
  simp
 have hto : (xr (16 * (nt + k)) as fa r fo' ι false).tags = ι ++ ι.map (fun i => 1000000 + i) := by
  simp only [Out.tags, Out.wrs, xr, cond_false]
  have : (ι.zip (fo'.map (AObj.ren ι))).map (·.1) = ι := by
   rw [List.map_fst_zip (by rw [List.length_map]; omega)]
  have h2 : (ι.zip (fo'.map (AObj.ren ι))).map (fun p => 1000000 + p.1) = ι.map fun i => 1000000 + i := by
   rw [← this, List.map_map]; rw [this]; rfl
  simp [this, h2]
 refine ⟨n, as, fa, r, fo, fo', ι, false, by rw [hr]; simp, fun _ => ⟨rfl, ho, hc, hb, ⟨hfit, hin, by rw [hh]; simp, by rw [hh]; simp⟩, ⟨hnd, hlen, hle, hold, fun id hid => ?_, hik, fun o ho' => (qf5 _).1 (List.all_eq_true.1 htk o ho')⟩, by rw [hr]; simp, (nomatch ·)⟩, .inl rfl, ?_⟩
 ·have := List.all_eq_true.1 hnew id hid
  unfold isNone at this
  split at this
  ·rename_i h; exact h
  ·cases this
 ·rw [hto, hput]
  exact hK
def nilO (P : Program) (ops : List SOper) (k : Nat) (tids : List (List Nat)) (K : List (List Nat) → St → Prop) (dst : Option Nat) (st : St) (g neg ok : Bool) (s : ASlot) : Prop :=
 g = true ∧ ok = true ∧ ∃ es rows, s.rows = some (es, rows) ∧ ∀ b : Bool, (b = true → rows = []) → ARun P ops (k + 1) (tids ++ [[]]) K ⟨jj st.fr dst true (.d (.bool (if neg = true then !b else b))), st.os, st.live, st.nt⟩
theorem qry {P : Program} {ops : List SOper} {k : Nat} {tids : List (List Nat)} {K : List (List Nat) → St → Prop} {st : St} {dst : Option Nat} {neg : Bool} {x : Opd} {gd : Option (Nat × Bool)} :
  ARun P (⟨dst, .eqnilS neg x, gd⟩ :: ops) k tids K st = xf (gv st.fr gd) fun g => nilO P ops k tids K dst st g neg (x.ok st.fr) (x.get st.fr) := by
 simp only [ARun]
 cases gv st.fr gd with
 | none => rfl
 | some g =>
  cases g with
  | false => simp [xf, nilO]
  | true =>
   have hn : ∀ b, st.next ⟨dst, .eqnilS neg x, gd⟩ true (qkz neg b) = ⟨jj st.fr dst true (.d (.bool (if neg = true then !b else b))), st.os, st.live, st.nt⟩ := by
    intro b
    have hl : qj st.live (qkz neg b) = st.live := qu rfl rfl
    simp only [St.next, hl]
    rfl
   simp only [xf, nilO, hn]
def q2s (P : Program) (ops : List SOper) (k : Nat) (tids : List (List Nat)) (K : List (List Nat) → St → Prop) (dst : Option Nat) (st : St) (g ok : Bool) (s : ASlot) : Prop :=
 g = true ∧ ok = true ∧ ∃ iid, s = .d (.ptr iid 0) ∧
  ((∃ since seen last, st.os[iid]? = some (.iter (.d .nilmap) since seen last) ∧ ARun P ops (k + 1) (tids ++ [[]]) K ⟨jj st.fr dst true qir, st.os, st.live, st.nt⟩) ∨
   ∃ mid since seen last es clock, IterOn st.os iid mid since seen last es clock ∧ (qbt es seen = [] → ARun P ops (k + 1) (tids ++ [[]]) K ⟨jj st.fr dst true qir, st.os, st.live, st.nt⟩) ∧
    ∀ e ∈ qbt es seen, ARun P ops (k + 1) (tids ++ [[]]) K ⟨jj st.fr dst true (entV e), st.os.set iid (.iter (.d (.map mid)) since (seen ++ [e.1]) clock), st.live, st.nt⟩)
theorem qve {P : Program} {ops : List SOper} {k : Nat} {tids : List (List Nat)} {K : List (List Nat) → St → Prop} {st : St} {dst : Option Nat} {x : Opd} {gd : Option (Nat × Bool)} :
  ARun P (⟨dst, .nextM x, gd⟩ :: ops) k tids K st = xf (gv st.fr gd) fun g => q2s P ops k tids K dst st g (x.ok st.fr) (x.get st.fr) := by
 simp only [ARun]
 cases gv st.fr gd with
 | none => rfl
 | some g =>
  cases g with
  | false => simp [xf, q2s]
  | true =>
   have h1 : st.next ⟨dst, .nextM x, gd⟩ true qbz = ⟨jj st.fr dst true qir, st.os, st.live, st.nt⟩ := by
    have hl : qj st.live qbz = st.live := qu rfl rfl
    simp only [St.next, hl]
    rfl
   have h2 : ∀ iid mid since seen clock e, st.next ⟨dst, .nextM x, gd⟩ true (qiu iid mid since seen clock e) = ⟨jj st.fr dst true (entV e), st.os.set iid (.iter (.d (.map mid)) since (seen ++ [e.1]) clock), st.live, st.nt⟩ := by
    intro iid mid since seen clock e
    have hl : qj st.live (qiu iid mid since seen clock e) = st.live := qu rfl rfl
    simp only [St.next, hl]
    rfl
   simp only [xf, q2s, h1, h2]
def q2u (P : Program) (ops : List SOper) (k : Nat) (tids : List (List Nat)) (K : List (List Nat) → St → Prop) (dst : Option Nat) (st : St) (g : Bool) (back es bytes : Nat) (s x : Opd) : Prop :=
 g = true ∧ (((sem (16 * (st.nt + k)) (.appendO back es bytes s x) st).ob ∧ ARun P ops (k + 1) (tids ++ [[]]) K (st.next ⟨dst, .appendR back es bytes s x, none⟩ true (sem (16 * (st.nt + k)) (.appendO back es bytes s x) st))) ∨
     (s.ok st.fr = true ∧ x.ok st.fr = true ∧ ∃ id n r, s.get st.fr = .d (.ref id 0 es n) ∧ kb es st.os (x.get st.fr) = some r ∧ AppR st.os es bytes back id n r ∧
      ARun P ops (k + 1) (tids ++ [[]]) K (st.next ⟨dst, .appendR back es bytes s x, none⟩ true (qiv id id es n st.os r)) ∧ ARun P ops (k + 1) (tids ++ [[]]) K (st.next ⟨dst, .appendR back es bytes s x, none⟩ true (qiv id (st.os.length - back) es n st.os r))))
theorem qoy {P : Program} {ops : List SOper} {k : Nat} {tids : List (List Nat)} {K : List (List Nat) → St → Prop} {st : St} {dst : Option Nat} {back es bytes : Nat} {s x : Opd} {gd : Option (Nat × Bool)} :
  ARun P (⟨dst, .appendR back es bytes s x, gd⟩ :: ops) k tids K st = xf (gv st.fr gd) fun g => q2u P ops k tids K dst st g back es bytes s x := by
 simp only [ARun]
 cases gv st.fr gd with
 | none => rfl
 | some g =>
  cases g with
  | false => simp [xf, q2u]
  | true => rfl
def qto (P : Program) (ops : List SOper) (k : Nat) (tids : List (List Nat)) (K : List (List Nat) → St → Prop) (dst : Option Nat) (st : St) (g ok : Bool) (s : ASlot) : Prop :=
 g = true ∧ ok = true ∧ ∃ iid mid since seen clock es e, s = .d (.ptr iid 0) ∧ EntryOn st.os iid mid since seen clock es e ∧ ARun P ops (k + 1) (tids ++ [[]]) K ⟨jj st.fr dst true (.tup [.d e.2.1, .d e.2.2]), st.os, st.live, st.nt⟩
theorem qrz {P : Program} {ops : List SOper} {k : Nat} {tids : List (List Nat)} {K : List (List Nat) → St → Prop} {st : St} {dst : Option Nat} {x : Opd} {gd : Option (Nat × Bool)} :
  ARun P (⟨dst, .entryM x, gd⟩ :: ops) k tids K st = xf (gv st.fr gd) fun g => qto P ops k tids K dst st g (x.ok st.fr) (x.get st.fr) := by
 simp only [ARun]
 cases gv st.fr gd with
 | none => rfl
 | some g =>
  cases g with
  | false => simp [xf, qto]
  | true =>
   have h1 : ∀ e, st.next ⟨dst, .entryM x, gd⟩ true (qb0 e) = ⟨jj st.fr dst true (.tup [.d e.2.1, .d e.2.2]), st.os, st.live, st.nt⟩ := by
    intro e
    have hl : qj st.live (qb0 e) = st.live := qu rfl rfl
    simp only [St.next, hl]
    rfl
   simp only [xf, qto, h1]
theorem qr0 {P : Program} {ops : List SOper} {k : Nat} {tids : List (List Nat)} {K : List (List Nat) → St → Prop} {fr : Fr} {os : List AObj} {live : List Nat} {nt : Nat} {dst : Option Nat} {neg ok : Bool} {s : ASlot} {es : Nat} {rows : List (List D)}
  (ho : ok = true) (hr : s.rows = some (es, rows)) (h : ∀ b : Bool, (b = true → rows = []) → ARun P ops (k + 1) (tids ++ [[]]) K ⟨jj fr dst true (.d (.bool (if neg = true then !b else b))), os, live, nt⟩) :
  nilO P ops k tids K dst ⟨fr, os, live, nt⟩ true neg ok s := ⟨rfl, ho, es, rows, hr, h⟩
structure Fits0 (live : List Nat) (as fa : List ASlot) : Prop where
 all : vg as fa
 noPtr : fa.all ASlot.noPtr = true
 lv : ∀ p ∈ qx as fa, p.1 ∈ live
 nd1 : ((qx as fa).map (·.1)).Nodup
theorem qi4 {P : Program} {ops : List SOper} {k : Nat} {tids : List (List Nat)} {K : List (List Nat) → St → Prop} {fr : Fr} {os : List AObj} {live : List Nat} {nt : Nat} {dst : Option Nat} {ok : Bool} {n : FuncId} {fa as : List ASlot} {r : ASlot}
  (hc : ql P n fa [] r []) (hb : (P.funcs[n]?).any (fun fn => fn.body.isSome && !(fn.name == "runtime.NumGoroutine")) = true) (ho : ok = true)
  (hfit : Fits0 live as fa) (hnd : r.toks.Nodup) (hfew : r.toks.length ≤ 16)
  (hK : ARun P ops (k + 1) (tids ++ [[]]) K ⟨jj fr dst true (wv (16 * (nt + k)) r), os, (live.filter fun t => !((qx as fa).map (·.1)).contains t) ++ (wv (16 * (nt + k)) r).toks, nt⟩) :
  qf3 P ops k tids K dst ⟨fr, os, live, nt⟩ true (some (n, as)) ok :=
 ⟨n, as, fa, r, [], [], [], false, hfew, fun _ => ⟨rfl, ho, hc, hb, ⟨by rw [qi3]; exact hfit.all, List.all_eq_true.2 fun s hs => qg3 _ (List.all_eq_true.1 hfit.noPtr s hs), hfit.lv, hfit.nd1⟩, qk7 _, hnd, (nomatch ·)⟩, .inl rfl, hK⟩
theorem qo {P : Program} {k0 : Nat} {c : Opd} {x y : SCode} {Q : SExit → St → Prop} {st : St} (t : Bool) (h1 : c.ok st.fr = true) (h2 : c.get st.fr = .d (.bool t)) (hx : t = true → AWp P k0 x Q st) (hy : t = false → AWp P k0 y Q st) : AWp P k0 (.cond c x y) Q st :=
 ⟨t, ⟨h1, h2⟩, hx, hy⟩
theorem xhp {P : Program} {k0 : Nat} {a b : SCode} {Q : SExit → St → Prop} {st : St} : AWp P k0 (.seq a b) Q st = AWp P k0 a (qez (AWp P k0 b Q) Q) st := rfl
theorem q2v {P : Program} {k0 : Nat} {Q : SExit → St → Prop} {st : St} : AWp P k0 .skip Q st = Q .normal st := rfl
theorem qxr {P : Program} {k0 id : Nat} {a : SCode} {Q : SExit → St → Prop} {st : St} : AWp P k0 (.block id a) Q st = AWp P k0 a (qor id Q) st := rfl
theorem q2w {P : Program} {k0 id : Nat} {Q : SExit → St → Prop} {st : St} : AWp P k0 (.exit id) Q st = Q (.exit id) st := rfl
theorem xhq {P : Program} {k0 : Nat} {Q : SExit → St → Prop} {st : St} : AWp P k0 .ret Q st = Q .ret st := rfl
def disj : List Nat → List Nat → Bool
 | [], _ => true
 | i :: l, r => !r.contains i && disj l r
theorem qmn : ∀ (l r : List Nat), disj l r = true ↔ ∀ i ∈ l, i ∉ r
 | [], r => by simp [disj]
 | i :: l, r => by simp [disj, qmn l r]
theorem q2x {l : List Nat} : disj l [] = true := (qmn l []).2 (by simp)
theorem qoz {p : Nat × Nat} {ps : List (Nat × Nat)} {tids : List (List Nat)} : qa8 (p :: ps) tids = (disj (tids.getD p.1 []) (tids.getD p.2 []) = true ∧ qa8 ps tids) := by
 rw [qmn]
 apply propext
 simp only [qa8, List.forall_mem_cons]
theorem qr1 {tids : List (List Nat)} : qa8 [] tids = True := by simp [qa8]
theorem St.bump_mk {fr : Fr} {os : List AObj} {live : List Nat} {nt n : Nat} : (⟨fr, os, live, nt⟩ : St).bump n = ⟨fr, os, live, nt + n⟩ := rfl
theorem q2y (c a : Bool) : (if c = true then a else false) = (c && a) := by cases c <;> rfl
theorem xhr (c b : Bool) : (if c = true then true else b) = (c || b) := by cases c <;> rfl
theorem xks (b : Bool) : (b == true) = b := by cases b <;> rfl
theorem xkt (b : Bool) : (b == false) = !b := by cases b <;> rfl
def qk8 : List Nat → Bool
 | [] => true
 | t :: l => !l.contains t && qk8 l
theorem qk9 : ∀ (l : List Nat), qk8 l = true ↔ l.Nodup
 | [] => by simp [qk8]
 | t :: l => by simp [qk8, qk9 l]
def q2z (live live' : List Nat) (ps : List (Nat × Nat)) : Bool := ps.all fun p => !live'.contains p.2 || live.contains p.1
def ltB (n : Nat) (l : List Nat) : Bool := l.all fun t => decide (t < n)
theorem q20 {k0 : Nat} {fr fr' : Fr} {os os' : List AObj} {live live' : List Nat} {nt nt' : Nat} : Weak k0 ⟨fr, os, live, nt⟩ ⟨fr', os', live', nt'⟩ ↔
  frW (kx os') fr fr' ∧ osW (kx os') os os' ∧ q2z live live' (w4 fr fr' ++ jo os os') = true ∧ qk8 ((w4 fr fr' ++ jo os os').map (·.1)) = true ∧ qb1 k0 os os' ∧
  ltB (16 * nt') (live' ++ qdp fr' ++ qbh os') = true := by
 have h1 : q2z live live' (w4 fr fr' ++ jo os os') = true ↔ ∀ p ∈ w4 fr fr' ++ jo os os', p.2 ∈ live' → p.1 ∈ live := by
  simp only [q2z, List.all_eq_true, Bool.or_eq_true, Bool.not_eq_true', List.contains_iff_mem, ← Bool.not_eq_true]
  exact ⟨fun h p hp hl => (h p hp).resolve_left (fun hn => hn hl), fun h p hp => by by_cases hl : p.2 ∈ live' <;> simp [hl, h p hp]⟩
 have h2 : ltB (16 * nt') (live' ++ qdp fr' ++ qbh os') = true ↔ ∀ t ∈ live' ++ qdp fr' ++ qbh os', t < 16 * nt' := by
  simp only [ltB, List.all_eq_true, decide_eq_true_eq]
 rw [h1, h2, qk9]
 exact ⟨fun h => ⟨h.fr, h.os, h.live, h.nd, h.base, h.wf⟩, fun h => ⟨h.1, h.2.1, h.2.2.1, h.2.2.2.1, h.2.2.2.2.1, h.2.2.2.2.2⟩⟩
theorem xhs {keep : Nat → Bool} {os : List AObj} : osW keep os [] = True := by cases os with | nil => rfl | cons o l => cases o <;> rfl
theorem q21 {keep : Nat → Bool} {o : AObj} {l l' : List AObj} : osW keep (o :: l) (.none :: l') = osW keep l l' := by cases o <;> rfl
theorem qr2 {os : List AObj} : jo os [] = [] := by cases os with | nil => rfl | cons o l => cases o <;> rfl
theorem qo0 {o : AObj} {l l' : List AObj} : jo (o :: l) (.none :: l') = jo l l' := by cases o <;> rfl
theorem xht {keep : Nat → Bool} {cs : List ASlot} : csW keep cs [] = True := by cases cs <;> rfl
theorem qr3 {cs : List ASlot} : qa9 cs [] = [] := by cases cs <;> rfl
theorem qmo {os os' : List AObj} : qb1 0 os os' = True := by simp [qb1]
theorem xhu {keep : Nat → Bool} {s : ASlot} {x : D} : yw keep s (.d x) = (s.eqvD x ∧ x.okW keep = true) := by cases s <;> rfl
theorem qxs {keep : Nat → Bool} {s : ASlot} : yw keep s .bad = True := by cases s <;> rfl
theorem qxt {s : ASlot} {x : D} : jb s (.d x) = [] := by cases s <;> rfl
theorem qo1 {s : ASlot} {es : Nat} {rows : List (List D)} : jb s (.full es rows) = [] := by cases s <;> rfl
theorem qr4 {s : ASlot} : jb s .bad = [] := by cases s <;> rfl
theorem qvf {s : ASlot} {cs : List D} : jb s (.rd cs) = [] := by cases s <;> rfl
theorem qr5 {t t' es es' : Nat} {r r' : List (List D)} : jb (.own t es r) (.own t' es' r') = [(t, t')] := rfl
def qf6 (st : St) : List RVar → Prop
 | [] => True
 | r :: l => r.good st ∧ qf6 st l
theorem qi5 {st : St} : ∀ (l : List RVar), qf6 st l ↔ ∀ r ∈ l, r.good st
 | [] => by simp [qf6]
 | r :: l => by simp [qf6, qi5 l]
theorem qi6 {α : Type} {x : α} {p : α → Prop} : (∀ y ∈ some x, p y) = p x := by simp
theorem qi7 {α : Type} {p : α → Prop} : (∀ y ∈ (none : Option α), p y) = True := by simp
theorem q22 {k0 : Nat} {rvs : List RVar} {rs : List ASlot} {objs : List AObj} {fr : Fr} {os : List AObj} {live : List Nat} {nt : Nat} :
  q2c k0 rvs rs objs ⟨fr, os, live, nt⟩ = (qf6 ⟨fr, os, live, nt⟩ rvs ∧ Weak k0 ⟨vl (rvs.map (RVar.slot ⟨fr, os, live, nt⟩)) 0, os, live, nt⟩ ⟨vl rs 0, objs, jx rs, 1⟩) := by rw [qi5]; rfl
def x8j {α : Type} (k0 : Nat) (S : α → St) (μ : α → Nat) (x : α) (st' : St) : Prop := ∃ y, Weak k0 st' (S y) ∧ μ y < μ x
theorem qv {α : Type} {P : Program} {k0 : Nat} {a : SCode} {Q : SExit → St → Prop} {st : St} (S : α → St) (μ : α → Nat) (x0 : α) (h0 : Weak k0 st (S x0))
  (h : ∀ x, AWp P k0 a (qez (x8j k0 S μ x) Q) (S x)) : AWp P k0 (.loop a) Q st :=
 ⟨α, S, μ, x0, .weak h0 (.refl _), fun x => AWp.mono a (qc7 (fun _ ⟨y, h1, h2⟩ => ⟨y, .weak h1 (.refl _), h2⟩) (fun _ _ h => h)) (h x)⟩
theorem qxu {keep : Nat → Bool} {t t' es es' : Nat} {r r' : List (List D)} : yw keep (.own t es r) (.own t' es' r') = ((es = es' ∧ D.eqvR r r') ∧ D.noPtrR r' = true) := rfl
theorem qkh {keep : Nat → Bool} {t' es es' : Nat} {r r' : List (List D)} : yw keep (.full es r) (.own t' es' r') = (ki es r es' r' ∧ D.noPtrR r' = true) := rfl
theorem qvg {keep : Nat → Bool} {es es' : Nat} {r r' : List (List D)} : yw keep (.full es r) (.full es' r') = (ki es r es' r' ∧ D.noPtrR r' = true) := rfl
theorem q23 {keep : Nat → Bool} {r r' : List D} : yw keep (.rd r) (.rd r') = (D.eqvL r r' ∧ D.noPtrL r' = true) := rfl
theorem xhv {keep : Nat → Bool} {cs cs' : List ASlot} {l l' : List AObj} : osW keep (.row cs :: l) (.row cs' :: l') = (csW keep cs cs' ∧ osW keep l l') := rfl
theorem qr6 {cs cs' : List ASlot} {l l' : List AObj} : jo (.row cs :: l) (.row cs' :: l') = qa9 cs cs' ++ jo l l' := rfl
theorem q24 {keep : Nat → Bool} {s s' : ASlot} {l l' : List ASlot} : csW keep (s :: l) (s' :: l') = (yw keep s s' ∧ csW keep l l') := rfl
theorem qo2 {s s' : ASlot} {l l' : List ASlot} : qa9 (s :: l) (s' :: l') = jb s s' ++ qa9 l l' := rfl
theorem qmp {n : Nat} : ((n : Int) + 1).toNat = n + 1 := by omega
theorem qo3 {α β : Type} {f : α → β} {l : List α} : (l.map f).take l.length = l.map f := by rw [List.take_of_length_le (by simp)]
theorem D.default_eq : (default : D) = .int default default := rfl
theorem qmq {keep : Nat → Bool} {t' es' : Nat} {r' : List (List D)} : yw keep (.d .nilsl) (.own t' es' r') = (r' = []) := rfl
theorem qki {keep : Nat → Bool} {es' : Nat} {r' : List (List D)} : yw keep (.d .nilsl) (.full es' r') = (r' = []) := rfl
theorem qmr {x : D} {t' es' : Nat} {r' : List (List D)} : jb (.d x) (.own t' es' r') = [] := rfl
theorem qkj {t' es' : Nat} {r' : List (List D)} : wn (.d .nilsl) (.own t' es' r') = (r' = []) := rfl
theorem qi8 {es' : Nat} {r' : List (List D)} : wn (.d .nilsl) (.full es' r') = (r' = []) := rfl
theorem q25 {es' : Nat} {r' : List (List D)} : D.eqv .nilsl (.sl es' r') = (r' = []) := by simp [D.eqv]
theorem qhi {t' es es' : Nat} {r r' : List (List D)} : jb (.full es r) (.own t' es' r') = [] := rfl
theorem qxv (t : Nat) : [t].Nodup = True := by simp
theorem qz {α β : Type} (f : α → β) (l : List α) {i : Nat} (h : i < l.length) (d : β) : (l.map f).getD i d = f l[i] := by simp [List.getD, h]
theorem xn {α : Type} {f : α → List D} (h : ∀ x, D.noPtrL (f x) = true) (l : List α) : D.noPtrR (l.map f) = true := by
 induction l with
 | nil => rfl
 | cons x l ih => simp [D.noPtrR, h, ih]
theorem qb3 {α β : Type} (f : α → β) (l : List α) {i : Nat} (h : i < l.length) : (l.take (i + 1)).map f = (l.take i).map f ++ [f l[i]] := by
 rw [List.take_succ_eq_append_getElem h, List.map_append]; rfl
theorem qe0 : ∀ (a b : List D), D.noPtrL (a ++ b) = (D.noPtrL a && D.noPtrL b)
 | [], b => by simp [D.noPtrL]
 | x :: a, b => by simp [D.noPtrL, qe0 a b, Bool.and_assoc]
theorem qe1 : ∀ (a b : List (List D)), D.noPtrR (a ++ b) = (D.noPtrR a && D.noPtrR b)
 | [], b => by simp [D.noPtrR]
 | x :: a, b => by simp [D.noPtrR, qe1 a b, Bool.and_assoc]
theorem wrap_i64 {n : Int} (h1 : -9223372036854775808 ≤ n) (h2 : n ≤ 9223372036854775807) : IntKind.i64.wrap n = n := IntWalk.i64_in n ⟨h1, h2⟩
theorem qr {n : Nat} (h : n < 9223372036854775807) : IntKind.i64.wrap ((n : Int) + 1) = ((n + 1 : Nat) : Int) := by
 rw [wrap_i64 (by omega) (by omega)]; rfl
theorem qms {k : Nat} {o o' : AObj} {os os' : List AObj} : qb1 (k + 1) (o :: os) (o' :: os') = ((kx [o] 0 = true → kx [o'] 0 = true) ∧ qb1 k os os') := by
 apply propext
 simp only [qb1]
 constructor
 ·intro h
  refine ⟨fun h0 => ?_, fun id hid hk => ?_⟩
  ·exact h 0 (by omega) h0
  ·exact h (id + 1) (by omega) hk
 ·rintro ⟨h1, h2⟩ id hid hk
  cases id with
  | zero => exact h1 hk
  | succ id => exact h2 id (by omega) hk
theorem qtp {P : Program} {mu : List Nat} {news : List (FuncId × Nat)} {f : FuncId} {fn : Func} {sc : SCode} {args rs : List ASlot} {rvs : List RVar} {objs objs' : List AObj} (hm : P.follows .mixedOrders = true) (hf : P.funcs[f]? = some fn)
  (hc : fn.body.bind (x5 P mu fn.ntmps news) = some sc.erase) (hr : fn.results.toList.mapM (qd1 P) = some rvs)
  (h : AWp P objs.length sc (qxf objs.length rvs rs objs') (qf1 args objs)) (hN : args.length ≤ fn.ntmps) (hl : rvs.length = rs.length) (hw : ltB 16 (jx args ++ qbh objs) = true) : ql P f args objs (qos rs) objs' := by
 rw [Option.bind_eq_some_iff] at hc
 obtain ⟨c, hb, hc⟩ := hc
 refine qml hm hf hb (rv := fn.results.toList) (by simp) hr hc hN hl (fun t ht => ?_) h
 simp only [ltB, List.all_eq_true, decide_eq_true_eq] at hw
 exact hw t ht
theorem qxw {rs : List ASlot} (h : rs.length ≠ 1) : qos rs = .tup rs := by
 match rs with
 | [] => rfl
 | [_] => simp at h
 | _ :: _ :: _ => rfl
theorem zkx (d : D) : D.eqv d d = True := eq_true (D.eqv_refl d)
theorem x8l (d : List D) : D.eqvL d d = True := eq_true (D.eqvL_refl d)
theorem x8m (d : List (List D)) : D.eqvR d d = True := eq_true (D.eqvR_refl d)
theorem xhw {k k' : IntKind} {n n' : Int} : D.eqv (.int k n) (.int k' n') = (k = k' ∧ n = n') := by simp [D.eqv]
theorem q26 {b b' : Bool} : D.eqv (.bool b) (.bool b') = (b = b') := by simp [D.eqv]
theorem xhx {b b' : List UInt8} : D.eqv (.str b) (.str b') = (b = b') := by simp [D.eqv]
theorem xkv {es es' : Nat} {r r' : List (List D)} : D.eqv (.sl es r) (.sl es' r') = ki es r es' r' := by simp [D.eqv, ki]
theorem xhy {l l' : List D} : D.eqv (.agg l) (.agg l') = D.eqvL l l' := by simp [D.eqv]
theorem xhz {b b' o o' : Nat} : D.eqv (.ptr b o) (.ptr b' o') = (b = b' ∧ o = o') := by simp [D.eqv]
theorem xh0 {b b' o o' e e' n n' : Nat} : D.eqv (.ref b o e n) (.ref b' o' e' n') = (b = b' ∧ o = o' ∧ e = e' ∧ n = n') := by simp [D.eqv]
theorem xh1 {b b' : Nat} : D.eqv (.map b) (.map b') = (b = b') := by simp [D.eqv]
theorem q27 {f f' : Fn} {a a' b b' : List D} : D.eqv (.func f a b) (.func f' a' b') = (f = f' ∧ D.eqvL a a' ∧ D.eqvL b b') := by simp [D.eqv]
theorem qxx {t t' : TypeId} {a a' : D} : D.eqv (.iface t a) (.iface t' a') = (t = t' ∧ D.eqv a a') := by simp [D.eqv]
theorem qxy {a a' : D} {l l' : List D} : D.eqvL (a :: l) (a' :: l') = (D.eqv a a' ∧ D.eqvL l l') := by simp [D.eqvL]
theorem q28 : D.eqvL [] [] = True := by simp [D.eqvL]
theorem qxz {a a' : List D} {l l' : List (List D)} : D.eqvR (a :: l) (a' :: l') = (D.eqvL a a' ∧ D.eqvR l l') := by simp [D.eqvR]
theorem q29 : D.eqvR [] [] = True := by simp [D.eqvR]
theorem qo4 {es : Nat} {r r' : List (List D)} : ki es r es r' = D.eqvR r r' := by simp [ki]
theorem qr7 {es es' : Nat} : ki es [] es' [] = True := by simp [ki, D.eqvR]
theorem qi9 {α : Type} {es es' : Nat} {f : α → List D} : ki es [] es' (List.map f []) = True := by simp [ki, D.eqvR]
theorem q3a {a b b' : List (List D)} : D.eqvR (a ++ b) (a ++ b') = D.eqvR b b' := by
 induction a with
 | nil => rfl
 | cons x a ih => simp [D.eqvR, D.eqvL_refl, ih]
theorem q3b {s : ASlot} {x : D} : wn s (.d x) = s.eqvD x := by cases s <;> rfl
theorem qvh {t t' es es' : Nat} {r r' : List (List D)} : wn (.own t es r) (.own t' es' r') = (es = es' ∧ D.eqvR r r') := rfl
theorem qja {t' es es' : Nat} {r r' : List (List D)} : wn (.full es r) (.own t' es' r') = ki es r es' r' := rfl
theorem qr8 {es es' : Nat} {r r' : List (List D)} : wn (.full es r) (.full es' r') = ki es r es' r' := rfl
theorem qx0 {r r' : List D} : wn (.rd r) (.rd r') = D.eqvL r r' := rfl
theorem qd {x : D} : wn (.d x) (.d x) := D.eqv_refl x
def xh2 (P : Program) (ops : List SOper) (objs : Nat) (pairs : List (Nat × Nat)) (Q : SExit → St → Prop) (st : St) : Prop := AWp P 0 (.region ops objs pairs) Q st
theorem xh3 {P : Program} {k0 : Nat} {ops : List SOper} {objs : Nat} {pairs : List (Nat × Nat)} {Q : SExit → St → Prop} {st : St} : AWp P k0 (.region ops objs pairs) Q st = xh2 P ops objs pairs Q st := rfl
def xh4 (P : Program) (ops : List SOper) (objs : Nat) (pairs : List (Nat × Nat)) (Q : SExit → St → Prop) (st : St) : Prop := AWp P 0 (.region ops objs pairs) Q st
def regK (pairs : List (Nat × Nat)) (Q : SExit → St → Prop) (n : Nat) (tids : List (List Nat)) (st' : St) : Prop := qa8 pairs tids ∧ Q .normal (st'.bump n)
theorem xh5 {pairs : List (Nat × Nat)} {Q : SExit → St → Prop} {n : Nat} {tids : List (List Nat)} {fr : Fr} {os : List AObj} {live : List Nat} {nt : Nat} :
  regK pairs Q n tids ⟨fr, os, live, nt⟩ = (qa8 pairs tids ∧ Q .normal (⟨fr, os, live, nt + n⟩)) := rfl
theorem q3c {P : Program} {ops : List SOper} {objs : Nat} {pairs : List (Nat × Nat)} {Q : SExit → St → Prop} {fr : Fr} {os : List AObj} {live : List Nat} {nt : Nat} :
  xh4 P ops objs pairs Q ⟨fr, os, live, nt⟩ = ARun P ops 0 [] (regK pairs Q ops.length) ⟨fr, os ++ List.replicate objs .none, live, nt⟩ := rfl
def xh6 {ops lit : List SOper} (_ : ops = lit) : List SOper := lit
theorem q3d {ops lit : List SOper} (h : ops = lit) {P : Program} {objs : Nat} {pairs : List (Nat × Nat)} {Q : SExit → St → Prop} {st : St} : xh2 P ops objs pairs Q st = xh4 P (xh6 h) objs pairs Q st := by
 subst h
 rfl
attribute [go_sem] qry jg qh8 eqOk xhp xh3 q3c xh5 xh6 q2v qxr q2w xhq qez qor qxf q2e q2f qxg q2g qu3 qu4 qi2 qxh qu5 qmm q2h q2i qu6 qu7 q2j q2k qxi q2l q2m q2n qrn qkf qu8 qrp qu9 qva qvb qrq qrr qrs qot q2o qxj qvc qrt qf1 vl jx List.flatMap_cons List.flatMap_nil ASlot.toks List.append_nil List.nil_append List.replicate Nat.zero_add Nat.add_zero qxo qgy gv xf sem q2p q2q qxn Fr.get Opd.get Opd.ok jj if_true if_false ite_self or_false or_true true_or false_or or_self List.filter_cons List.filter_nil List.contains_cons List.contains_nil Int.cast_ofNat_Int Int.natCast_add not_false_eq_true implies_true forall_const imp_self and_self true_and and_true false_and and_false Bool.and_true Bool.true_and Bool.false_and Bool.and_false Bool.or_true Bool.true_or Bool.or_false Bool.false_or Bool.not_true Bool.not_false Bool.not_not q2y xhr xks xkt Bool.false_eq_true List.length_cons List.length_nil List.length_append List.set_cons_zero List.set_cons_succ List.cons_append List.map_cons List.map_nil List.all_cons List.all_nil List.getElem?_cons_zero List.getElem?_cons_succ List.getElem?_nil List.getD_cons_zero List.getD_cons_succ List.drop_zero List.drop_succ_cons List.take_zero List.take_succ_cons List.drop_nil List.take_nil List.forall_mem_cons List.not_mem_nil false_imp_iff List.flatten_cons List.flatten_nil ASlot.toCells ASlot.dCells ASlot.dCellsOk ASlot.cellD ASlot.isCellD ASlot.isOne ASlot.asD ASlot.rows D.isCell zy jl storeAt vy qh AObj.cells binS qec qgp yu hiB loB wh qh4 wi kb zb v6 qhf Option.map_some Option.map_none Option.isSome_some qr1 St.bump_mk q22 qf6 qe1 qe0 qk8 q2z ltB qi6 qi7 decide_true decide_false RVar.good RVar.slot q20 frW w4 xhu qxs qxu qkh qvg q23 qhi qxv Int.toNat_natCast List.length_map qxt qo1 qr4 qvf qr5 xhs q21 qr2 qo0 xht qr3 qmo qdp qbh List.nodup_nil Option.some.injEq ASlot.d.injEq D.bool.injEq D.int.injEq D.agg.injEq D.sl.injEq List.cons.injEq D.okW D.okWL D.okWR D.okW_noPtr D.okWL_noPtr D.okWR_noPtr D.noPtr D.noPtrL D.noPtrR ASlot.eqvD zkx x8l x8m xhw q26 xhx xkv xhy xhz xh0 xh1 q27 qxx qxy q28 qxz q29 qo4 qr7 qi9 q3a q3b qvh qja qr8 qx0 vg qmq qki qmr qkj qi8 q25 xhv qr6 q24 qo2 kx Int.toNat_zero D.default_eq Option.getD_some Option.getD_none qmp qo3 Nat.add_sub_cancel beq_self_eq_true ASlot.noPtr qx Bool.and_self Bool.and_self_left Bool.and_self_right bne_self_eq_false qoz disj q2x qms D.ren D.renL D.renR xhl x8i xhm q2r xkr xhn xho ASlot.ren1 AObj.ren D.renL_noPtr D.renR_noPtr D.ren_noPtr D.inK D.inKL D.inKR D.inK_noPtr D.inKL_noPtr D.inKR_noPtr ASlot.inK ASlot.inKC AObj.inK x8 List.zip_cons_cons List.zip_nil_left List.zip_nil_right qat qwx qa7 qod isNone qcq List.isEmpty_nil List.isEmpty_cons List.drop_nil Option.some_inj exists_eq_left' exists_eq_left Option.toList_some Option.toList_none
end Go.Abs
