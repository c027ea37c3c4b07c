/- Texts Ba. -/
import Derived.Test.YtinnaedmdoengaaMgh
import Derived.Calls
import Derived.Orders
import Derived.Tactics
import Derived.Laws.AppendOwn
import Derived.Laws.Slices
import Derived.Laws.Closers25
import Derived.Laws.StructEq
import Derived.Laws.BytesString
import Derived.Laws.CopyRow
import Derived.MapKept
import Derived.Maps.RangeRun
import Derived.TacticsIn
import Derived.OrdersIn
import Derived.RangeFuncRecord
import Derived.RangeFuncLeaves
import Derived.IntWalk

namespace Go.Abs
def SOp.special : SOp → Bool
 | .call .. => true
 | .eqnilS .. => true
 | .nextM .. => true
 | .appendR .. => true
 | .entryM .. => true
 | _ => false
def St.put (st : St) (dst : Option Nat) (g : Bool) (out : Out) : St :=
 {fr := putFr st.fr dst g out.v, os := setAll st.os out.wrs, live := liveAfter st.live out, nt := st.nt }
def stepO (P : Program) (ops : List SOper) (k : Nat) (tids : List (List Nat)) (K : List (List Nat) → St → Prop) (dst : Option Nat) (st : St) (g : Bool) (out : Out) : Prop :=
 Obl g out st.live ∧ ARun P ops (k + 1) (tids ++ [out.touch]) K (st.put dst g out)
def guardO : Option Bool → (Bool → Prop) → Prop
 | some g, F => F g
 | none, _ => False
theorem qsx {P : Program} {k : Nat} {tids : List (List Nat)} {K : List (List Nat) → St → Prop} {st : St} : ARun P [] k tids K st = K tids st := rfl
theorem qf {P : Program} {ops : List SOper} {k : Nat} {tids : List (List Nat)} {K : List (List Nat) → St → Prop} {st : St} {dst : Option Nat} {op : SOp} {gd : Option (Nat × Bool)} (h : op.special = false) :
  ARun P (⟨dst, op, gd⟩ :: ops) k tids K st = guardO (gv st.fr gd) fun g => stepO P ops k tids K dst st g (sem (16 * (st.nt + k)) op st) := by
 simp only [ARun]
 cases gv st.fr gd with
 | none => rfl
 | some g => cases op <;> first | rfl | (simp [SOp.special] at h)
section
variable {P : Program} {ops : List SOper} {k : Nat} {tids : List (List Nat)} {K : List (List Nat) → St → Prop} {st : St} {dst : Option Nat} {gd : Option (Nat × Bool)}
theorem qsy {x : Opd} : ARun P (⟨dst, .mov x, gd⟩ :: ops) k tids K st = guardO (gv st.fr gd) fun g => stepO P ops k tids K dst st g (sem (16 * (st.nt + k)) (.mov x) st) := qf rfl
theorem qpw {c a b : Opd} : ARun P (⟨dst, .pick c a b, gd⟩ :: ops) k tids K st = guardO (gv st.fr gd) fun g => stepO P ops k tids K dst st g (sem (16 * (st.nt + k)) (.pick c a b) st) := qf rfl
theorem qsz {back : Nat} {x : Opd} : ARun P (⟨dst, .box back x, gd⟩ :: ops) k tids K st = guardO (gv st.fr gd) fun g => stepO P ops k tids K dst st g (sem (16 * (st.nt + k)) (.box back x) st) := qf rfl
theorem qnv {back : Nat} {zero : List ASlot} : ARun P (⟨dst, .alloc back zero, gd⟩ :: ops) k tids K st = guardO (gv st.fr gd) fun g => stepO P ops k tids K dst st g (sem (16 * (st.nt + k)) (.alloc back zero) st) := qf rfl
theorem qnw {zero : List D} {parts : List (Nat × Nat × Opd)} : ARun P (⟨dst, .build zero parts, gd⟩ :: ops) k tids K st = guardO (gv st.fr gd) fun g => stepO P ops k tids K dst st g (sem (16 * (st.nt + k)) (.build zero parts) st) := qf rfl
theorem qcw {u : Bool} {es len : Nat} {zero : List D} {parts : List (Nat × Nat × Opd)} : ARun P (⟨dst, .buildSlice u es len zero parts, gd⟩ :: ops) k tids K st = guardO (gv st.fr gd) fun g => stepO P ops k tids K dst st g (sem (16 * (st.nt + k)) (.buildSlice u es len zero parts) st) := qf rfl
theorem qpx {n : Option Nat} {x : Opd} : ARun P (⟨dst, .load n x, gd⟩ :: ops) k tids K st = guardO (gv st.fr gd) fun g => stepO P ops k tids K dst st g (sem (16 * (st.nt + k)) (.load n x) st) := qf rfl
theorem qnx {n : Option Nat} {x v : Opd} : ARun P (⟨dst, .store n x v, gd⟩ :: ops) k tids K st = guardO (gv st.fr gd) fun g => stepO P ops k tids K dst st g (sem (16 * (st.nt + k)) (.store n x v) st) := qf rfl
theorem qgd {x : Opd} : ARun P (⟨dst, .nilCheck x, gd⟩ :: ops) k tids K st = guardO (gv st.fr gd) fun g => stepO P ops k tids K dst st g (sem (16 * (st.nt + k)) (.nilCheck x) st) := qf rfl
theorem qs0 {op' : BinOp} {x y : Opd} : ARun P (⟨dst, .bin op' x y, gd⟩ :: ops) k tids K st = guardO (gv st.fr gd) fun g => stepO P ops k tids K dst st g (sem (16 * (st.nt + k)) (.bin op' x y) st) := qf rfl
theorem qs1 {neg : Bool} {x y : Opd} : ARun P (⟨dst, .eqb neg x y, gd⟩ :: ops) k tids K st = guardO (gv st.fr gd) fun g => stepO P ops k tids K dst st g (sem (16 * (st.nt + k)) (.eqb neg x y) st) := qf rfl
theorem qny {neg : Bool} {k' : NK} {x : Opd} : ARun P (⟨dst, .eqnil neg k' x, gd⟩ :: ops) k tids K st = guardO (gv st.fr gd) fun g => stepO P ops k tids K dst st g (sem (16 * (st.nt + k)) (.eqnil neg k' x) st) := qf rfl
theorem qnz {neg : Bool} {ks : List CK} {x y : Opd} : ARun P (⟨dst, .eqAgg neg ks x y, gd⟩ :: ops) k tids K st = guardO (gv st.fr gd) fun g => stepO P ops k tids K dst st g (sem (16 * (st.nt + k)) (.eqAgg neg ks x y) st) := qf rfl
theorem qs2 {x : Opd} : ARun P (⟨dst, .not x, gd⟩ :: ops) k tids K st = guardO (gv st.fr gd) fun g => stepO P ops k tids K dst st g (sem (16 * (st.nt + k)) (.not x) st) := qf rfl
theorem qs3 {x : Opd} : ARun P (⟨dst, .neg x, gd⟩ :: ops) k tids K st = guardO (gv st.fr gd) fun g => stepO P ops k tids K dst st g (sem (16 * (st.nt + k)) (.neg x) st) := qf rfl
theorem qpy {k' : IntKind} {x : Opd} : ARun P (⟨dst, .conv k' x, gd⟩ :: ops) k tids K st = guardO (gv st.fr gd) fun g => stepO P ops k tids K dst st g (sem (16 * (st.nt + k)) (.conv k' x) st) := qf rfl
theorem qs4 {x : Opd} : ARun P (⟨dst, .i2s x, gd⟩ :: ops) k tids K st = guardO (gv st.fr gd) fun g => stepO P ops k tids K dst st g (sem (16 * (st.nt + k)) (.i2s x) st) := qf rfl
theorem qs5 {x : Opd} : ARun P (⟨dst, .b2s x, gd⟩ :: ops) k tids K st = guardO (gv st.fr gd) fun g => stepO P ops k tids K dst st g (sem (16 * (st.nt + k)) (.b2s x) st) := qf rfl
theorem qs6 {x : Opd} : ARun P (⟨dst, .s2b x, gd⟩ :: ops) k tids K st = guardO (gv st.fr gd) fun g => stepO P ops k tids K dst st g (sem (16 * (st.nt + k)) (.s2b x) st) := qf rfl
theorem qko {fn : Fn} {first captured : List Opd} : ARun P (⟨dst, .mkFunc fn first captured, gd⟩ :: ops) k tids K st = guardO (gv st.fr gd) fun g => stepO P ops k tids K dst st g (sem (16 * (st.nt + k)) (.mkFunc fn first captured) st) := qf rfl
theorem qed {u : Bool} {es bytes : Nat} {zero : List D} {l c : Opd} : ARun P (⟨dst, .makeSlice u es bytes zero l c, gd⟩ :: ops) k tids K st = guardO (gv st.fr gd) fun g => stepO P ops k tids K dst st g (sem (16 * (st.nt + k)) (.makeSlice u es bytes zero l c) st) := qf rfl
theorem qn0 {es : Nat} {x : Opd} {lo hi mx : Option Opd} : ARun P (⟨dst, .slice es x lo hi mx, gd⟩ :: ops) k tids K st = guardO (gv st.fr gd) fun g => stepO P ops k tids K dst st g (sem (16 * (st.nt + k)) (.slice es x lo hi mx) st) := qf rfl
theorem qkp {len es : Nat} {x : Opd} {lo hi mx : Option Opd} : ARun P (⟨dst, .sliceA len es x lo hi mx, gd⟩ :: ops) k tids K st = guardO (gv st.fr gd) fun g => stepO P ops k tids K dst st g (sem (16 * (st.nt + k)) (.sliceA len es x lo hi mx) st) := qf rfl
theorem qkq {x : Opd} {lo hi : Option Opd} : ARun P (⟨dst, .sliceS x lo hi, gd⟩ :: ops) k tids K st = guardO (gv st.fr gd) fun g => stepO P ops k tids K dst st g (sem (16 * (st.nt + k)) (.sliceS x lo hi) st) := qf rfl
theorem qn1 {off : Nat} {x : Opd} : ARun P (⟨dst, .faddr off x, gd⟩ :: ops) k tids K st = guardO (gv st.fr gd) fun g => stepO P ops k tids K dst st g (sem (16 * (st.nt + k)) (.faddr off x) st) := qf rfl
theorem qn2 {n : Option Nat} {off : Nat} {x : Opd} : ARun P (⟨dst, .field n off x, gd⟩ :: ops) k tids K st = guardO (gv st.fr gd) fun g => stepO P ops k tids K dst st g (sem (16 * (st.nt + k)) (.field n off x) st) := qf rfl
theorem qn3 {es : Nat} {x i : Opd} : ARun P (⟨dst, .iaddr es x i, gd⟩ :: ops) k tids K st = guardO (gv st.fr gd) fun g => stepO P ops k tids K dst st g (sem (16 * (st.nt + k)) (.iaddr es x i) st) := qf rfl
theorem qkr {len es : Nat} {x i : Opd} : ARun P (⟨dst, .iaddrA len es x i, gd⟩ :: ops) k tids K st = guardO (gv st.fr gd) fun g => stepO P ops k tids K dst st g (sem (16 * (st.nt + k)) (.iaddrA len es x i) st) := qf rfl
theorem qks {x i : Opd} : ARun P (⟨dst, .indexS x i, gd⟩ :: ops) k tids K st = guardO (gv st.fr gd) fun g => stepO P ops k tids K dst st g (sem (16 * (st.nt + k)) (.indexS x i) st) := qf rfl
theorem qkt {len es : Nat} {n : Option Nat} {x i : Opd} : ARun P (⟨dst, .indexA len es n x i, gd⟩ :: ops) k tids K st = guardO (gv st.fr gd) fun g => stepO P ops k tids K dst st g (sem (16 * (st.nt + k)) (.indexA len es n x i) st) := qf rfl
theorem qib {i : Nat} {x : Opd} : ARun P (⟨dst, .extract i x, gd⟩ :: ops) k tids K st = guardO (gv st.fr gd) fun g => stepO P ops k tids K dst st g (sem (16 * (st.nt + k)) (.extract i x) st) := qf rfl
theorem qs7 {x : Opd} : ARun P (⟨dst, .len x, gd⟩ :: ops) k tids K st = guardO (gv st.fr gd) fun g => stepO P ops k tids K dst st g (sem (16 * (st.nt + k)) (.len x) st) := qf rfl
theorem qpz {x : Opd} : ARun P (⟨dst, .lenS x, gd⟩ :: ops) k tids K st = guardO (gv st.fr gd) fun g => stepO P ops k tids K dst st g (sem (16 * (st.nt + k)) (.lenS x) st) := qf rfl
theorem qn4 {x : Opd} : ARun P (⟨dst, .asStr x, gd⟩ :: ops) k tids K st = guardO (gv st.fr gd) fun g => stepO P ops k tids K dst st g (sem (16 * (st.nt + k)) (.asStr x) st) := qf rfl
theorem qku {u : Bool} {es bytes : Nat} {s x : Opd} : ARun P (⟨dst, .append u es bytes s x, gd⟩ :: ops) k tids K st = guardO (gv st.fr gd) fun g => stepO P ops k tids K dst st g (sem (16 * (st.nt + k)) (.append u es bytes s x) st) := qf rfl
theorem qp0 {es : Nat} {s x : Opd} : ARun P (⟨dst, .copy es s x, gd⟩ :: ops) k tids K st = guardO (gv st.fr gd) fun g => stepO P ops k tids K dst st g (sem (16 * (st.nt + k)) (.copy es s x) st) := qf rfl
theorem qic {back : Nat} : ARun P (⟨dst, .makeMap back, gd⟩ :: ops) k tids K st = guardO (gv st.fr gd) fun g => stepO P ops k tids K dst st g (sem (16 * (st.nt + k)) (.makeMap back) st) := qf rfl
theorem qp1 {n : Nat} {x : Opd} : ARun P (⟨dst, .s2ap n x, gd⟩ :: ops) k tids K st = guardO (gv st.fr gd) fun g => stepO P ops k tids K dst st g (sem (16 * (st.nt + k)) (.s2ap n x) st) := qf rfl
theorem qkv {kd : KD} {z : ASlot} {c : Bool} {x y : Opd} : ARun P (⟨dst, .lookup kd z c x y, gd⟩ :: ops) k tids K st = guardO (gv st.fr gd) fun g => stepO P ops k tids K dst st g (sem (16 * (st.nt + k)) (.lookup kd z c x y) st) := qf rfl
theorem qee {kd : KD} {x y v : Opd} : ARun P (⟨dst, .mapUpdate kd x y v, gd⟩ :: ops) k tids K st = guardO (gv st.fr gd) fun g => stepO P ops k tids K dst st g (sem (16 * (st.nt + k)) (.mapUpdate kd x y v) st) := qf rfl
theorem qkw {kd : KD} {x y : Opd} : ARun P (⟨dst, .delete kd x y, gd⟩ :: ops) k tids K st = guardO (gv st.fr gd) fun g => stepO P ops k tids K dst st g (sem (16 * (st.nt + k)) (.delete kd x y) st) := qf rfl
theorem qp2 {x : Opd} : ARun P (⟨dst, .lenM x, gd⟩ :: ops) k tids K st = guardO (gv st.fr gd) fun g => stepO P ops k tids K dst st g (sem (16 * (st.nt + k)) (.lenM x) st) := qf rfl
theorem qkx {back : Nat} {x : Opd} : ARun P (⟨dst, .rangeM back x, gd⟩ :: ops) k tids K st = guardO (gv st.fr gd) fun g => stepO P ops k tids K dst st g (sem (16 * (st.nt + k)) (.rangeM back x) st) := qf rfl
theorem qid {t : TypeId} {x : Opd} : ARun P (⟨dst, .mkIface t x, gd⟩ :: ops) k tids K st = guardO (gv st.fr gd) fun g => stepO P ops k tids K dst st g (sem (16 * (st.nt + k)) (.mkIface t x) st) := qf rfl
theorem qie {t : TypeId} {c : Bool} {x : Opd} : ARun P (⟨dst, .assertT t c x, gd⟩ :: ops) k tids K st = guardO (gv st.fr gd) fun g => stepO P ops k tids K dst st g (sem (16 * (st.nt + k)) (.assertT t c x) st) := qf rfl
theorem qif {back es bytes : Nat} {s x : Opd} : ARun P (⟨dst, .appendO back es bytes s x, gd⟩ :: ops) k tids K st = guardO (gv st.fr gd) fun g => stepO P ops k tids K dst st g (sem (16 * (st.nt + k)) (.appendO back es bytes s x) st) := qf rfl
theorem qky {mx : Bool} {x y : Opd} : ARun P (⟨dst, .minmax mx x y, gd⟩ :: ops) k tids K st = guardO (gv st.fr gd) fun g => stepO P ops k tids K dst st g (sem (16 * (st.nt + k)) (.minmax mx x y) st) := qf rfl
end
theorem qs8 {P : Program} {ops : List SOper} {k : Nat} {tids : List (List Nat)} {K : List (List Nat) → St → Prop} {dst : Option Nat} {fr : Fr} {os : List AObj} {live : List Nat} {nt : Nat} {g : Bool} {v : ASlot} {ob : Prop} {rd : Option Nat} :
  stepO P ops k tids K dst ⟨fr, os, live, nt⟩ g ⟨v, ob, rd, none, [], [], []⟩ = ((g = true → ob) ∧ ARun P ops (k + 1) (tids ++ [rd.toList]) K ⟨putFr fr dst g v, os, live, nt⟩) := by
 have hl : liveAfter live (⟨v, ob, rd, none, [], [], []⟩ : Out) = live := qh rfl rfl
 simp only [stepO, Obl, Out.touch, Out.wrs, St.put, Out.tame, hl]
 simp [setAll]
theorem qs9 {P : Program} {ops : List SOper} {k : Nat} {tids : List (List Nat)} {K : List (List Nat) → St → Prop} {dst : Option Nat} {fr : Fr} {os : List AObj} {live : List Nat} {nt : Nat} {g : Bool} {v : ASlot} {ob : Prop} {rd : Option Nat} {id : Nat} {o : AObj} :
  stepO P ops k tids K dst ⟨fr, os, live, nt⟩ g ⟨v, ob, rd, some (id, o), [], [], []⟩ = (g = true ∧ ob ∧ ARun P ops (k + 1) (tids ++ [id :: rd.toList]) K ⟨putFr fr dst g v, os.set id o, live, nt⟩) := by
 have hl : liveAfter live (⟨v, ob, rd, some (id, o), [], [], []⟩ : Out) = live := qh rfl rfl
 simp only [stepO, Obl, Out.touch, Out.wrs, St.put, Out.tame, hl]
 cases g <;> simp [setAll]
theorem qp3 {P : Program} {ops : List SOper} {k : Nat} {tids : List (List Nat)} {K : List (List Nat) → St → Prop} {dst : Option Nat} {fr : Fr} {os : List AObj} {live : List Nat} {nt : Nat} {g : Bool} {v : ASlot} {ob : Prop} {rd : Option Nat} {cons : List Nat} {t : Nat} :
  stepO P ops k tids K dst ⟨fr, os, live, nt⟩ g ⟨v, ob, rd, none, cons, [t], []⟩ = (g = true ∧ ob ∧ (cons.all fun t => live.contains t) = true ∧ ARun P ops (k + 1) (tids ++ [rd.toList]) K ⟨putFr fr dst g v, os, (live.filter fun t => !cons.contains t) ++ [t], nt⟩) := by
 have hc : ((cons.all fun t => live.contains t) = true) = (∀ t ∈ cons, t ∈ live) := by simp
 rw [hc]
 simp only [stepO, Obl, Out.touch, Out.wrs, St.put, Out.tame, liveAfter]
 cases g <;> simp [and_assoc, setAll]
def callO (P : Program) (ops : List SOper) (k : Nat) (tids : List (List Nat)) (K : List (List Nat) → St → Prop) (dst : Option Nat) (st : St) (g : Bool) (c : Option (FuncId × List ASlot)) (ok : Bool) : Prop :=
 ∃ n as fa r fo fo' ι, r.toks.length ≤ 16 ∧ (g = true → c = some (n, as) ∧ ok = true ∧ ACall P n fa fo r fo' ∧ (P.funcs[n]?).any (fun fn => fn.body.isSome && !(fn.name == "runtime.NumGoroutine")) = true ∧ Fits st.live as fa ι fo.length ∧ ObjFit st.os fo fo' ι ∧ r.toks.Nodup) ∧
  (g = true ∨ (callOut (16 * (st.nt + k)) as fa r fo' ι).tame) ∧ ARun P ops (k + 1) (tids ++ [(callOut (16 * (st.nt + k)) as fa r fo' ι).touch]) K (st.put dst g (callOut (16 * (st.nt + k)) as fa r fo' ι))
theorem qp4 {P : Program} {ops : List SOper} {k : Nat} {tids : List (List Nat)} {K : List (List Nat) → St → Prop} {st : St} {dst : Option Nat} {f : Opd} {args : List Opd} {gd : Option (Nat × Bool)} :
  ARun P (⟨dst, .call f args, gd⟩ :: ops) k tids K st = guardO (gv st.fr gd) fun g => callO P ops k tids K dst st g (callOf st.fr f args) (f.ok st.fr && args.all fun x => x.ok st.fr) := by
 simp only [ARun]
 cases hg : gv st.fr gd with
 | none => rfl
 | some g =>
  simp only [guardO, callO]
  apply propext
  constructor
  ·rintro ⟨n, as, fa, r, fo, fo', ι, h1, h2, h3, h4⟩
   exact ⟨n, as, fa, r, fo, fo', ι, h1, fun h => ⟨(h2 h).callee, by rw [(h2 h).ok, (h2 h).oks]; rfl, (h2 h).contract, (h2 h).body, (h2 h).fits, (h2 h).objs, (h2 h).nodup⟩, h3, h4⟩
  ·rintro ⟨n, as, fa, r, fo, fo', ι, h1, h2, h3, h4⟩
   refine ⟨n, as, fa, r, fo, fo', ι, h1, fun h => ?_, h3, h4⟩
   obtain ⟨q1, q2, q3, q4, q5, q6, q7⟩ := h2 h
   rw [Bool.and_eq_true] at q2
   exact ⟨q1, q2.1, q2.2, q3, q4, q5, q6, q7, h1⟩
theorem qey {r : ASlot} (hr : r.toks = []) (b : Nat) : retok b r = r := by
 have hren : ∀ (b : Nat) (s : ASlot), s.toks = [] → renT [] b s = s := by
  intro b s hs
  cases s <;> first | rfl | (simp [ASlot.toks] at hs)
 cases r with
 | tup l =>
  simp only [retok, hr, ASlot.tup.injEq]
  have : ∀ s ∈ l, renT [] b s = s := fun s hs => by
   cases s with
   | own t es rows => simp only [ASlot.toks, List.flatMap_eq_nil_iff] at hr; have := hr _ hs; simp [tokOf] at this
   | uni t es rows => simp only [ASlot.toks, List.flatMap_eq_nil_iff] at hr; have := hr _ hs; simp [tokOf] at this
   | _ => rfl
  rw [List.map_congr_left this, List.map_id']
 | own t es rows => simp [ASlot.toks] at hr
 | uni t es rows => simp [ASlot.toks] at hr
 | _ => rfl
mutual
theorem qbr {s : ASlot} (k : Nat) (h : s.noPtr = true) : s.inK k = true := by
 cases s with
 | d x => exact D.inK_noPtr k h
 | own t es rows => exact D.inKR_noPtr k h
 | uni t es rows => exact D.inKR_noPtr k h
 | full es rows => exact D.inKR_noPtr k h
 | rd cs => exact D.inKL_noPtr k h
 | _ => simp [ASlot.noPtr] at h
end
theorem qez (os : List AObj) : ObjFit os [] [] [] := ⟨List.nodup_nil, rfl, Nat.le_refl _, trivial, by simp, rfl, by simp⟩
theorem qcx (l : List ASlot) : l.map (ASlot.ren []) = l := by
 have : ASlot.ren [] = id := by funext s; rfl
 rw [this, List.map_id]
theorem qm {P : Program} {ops : List SOper} {k : Nat} {tids : List (List Nat)} {K : List (List Nat) → St → Prop} {fr : Fr} {os : List AObj} {live : List Nat} {nt : Nat} {dst : Option Nat} {g ok : Bool} {n : FuncId} {fa as : List ASlot} {r : ASlot}
  (hc : ACall P n fa [] r []) (hb : (P.funcs[n]?).any (fun fn => fn.body.isSome && !(fn.name == "runtime.NumGoroutine")) = true) (ho : g = true → ok = true)
  (hfit : g = true → matchAll as fa) (hnp : fa.all ASlot.noPtr = true) (hh : handed as fa = []) (hr : r.toks = [])
  (hK : ARun P ops (k + 1) (tids ++ [[]]) K ⟨putFr fr dst g r, os, live, nt⟩) :
  callO P ops k tids K dst ⟨fr, os, live, nt⟩ g (some (n, as)) ok := by
 have hre := qey hr
 have hput : St.put (⟨fr, os, live, nt⟩ : St) dst g (callOut (16 * (nt + k)) as fa r [] []) = ⟨putFr fr dst g r, os, live, nt⟩ := by
  simp only [St.put, callOut, Out.wrs, hre, liveAfter, hh, hr]
  simp [setAll, ASlot.ren]
 refine ⟨n, as, fa, r, [], [], [], by rw [hr]; simp, fun h => ⟨rfl, ho h, hc, hb, ⟨by rw [qcx]; exact hfit h, List.all_eq_true.2 fun s hs => qbr _ (List.all_eq_true.1 hnp s hs), by rw [hh]; simp, by rw [hh]; simp⟩, qez _, by rw [hr]; simp⟩, .inr ⟨by simp [callOut, Out.wrs], by simp [callOut, hh], by simp [callOut, hre, hr]⟩, ?_⟩
 rw [hput]
 exact hK
theorem qcy {P : Program} {ops : List SOper} {k : Nat} {tids : List (List Nat)} {K : List (List Nat) → St → Prop} {fr : Fr} {os : List AObj} {live : List Nat} {nt : Nat} {dst : Option Nat} {g ok : Bool} {c : Option (FuncId × List ASlot)} (x : D)
  (hg : g = false) (hK : ARun P ops (k + 1) (tids ++ [[]]) K ⟨putFr fr dst g (.d x), os, live, nt⟩) : callO P ops k tids K dst ⟨fr, os, live, nt⟩ g c ok := by
 subst hg
 refine ⟨0, [], [], .d x, [], [], [], by simp [ASlot.toks], fun h => (by cases h), .inr ⟨rfl, rfl, rfl⟩, ?_⟩
 have : St.put (⟨fr, os, live, nt⟩ : St) dst false (callOut (16 * (nt + k)) [] [] (.d x) [] []) = ⟨putFr fr dst false (.d x), os, live, nt⟩ := by
  simp [St.put, callOut, Out.wrs, retok, renT, liveAfter, handed, ASlot.toks, setAll, ASlot.ren]
 rw [this]
 exact hK
theorem qvw {s : ASlot} : ASlot.ren [] s = s := rfl
theorem q7p {i : Nat} {ι : List Nat} {x : D} : ASlot.ren (i :: ι) (.d x) = .d (x.ren (i :: ι)) := rfl
theorem qvx {i : Nat} {ι : List Nat} {t es : Nat} {rows : List (List D)} : ASlot.ren (i :: ι) (.own t es rows) = .own t es (D.renR (i :: ι) rows) := rfl
theorem qta {i : Nat} {ι : List Nat} {es : Nat} {rows : List (List D)} : ASlot.ren (i :: ι) (.full es rows) = .full es (D.renR (i :: ι) rows) := rfl
theorem qya {i : Nat} {ι : List Nat} {cs : List D} : ASlot.ren (i :: ι) (.rd cs) = .rd (D.renL (i :: ι) cs) := rfl
theorem qvy {i : Nat} {ι : List Nat} {l : List ASlot} : ASlot.ren (i :: ι) (.tup l) = .tup (l.map (ASlot.ren1 (i :: ι))) := rfl
theorem qvz {i : Nat} {ι : List Nat} : ASlot.ren (i :: ι) .bad = .bad := rfl
def isNone (os : List AObj) (id : Nat) : Bool := match os[id]? with | some .none => true | _ => false
def noToks : List ASlot → Bool
 | [] => true
 | s :: l => s.toks.isEmpty && noToks l
theorem qe0 : ∀ (l : List ASlot), noToks l = true ↔ ∀ s ∈ l, s.toks = []
 | [] => by simp [noToks]
 | s :: l => by simp [noToks, qe0 l]
theorem qp5 {P : Program} {ops : List SOper} {k : Nat} {tids : List (List Nat)} {K : List (List Nat) → St → Prop} {fr : Fr} {os : List AObj} {live : List Nat} {nt : Nat} {dst : Option Nat} {ok : Bool} {n : FuncId} {fa as : List ASlot} {r : ASlot} {fo fo' : List AObj} (ι : List Nat)
  (hc : ACall P n fa fo r fo') (hb : (P.funcs[n]?).any (fun fn => fn.body.isSome && !(fn.name == "runtime.NumGoroutine")) = true) (ho : ok = true)
  (hfit : matchAll as (fa.map (ASlot.ren ι))) (hin : fa.all (ASlot.inK fo.length) = true) (hh : handed as fa = []) (hr : r.toks = [])
  (hnd : ι.Nodup) (hlen : ι.length = fo'.length) (hle : fo.length ≤ fo'.length) (hold : objsIn ι os ι fo) (hnew : (ι.drop fo.length).all (isNone os) = true) (hik : fo.all (AObj.inK fo.length) = true) (htk : (fo'.all fun o => noToks o.cells) = true)
  (hK : ARun P ops (k + 1) (tids ++ [ι]) K ⟨putFr fr dst true (r.ren ι), setAll os (ι.zip (fo'.map (AObj.ren ι))), live, nt⟩) :
  callO P ops k tids K dst ⟨fr, os, live, nt⟩ true (some (n, as)) ok := by
 have hre := qey hr
 have hput : St.put (⟨fr, os, live, nt⟩ : St) dst true (callOut (16 * (nt + k)) as fa r fo' ι) = ⟨putFr fr dst true (r.ren ι), setAll os (ι.zip (fo'.map (AObj.ren ι))), live, nt⟩ := by
  simp only [St.put, callOut, Out.wrs, hre, liveAfter, hh, hr]
  simp
 have hto : (callOut (16 * (nt + k)) as fa r fo' ι).touch = ι := by
  simp only [Out.touch, Out.wrs, callOut]
  have : (ι.zip (fo'.map (AObj.ren ι))).map (·.1) = ι := by
   rw [List.map_fst_zip (by rw [List.length_map]; omega)]
  simp [this]
 refine ⟨n, as, fa, r, fo, fo', ι, by rw [hr]; simp, fun _ => ⟨rfl, ho, hc, hb, ⟨hfit, hin, by rw [hh]; simp, by rw [hh]; simp⟩, ⟨hnd, hlen, hle, hold, fun id hid => ?_, hik, fun o ho' => (qe0 _).1 (List.all_eq_true.1 htk o ho')⟩, by rw [hr]; simp⟩, .inl rfl, ?_⟩
 ·have := List.all_eq_true.1 hnew id hid
  unfold isNone at this
  split at this
  ·rename_i h; exact h
  ·cases this
 ·rw [hto, hput]
  exact hK
def nilO (P : Program) (ops : List SOper) (k : Nat) (tids : List (List Nat)) (K : List (List Nat) → St → Prop) (dst : Option Nat) (st : St) (g neg ok : Bool) (s : ASlot) : Prop :=
 g = true ∧ ok = true ∧ ∃ es rows, s.rows = some (es, rows) ∧ ∀ b : Bool, (b = true → rows = []) → ARun P ops (k + 1) (tids ++ [[]]) K ⟨putFr st.fr dst true (.d (.bool (if neg = true then !b else b))), st.os, st.live, st.nt⟩
theorem qkz {P : Program} {ops : List SOper} {k : Nat} {tids : List (List Nat)} {K : List (List Nat) → St → Prop} {st : St} {dst : Option Nat} {neg : Bool} {x : Opd} {gd : Option (Nat × Bool)} :
  ARun P (⟨dst, .eqnilS neg x, gd⟩ :: ops) k tids K st = guardO (gv st.fr gd) fun g => nilO P ops k tids K dst st g neg (x.ok st.fr) (x.get st.fr) := by
 simp only [ARun]
 cases gv st.fr gd with
 | none => rfl
 | some g =>
  cases g with
  | false => simp [guardO, nilO]
  | true =>
   have hn : ∀ b, st.next ⟨dst, .eqnilS neg x, gd⟩ true (nilOut neg b) = ⟨putFr st.fr dst true (.d (.bool (if neg = true then !b else b))), st.os, st.live, st.nt⟩ := by
    intro b
    have hl : liveAfter st.live (nilOut neg b) = st.live := qh rfl rfl
    simp only [St.next, hl]
    rfl
   simp only [guardO, nilO, hn]
def nextO (P : Program) (ops : List SOper) (k : Nat) (tids : List (List Nat)) (K : List (List Nat) → St → Prop) (dst : Option Nat) (st : St) (g ok : Bool) (s : ASlot) : Prop :=
 g = true ∧ ok = true ∧ ∃ iid, s = .d (.ptr iid 0) ∧
  ((∃ since seen last, st.os[iid]? = some (.iter (.d .nilmap) since seen last) ∧ ARun P ops (k + 1) (tids ++ [[]]) K ⟨putFr st.fr dst true overV, st.os, st.live, st.nt⟩) ∨
   ∃ mid since seen last es clock, IterOn st.os iid mid since seen last es clock ∧ (leftE es seen = [] → ARun P ops (k + 1) (tids ++ [[]]) K ⟨putFr st.fr dst true overV, st.os, st.live, st.nt⟩) ∧
    ∀ e ∈ leftE es seen, ARun P ops (k + 1) (tids ++ [[]]) K ⟨putFr st.fr dst true (entV e), st.os.set iid (.iter (.d (.map mid)) since (seen ++ [e.1]) clock), st.live, st.nt⟩)
theorem qn5 {P : Program} {ops : List SOper} {k : Nat} {tids : List (List Nat)} {K : List (List Nat) → St → Prop} {st : St} {dst : Option Nat} {x : Opd} {gd : Option (Nat × Bool)} :
  ARun P (⟨dst, .nextM x, gd⟩ :: ops) k tids K st = guardO (gv st.fr gd) fun g => nextO P ops k tids K dst st g (x.ok st.fr) (x.get st.fr) := by
 simp only [ARun]
 cases gv st.fr gd with
 | none => rfl
 | some g =>
  cases g with
  | false => simp [guardO, nextO]
  | true =>
   have h1 : st.next ⟨dst, .nextM x, gd⟩ true overOut = ⟨putFr st.fr dst true overV, st.os, st.live, st.nt⟩ := by
    have hl : liveAfter st.live overOut = st.live := qh rfl rfl
    simp only [St.next, hl]
    rfl
   have h2 : ∀ iid mid since seen clock e, st.next ⟨dst, .nextM x, gd⟩ true (entOut iid mid since seen clock e) = ⟨putFr st.fr dst true (entV e), st.os.set iid (.iter (.d (.map mid)) since (seen ++ [e.1]) clock), st.live, st.nt⟩ := by
    intro iid mid since seen clock e
    have hl : liveAfter st.live (entOut iid mid since seen clock e) = st.live := qh rfl rfl
    simp only [St.next, hl]
    rfl
   simp only [guardO, nextO, h1, h2]
theorem qtb {P : Program} {ops : List SOper} {k : Nat} {tids : List (List Nat)} {K : List (List Nat) → St → Prop} {fr : Fr} {os : List AObj} {live : List Nat} {nt : Nat} {dst : Option Nat} {ok : Bool} {iid mid since last clock : Nat} {seen : List Nat} {es : Ents}
  (h : IterOn os iid mid since seen last es clock) (h1 : leftE es seen = [] → ARun P ops (k + 1) (tids ++ [[]]) K ⟨putFr fr dst true overV, os, live, nt⟩)
  (h2 : ∀ e ∈ leftE es seen, ARun P ops (k + 1) (tids ++ [[]]) K ⟨putFr fr dst true (entV e), os.set iid (.iter (.d (.map mid)) since (seen ++ [e.1]) clock), live, nt⟩) (ho : ok = true := by rfl) :
  nextO P ops k tids K dst ⟨fr, os, live, nt⟩ true ok (.d (.ptr iid 0)) := ⟨rfl, ho, iid, rfl, .inr ⟨mid, since, seen, last, es, clock, h, h1, h2⟩⟩
def appRO (P : Program) (ops : List SOper) (k : Nat) (tids : List (List Nat)) (K : List (List Nat) → St → Prop) (dst : Option Nat) (st : St) (g : Bool) (back es bytes : Nat) (s x : Opd) : Prop :=
 g = true ∧ (((sem (16 * (st.nt + k)) (.appendO back es bytes s x) st).ob ∧ ARun P ops (k + 1) (tids ++ [[]]) K (st.next ⟨dst, .appendR back es bytes s x, none⟩ true (sem (16 * (st.nt + k)) (.appendO back es bytes s x) st))) ∨
     (s.ok st.fr = true ∧ x.ok st.fr = true ∧ ∃ id n r, s.get st.fr = .d (.ref id 0 es n) ∧ srcOf es st.os (x.get st.fr) = some r ∧ AppR st.os es bytes back id n r ∧
      ARun P ops (k + 1) (tids ++ [[]]) K (st.next ⟨dst, .appendR back es bytes s x, none⟩ true (appOut id id es n st.os r)) ∧ ARun P ops (k + 1) (tids ++ [[]]) K (st.next ⟨dst, .appendR back es bytes s x, none⟩ true (appOut id (st.os.length - back) es n st.os r))))
theorem qig {P : Program} {ops : List SOper} {k : Nat} {tids : List (List Nat)} {K : List (List Nat) → St → Prop} {st : St} {dst : Option Nat} {back es bytes : Nat} {s x : Opd} {gd : Option (Nat × Bool)} :
  ARun P (⟨dst, .appendR back es bytes s x, gd⟩ :: ops) k tids K st = guardO (gv st.fr gd) fun g => appRO P ops k tids K dst st g back es bytes s x := by
 simp only [ARun]
 cases gv st.fr gd with
 | none => rfl
 | some g =>
  cases g with
  | false => simp [guardO, appRO]
  | true => rfl
def entryO (P : Program) (ops : List SOper) (k : Nat) (tids : List (List Nat)) (K : List (List Nat) → St → Prop) (dst : Option Nat) (st : St) (g ok : Bool) (s : ASlot) : Prop :=
 g = true ∧ ok = true ∧ ∃ iid mid since seen clock es e, s = .d (.ptr iid 0) ∧ EntryOn st.os iid mid since seen clock es e ∧ ARun P ops (k + 1) (tids ++ [[]]) K ⟨putFr st.fr dst true (.tup [.d e.2.1, .d e.2.2]), st.os, st.live, st.nt⟩
theorem qk0 {P : Program} {ops : List SOper} {k : Nat} {tids : List (List Nat)} {K : List (List Nat) → St → Prop} {st : St} {dst : Option Nat} {x : Opd} {gd : Option (Nat × Bool)} :
  ARun P (⟨dst, .entryM x, gd⟩ :: ops) k tids K st = guardO (gv st.fr gd) fun g => entryO P ops k tids K dst st g (x.ok st.fr) (x.get st.fr) := by
 simp only [ARun]
 cases gv st.fr gd with
 | none => rfl
 | some g =>
  cases g with
  | false => simp [guardO, entryO]
  | true =>
   have h1 : ∀ e, st.next ⟨dst, .entryM x, gd⟩ true (entryOut e) = ⟨putFr st.fr dst true (.tup [.d e.2.1, .d e.2.2]), st.os, st.live, st.nt⟩ := by
    intro e
    have hl : liveAfter st.live (entryOut e) = st.live := qh rfl rfl
    simp only [St.next, hl]
    rfl
   simp only [guardO, entryO, h1]
theorem qp6 {P : Program} {ops : List SOper} {k : Nat} {tids : List (List Nat)} {K : List (List Nat) → St → Prop} {fr : Fr} {os : List AObj} {live : List Nat} {nt : Nat} {dst : Option Nat} {ok : Bool} {iid mid since clock : Nat} {seen : List Nat} {es : Ents} {e : Nat × D × D}
  (h : EntryOn os iid mid since seen clock es e) (h1 : ARun P ops (k + 1) (tids ++ [[]]) K ⟨putFr fr dst true (.tup [.d e.2.1, .d e.2.2]), os, live, nt⟩) (ho : ok = true := by rfl) :
  entryO P ops k tids K dst ⟨fr, os, live, nt⟩ true ok (.d (.ptr iid 0)) := ⟨rfl, ho, iid, mid, since, seen, clock, es, e, rfl, h, h1⟩
theorem qv0 {P : Program} {ops : List SOper} {k : Nat} {tids : List (List Nat)} {K : List (List Nat) → St → Prop} {fr : Fr} {os : List AObj} {live : List Nat} {nt : Nat} {dst : Option Nat} {neg ok : Bool} {s : ASlot} {es : Nat} {rows : List (List D)}
  (ho : ok = true) (hr : s.rows = some (es, rows)) (h : ∀ b : Bool, (b = true → rows = []) → ARun P ops (k + 1) (tids ++ [[]]) K ⟨putFr fr dst true (.d (.bool (if neg = true then !b else b))), os, live, nt⟩) :
  nilO P ops k tids K dst ⟨fr, os, live, nt⟩ true neg ok s := ⟨rfl, ho, es, rows, hr, h⟩
structure Fits0 (live : List Nat) (as fa : List ASlot) : Prop where
 all : matchAll as fa
 noPtr : fa.all ASlot.noPtr = true
 lv : ∀ p ∈ handed as fa, p.1 ∈ live
 nd1 : ((handed as fa).map (·.1)).Nodup
theorem qp7 {P : Program} {ops : List SOper} {k : Nat} {tids : List (List Nat)} {K : List (List Nat) → St → Prop} {fr : Fr} {os : List AObj} {live : List Nat} {nt : Nat} {dst : Option Nat} {ok : Bool} {n : FuncId} {fa as : List ASlot} {r : ASlot}
  (hc : ACall P n fa [] r []) (hb : (P.funcs[n]?).any (fun fn => fn.body.isSome && !(fn.name == "runtime.NumGoroutine")) = true) (ho : ok = true)
  (hfit : Fits0 live as fa) (hnd : r.toks.Nodup) (hfew : r.toks.length ≤ 16)
  (hK : ARun P ops (k + 1) (tids ++ [[]]) K ⟨putFr fr dst true (retok (16 * (nt + k)) r), os, (live.filter fun t => !((handed as fa).map (·.1)).contains t) ++ (retok (16 * (nt + k)) r).toks, nt⟩) :
  callO P ops k tids K dst ⟨fr, os, live, nt⟩ true (some (n, as)) ok :=
 ⟨n, as, fa, r, [], [], [], hfew, fun _ => ⟨rfl, ho, hc, hb, ⟨by rw [qcx]; exact hfit.all, List.all_eq_true.2 fun s hs => qbr _ (List.all_eq_true.1 hfit.noPtr s hs), hfit.lv, hfit.nd1⟩, qez _, hnd⟩, .inl rfl, hK⟩
theorem jk {P : Program} {k0 : Nat} {c : Opd} {x y : SCode} {Q : SExit → St → Prop} {st : St} (t : Bool) (h1 : c.ok st.fr = true) (h2 : c.get st.fr = .d (.bool t)) (hx : t = true → AWp P k0 x Q st) (hy : t = false → AWp P k0 y Q st) : AWp P k0 (.cond c x y) Q st :=
 ⟨t, ⟨h1, h2⟩, hx, hy⟩
theorem qxy {P : Program} {k0 : Nat} {ops : List SOper} {objs : Nat} {pairs : List (Nat × Nat)} {Q : SExit → St → Prop} {fr : Fr} {os : List AObj} {live : List Nat} {nt : Nat} :
  AWp P k0 (.region ops objs pairs) Q ⟨fr, os, live, nt⟩ = ARun P ops 0 [] (fun tids st' => pairsOk pairs tids ∧ Q .normal (st'.bump ops.length)) ⟨fr, os ++ List.replicate objs .none, live, nt⟩ := rfl
theorem qv1 {P : Program} {k0 : Nat} {a b : SCode} {Q : SExit → St → Prop} {st : St} : AWp P k0 (.seq a b) Q st = AWp P k0 a (thenQ (AWp P k0 b Q) Q) st := rfl
theorem qtc {P : Program} {k0 : Nat} {Q : SExit → St → Prop} {st : St} : AWp P k0 .skip Q st = Q .normal st := rfl
theorem qp8 {P : Program} {k0 id : Nat} {a : SCode} {Q : SExit → St → Prop} {st : St} : AWp P k0 (.block id a) Q st = AWp P k0 a (blockQ id Q) st := rfl
theorem qtd {P : Program} {k0 id : Nat} {Q : SExit → St → Prop} {st : St} : AWp P k0 (.exit id) Q st = Q (.exit id) st := rfl
theorem qv2 {P : Program} {k0 : Nat} {Q : SExit → St → Prop} {st : St} : AWp P k0 .ret Q st = Q .ret st := rfl
def disj : List Nat → List Nat → Bool
 | [], _ => true
 | i :: l, r => !r.contains i && disj l r
theorem qge : ∀ (l r : List Nat), disj l r = true ↔ ∀ i ∈ l, i ∉ r
 | [], r => by simp [disj]
 | i :: l, r => by simp [disj, qge l r]
theorem qte {l : List Nat} : disj l [] = true := (qge l []).2 (by simp)
theorem qih {p : Nat × Nat} {ps : List (Nat × Nat)} {tids : List (List Nat)} : pairsOk (p :: ps) tids = (disj (tids.getD p.1 []) (tids.getD p.2 []) = true ∧ pairsOk ps tids) := by
 rw [qge]
 apply propext
 simp only [pairsOk, List.forall_mem_cons]
theorem qk1 {tids : List (List Nat)} : pairsOk [] tids = True := by simp [pairsOk]
theorem St.bump_mk {fr : Fr} {os : List AObj} {live : List Nat} {nt n : Nat} : (⟨fr, os, live, nt⟩ : St).bump n = ⟨fr, os, live, nt + n⟩ := rfl
theorem qtf (c a : Bool) : (if c = true then a else false) = (c && a) := by cases c <;> rfl
theorem qv3 (c b : Bool) : (if c = true then true else b) = (c || b) := by cases c <;> rfl
theorem qyb (b : Bool) : (b == true) = b := by cases b <;> rfl
theorem qyc (b : Bool) : (b == false) = !b := by cases b <;> rfl
def nodupB : List Nat → Bool
 | [] => true
 | t :: l => !l.contains t && nodupB l
theorem qe1 : ∀ (l : List Nat), nodupB l = true ↔ l.Nodup
 | [] => by simp [nodupB]
 | t :: l => by simp [nodupB, qe1 l]
def liveB (live live' : List Nat) (ps : List (Nat × Nat)) : Bool := ps.all fun p => !live'.contains p.2 || live.contains p.1
def ltB (n : Nat) (l : List Nat) : Bool := l.all fun t => decide (t < n)
theorem qtg {k0 : Nat} {fr fr' : Fr} {os os' : List AObj} {live live' : List Nat} {nt nt' : Nat} : Weak k0 ⟨fr, os, live, nt⟩ ⟨fr', os', live', nt'⟩ ↔
  frW (keepOf os') fr fr' ∧ osW (keepOf os') os os' ∧ liveB live live' (pairsFr fr fr' ++ pairsOs os os') = true ∧ nodupB ((pairsFr fr fr' ++ pairsOs os os').map (·.1)) = true ∧ baseKept k0 os os' ∧
  ltB (16 * nt') (live' ++ frToks fr' ++ osToks os') = true := by
 have h1 : liveB live live' (pairsFr fr fr' ++ pairsOs os os') = true ↔ ∀ p ∈ pairsFr fr fr' ++ pairsOs os os', p.2 ∈ live' → p.1 ∈ live := by
  simp only [liveB, List.all_eq_true, Bool.or_eq_true, Bool.not_eq_true', List.contains_iff_mem, ← Bool.not_eq_true]
  exact ⟨fun h p hp hl => (h p hp).resolve_left (fun hn => hn hl), fun h p hp => by by_cases hl : p.2 ∈ live' <;> simp [hl, h p hp]⟩
 have h2 : ltB (16 * nt') (live' ++ frToks fr' ++ osToks os') = true ↔ ∀ t ∈ live' ++ frToks fr' ++ osToks os', t < 16 * nt' := by
  simp only [ltB, List.all_eq_true, decide_eq_true_eq]
 rw [h1, h2, qe1]
 exact ⟨fun h => ⟨h.fr, h.os, h.live, h.nd, h.base, h.wf⟩, fun h => ⟨h.1, h.2.1, h.2.2.1, h.2.2.2.1, h.2.2.2.2.1, h.2.2.2.2.2⟩⟩
theorem qv4 {keep : Nat → Bool} {os : List AObj} : osW keep os [] = True := by cases os with | nil => rfl | cons o l => cases o <;> rfl
theorem qth {keep : Nat → Bool} {o : AObj} {l l' : List AObj} : osW keep (o :: l) (.none :: l') = osW keep l l' := by cases o <;> rfl
theorem qk2 {os : List AObj} : pairsOs os [] = [] := by cases os with | nil => rfl | cons o l => cases o <;> rfl
theorem qii {o : AObj} {l l' : List AObj} : pairsOs (o :: l) (.none :: l') = pairsOs l l' := by cases o <;> rfl
theorem qv5 {keep : Nat → Bool} {cs : List ASlot} : csW keep cs [] = True := by cases cs <;> rfl
theorem qk3 {cs : List ASlot} : pairsCs cs [] = [] := by cases cs <;> rfl
theorem qgf {os os' : List AObj} : baseKept 0 os os' = True := by simp [baseKept]
theorem qv6 {keep : Nat → Bool} {s : ASlot} {x : D} : slotW keep s (.d x) = (s.eqvD x ∧ x.okW keep = true) := by cases s <;> rfl
theorem qp9 {keep : Nat → Bool} {s : ASlot} : slotW keep s .bad = True := by cases s <;> rfl
theorem qqa {s : ASlot} {x : D} : tokPair s (.d x) = [] := by cases s <;> rfl
theorem qij {s : ASlot} {es : Nat} {rows : List (List D)} : tokPair s (.full es rows) = [] := by cases s <;> rfl
theorem qk4 {s : ASlot} : tokPair s .bad = [] := by cases s <;> rfl
theorem qn6 {s : ASlot} {cs : List D} : tokPair s (.rd cs) = [] := by cases s <;> rfl
theorem qk5 {t t' es es' : Nat} {r r' : List (List D)} : tokPair (.own t es r) (.own t' es' r') = [(t, t')] := rfl
def goodAll (st : St) : List RVar → Prop
 | [] => True
 | r :: l => r.good st ∧ goodAll st l
theorem qcz {st : St} : ∀ (l : List RVar), goodAll st l ↔ ∀ r ∈ l, r.good st
 | [] => by simp [goodAll]
 | r :: l => by simp [goodAll, qcz l]
theorem qc0 {α : Type} {x : α} {p : α → Prop} : (∀ y ∈ some x, p y) = p x := by simp
theorem qc1 {α : Type} {p : α → Prop} : (∀ y ∈ (none : Option α), p y) = True := by simp
theorem qti {k0 : Nat} {rvs : List RVar} {rs : List ASlot} {objs : List AObj} {fr : Fr} {os : List AObj} {live : List Nat} {nt : Nat} :
  endOk k0 rvs rs objs ⟨fr, os, live, nt⟩ = (goodAll ⟨fr, os, live, nt⟩ rvs ∧ Weak k0 ⟨entryFr (rvs.map (RVar.slot ⟨fr, os, live, nt⟩)) 0, os, live, nt⟩ ⟨entryFr rs 0, objs, toksOf rs, 1⟩) := by rw [qcz]; rfl
def loopQ {α : Type} (k0 : Nat) (S : α → St) (μ : α → Nat) (x : α) (st' : St) : Prop := ∃ y, Weak k0 st' (S y) ∧ μ y < μ x
theorem ql {α : Type} {P : Program} {k0 : Nat} {a : SCode} {Q : SExit → St → Prop} {st : St} (S : α → St) (μ : α → Nat) (x0 : α) (h0 : Weak k0 st (S x0))
  (h : ∀ x, AWp P k0 a (thenQ (loopQ k0 S μ x) Q) (S x)) : AWp P k0 (.loop a) Q st :=
 ⟨α, S, μ, x0, .weak h0 (.refl _), fun x => AWp.mono a (qa4 (fun _ ⟨y, h1, h2⟩ => ⟨y, .weak h1 (.refl _), h2⟩) (fun _ _ h => h)) (h x)⟩
def loopT {α : Type} (k0 : Nat) (S : α → St) (μ : α → Nat) (x : α) (st' : St) : Prop := ∃ y, Turn k0 st' (S y) ∧ μ y < μ x
theorem qyd {α : Type} {P : Program} {k0 : Nat} {a : SCode} {Q : SExit → St → Prop} {st : St} (S : α → St) (μ : α → Nat) (x0 : α) (h0 : Turn k0 st (S x0))
  (h : ∀ x, AWp P k0 a (thenQ (loopT k0 S μ x) Q) (S x)) : AWp P k0 (.loop a) Q st := ⟨α, S, μ, x0, h0, h⟩
theorem qqb {keep : Nat → Bool} {t t' es es' : Nat} {r r' : List (List D)} : slotW keep (.own t es r) (.own t' es' r') = ((es = es' ∧ D.eqvR r r') ∧ D.noPtrR r' = true) := rfl
theorem qef {keep : Nat → Bool} {t' es es' : Nat} {r r' : List (List D)} : slotW keep (.full es r) (.own t' es' r') = (rowsEqv es r es' r' ∧ D.noPtrR r' = true) := rfl
theorem qn7 {keep : Nat → Bool} {es es' : Nat} {r r' : List (List D)} : slotW keep (.full es r) (.full es' r') = (rowsEqv es r es' r' ∧ D.noPtrR r' = true) := rfl
theorem qtj {keep : Nat → Bool} {r r' : List D} : slotW keep (.rd r) (.rd r') = (D.eqvL r r' ∧ D.noPtrL r' = true) := rfl
theorem qv7 {keep : Nat → Bool} {cs cs' : List ASlot} {l l' : List AObj} : osW keep (.row cs :: l) (.row cs' :: l') = (csW keep cs cs' ∧ osW keep l l') := rfl
theorem qk6 {cs cs' : List ASlot} {l l' : List AObj} : pairsOs (.row cs :: l) (.row cs' :: l') = pairsCs cs cs' ++ pairsOs l l' := rfl
theorem qtk {keep : Nat → Bool} {s s' : ASlot} {l l' : List ASlot} : csW keep (s :: l) (s' :: l') = (slotW keep s s' ∧ csW keep l l') := rfl
theorem qik {s s' : ASlot} {l l' : List ASlot} : pairsCs (s :: l) (s' :: l') = tokPair s s' ++ pairsCs l l' := rfl
theorem qgg {n : Nat} : ((n : Int) + 1).toNat = n + 1 := by omega
theorem qil {α β : Type} {f : α → β} {l : List α} : (l.map f).take l.length = l.map f := by rw [List.take_of_length_le (by simp)]
theorem D.default_eq : (default : D) = .int default default := rfl
theorem qgh {keep : Nat → Bool} {t' es' : Nat} {r' : List (List D)} : slotW keep (.d .nilsl) (.own t' es' r') = (r' = []) := rfl
theorem qeg {keep : Nat → Bool} {es' : Nat} {r' : List (List D)} : slotW keep (.d .nilsl) (.full es' r') = (r' = []) := rfl
theorem qgi {x : D} {t' es' : Nat} {r' : List (List D)} : tokPair (.d x) (.own t' es' r') = [] := rfl
theorem qeh {t' es' : Nat} {r' : List (List D)} : matchA (.d .nilsl) (.own t' es' r') = (r' = []) := rfl
theorem qc2 {es' : Nat} {r' : List (List D)} : matchA (.d .nilsl) (.full es' r') = (r' = []) := rfl
theorem qtl {es' : Nat} {r' : List (List D)} : D.eqv .nilsl (.sl es' r') = (r' = []) := by simp [D.eqv]
theorem qxz {α β : Type} {f : α → β} : (List.map f [] = []) = True := by simp
theorem qb1 {t' es es' : Nat} {r r' : List (List D)} : tokPair (.full es r) (.own t' es' r') = [] := rfl
theorem qqc (t : Nat) : [t].Nodup = True := by simp
theorem qq {α β : Type} (f : α → β) (l : List α) {i : Nat} (h : i < l.length) (d : β) : (l.map f).getD i d = f l[i] := by simp [List.getD, h]
theorem qo {α : Type} {f : α → List D} (h : ∀ x, D.noPtrL (f x) = true) (l : List α) : D.noPtrR (l.map f) = true := by
 induction l with
 | nil => rfl
 | cons x l ih => simp [D.noPtrR, h, ih]
theorem qx0 {α : Type} {f : α → D} (h : ∀ x, (f x).noPtr = true) (l : List α) : D.noPtrL (l.map f) = true := by
 induction l with
 | nil => rfl
 | cons x l ih => simp [D.noPtrL, h, ih]
theorem qtm {α β : Type} (f : α → β) (l : List α) {i : Nat} (h : i < l.length) : (l.take (i + 1)).map f = (l.take i).map f ++ [f l[i]] := by
 rw [List.take_succ_eq_append_getElem h, List.map_append]; rfl
theorem zb : ∀ (a b : List D), D.noPtrL (a ++ b) = (D.noPtrL a && D.noPtrL b)
 | [], b => by simp [D.noPtrL]
 | x :: a, b => by simp [D.noPtrL, zb a b, Bool.and_assoc]
theorem qad : ∀ (a b : List (List D)), D.noPtrR (a ++ b) = (D.noPtrR a && D.noPtrR b)
 | [], b => by simp [D.noPtrR]
 | x :: a, b => by simp [D.noPtrR, qad a b, Bool.and_assoc]
theorem wrap_i64 {n : Int} (h1 : -9223372036854775808 ≤ n) (h2 : n ≤ 9223372036854775807) : IntKind.i64.wrap n = n := IntWalk.i64_in n ⟨h1, h2⟩
theorem qj {n : Nat} (h : n < 9223372036854775807) : IntKind.i64.wrap ((n : Int) + 1) = ((n + 1 : Nat) : Int) := by
 rw [wrap_i64 (by omega) (by omega)]; rfl
theorem qgj {k : Nat} {o o' : AObj} {os os' : List AObj} : baseKept (k + 1) (o :: os) (o' :: os') = ((keepOf [o] 0 = true → keepOf [o'] 0 = true) ∧ baseKept k os os') := by
 apply propext
 simp only [baseKept]
 constructor
 ·intro h
  refine ⟨fun h0 => ?_, fun id hid hk => ?_⟩
  ·exact h 0 (by omega) h0
  ·exact h (id + 1) (by omega) hk
 ·rintro ⟨h1, h2⟩ id hid hk
  cases id with
  | zero => exact h1 hk
  | succ id => exact h2 id (by omega) hk
theorem qme {P : Program} {mu : List Nat} {news : List (FuncId × Nat)} {f : FuncId} {fn : Func} {sc : SCode} {args rs : List ASlot} {rvs : List RVar} {objs objs' : List AObj} (hm : P.follows .mixedOrders = true) (hf : P.funcs[f]? = some fn)
  (hc : fn.body.bind (compCode P mu fn.ntmps news) = some sc.erase) (hr : fn.results.toList.mapM (compRes P) = some rvs)
  (h : AWp P objs.length sc (bodyQ objs.length rvs rs objs') (entrySt args objs)) (hN : args.length ≤ fn.ntmps) (hl : rvs.length = rs.length) (hw : ltB 16 (toksOf args ++ osToks objs) = true) : ACall P f args objs (mkRes rs) objs' := by
 rw [Option.bind_eq_some_iff] at hc
 obtain ⟨c, hb, hc⟩ := hc
 refine qgc hm hf hb (rv := fn.results.toList) (by simp) hr hc hN hl (fun t ht => ?_) h
 simp only [ltB, List.all_eq_true, decide_eq_true_eq] at hw
 exact hw t ht
theorem qqd {rs : List ASlot} (h : rs.length ≠ 1) : mkRes rs = .tup rs := by
 match rs with
 | [] => rfl
 | [_] => simp at h
 | _ :: _ :: _ => rfl
theorem xhh (d : D) : D.eqv d d = True := eq_true (D.eqv_refl d)
theorem q7q (d : List D) : D.eqvL d d = True := eq_true (D.eqvL_refl d)
theorem q7r (d : List (List D)) : D.eqvR d d = True := eq_true (D.eqvR_refl d)
theorem qv8 {k k' : IntKind} {n n' : Int} : D.eqv (.int k n) (.int k' n') = (k = k' ∧ n = n') := by simp [D.eqv]
theorem qtn {b b' : Bool} : D.eqv (.bool b) (.bool b') = (b = b') := by simp [D.eqv]
theorem qv9 {b b' : List UInt8} : D.eqv (.str b) (.str b') = (b = b') := by simp [D.eqv]
theorem qye {es es' : Nat} {r r' : List (List D)} : D.eqv (.sl es r) (.sl es' r') = rowsEqv es r es' r' := by simp [D.eqv, rowsEqv]
theorem qwa {l l' : List D} : D.eqv (.agg l) (.agg l') = D.eqvL l l' := by simp [D.eqv]
theorem qwb {b b' o o' : Nat} : D.eqv (.ptr b o) (.ptr b' o') = (b = b' ∧ o = o') := by simp [D.eqv]
theorem qwc {b b' o o' e e' n n' : Nat} : D.eqv (.ref b o e n) (.ref b' o' e' n') = (b = b' ∧ o = o' ∧ e = e' ∧ n = n') := by simp [D.eqv]
theorem qwd {b b' : Nat} : D.eqv (.map b) (.map b') = (b = b') := by simp [D.eqv]
theorem qto {f f' : Fn} {a a' b b' : List D} : D.eqv (.func f a b) (.func f' a' b') = (f = f' ∧ D.eqvL a a' ∧ D.eqvL b b') := by simp [D.eqv]
theorem qqe {t t' : TypeId} {a a' : D} : D.eqv (.iface t a) (.iface t' a') = (t = t' ∧ D.eqv a a') := by simp [D.eqv]
theorem qqf {a a' : D} {l l' : List D} : D.eqvL (a :: l) (a' :: l') = (D.eqv a a' ∧ D.eqvL l l') := by simp [D.eqvL]
theorem qtp : D.eqvL [] [] = True := by simp [D.eqvL]
theorem qqg {a a' : List D} {l l' : List (List D)} : D.eqvR (a :: l) (a' :: l') = (D.eqvL a a' ∧ D.eqvR l l') := by simp [D.eqvR]
theorem qtq : D.eqvR [] [] = True := by simp [D.eqvR]
theorem qim {es : Nat} {r r' : List (List D)} : rowsEqv es r es r' = D.eqvR r r' := by simp [rowsEqv]
theorem qk7 {es es' : Nat} : rowsEqv es [] es' [] = True := by simp [rowsEqv, D.eqvR]
theorem qc3 {α : Type} {es es' : Nat} {f : α → List D} : rowsEqv es [] es' (List.map f []) = True := by simp [rowsEqv, D.eqvR]
theorem qu9 {a b b' : List (List D)} (h : D.eqvR b b') : D.eqvR (a ++ b) (a ++ b') := D.eqvR_append (D.eqvR_refl a) h
theorem qtr {a b b' : List (List D)} : D.eqvR (a ++ b) (a ++ b') = D.eqvR b b' := by
 induction a with
 | nil => rfl
 | cons x a ih => simp [D.eqvR, D.eqvL_refl, ih]
theorem qts {s : ASlot} {x : D} : matchA s (.d x) = s.eqvD x := by cases s <;> rfl
theorem qn8 {t t' es es' : Nat} {r r' : List (List D)} : matchA (.own t es r) (.own t' es' r') = (es = es' ∧ D.eqvR r r') := rfl
theorem qc4 {t' es es' : Nat} {r r' : List (List D)} : matchA (.full es r) (.own t' es' r') = rowsEqv es r es' r' := rfl
theorem qk8 {es es' : Nat} {r r' : List (List D)} : matchA (.full es r) (.full es' r') = rowsEqv es r es' r' := rfl
theorem qqh {r r' : List D} : matchA (.rd r) (.rd r') = D.eqvL r r' := rfl
theorem qb {x : D} : matchA (.d x) (.d x) := D.eqv_refl x
def goReg (P : Program) (ops : List SOper) (objs : Nat) (pairs : List (Nat × Nat)) (Q : SExit → St → Prop) (st : St) : Prop := AWp P 0 (.region ops objs pairs) Q st
theorem qwe {P : Program} {k0 : Nat} {ops : List SOper} {objs : Nat} {pairs : List (Nat × Nat)} {Q : SExit → St → Prop} {st : St} : AWp P k0 (.region ops objs pairs) Q st = goReg P ops objs pairs Q st := rfl
def goLit (P : Program) (ops : List SOper) (objs : Nat) (pairs : List (Nat × Nat)) (Q : SExit → St → Prop) (st : St) : Prop := AWp P 0 (.region ops objs pairs) Q st
def regK (pairs : List (Nat × Nat)) (Q : SExit → St → Prop) (n : Nat) (tids : List (List Nat)) (st' : St) : Prop := pairsOk pairs tids ∧ Q .normal (st'.bump n)
theorem qwf {pairs : List (Nat × Nat)} {Q : SExit → St → Prop} {n : Nat} {tids : List (List Nat)} {fr : Fr} {os : List AObj} {live : List Nat} {nt : Nat} :
  regK pairs Q n tids ⟨fr, os, live, nt⟩ = (pairsOk pairs tids ∧ Q .normal (⟨fr, os, live, nt + n⟩)) := rfl
theorem qtt {P : Program} {ops : List SOper} {objs : Nat} {pairs : List (Nat × Nat)} {Q : SExit → St → Prop} {fr : Fr} {os : List AObj} {live : List Nat} {nt : Nat} :
  goLit P ops objs pairs Q ⟨fr, os, live, nt⟩ = ARun P ops 0 [] (regK pairs Q ops.length) ⟨fr, os ++ List.replicate objs .none, live, nt⟩ := rfl
def litOf {ops lit : List SOper} (_ : ops = lit) : List SOper := lit
theorem qtu {ops lit : List SOper} (h : ops = lit) {P : Program} {objs : Nat} {pairs : List (Nat × Nat)} {Q : SExit → St → Prop} {st : St} : goReg P ops objs pairs Q st = goLit P (litOf h) objs pairs Q st := by
 subst h
 rfl
attribute [go_sem] qkz eqCells eqCell eqOk qv1 qwe qtt qwf litOf qtc qp8 qtd qv2 thenQ blockQ bodyQ qsx qsy qpw qsz qnv qnw qcw qpx qnx qgd qs0 qs1 qny qnz qs2 qs3 qpy qs4 qs5 qs6 qko qed qn0 qkq qn1 qn2 qn3 qkr qks qkt qib qs7 qpz qn4 qku entrySt entryFr toksOf List.flatMap_cons List.flatMap_nil ASlot.toks List.append_nil List.nil_append List.replicate Nat.zero_add Nat.add_zero qp4 callOf gv guardO sem qs8 qs9 qp3 Fr.get Opd.get Opd.ok putFr if_true if_false ite_self or_false or_true true_or false_or or_self List.filter_cons List.filter_nil List.contains_cons List.contains_nil Int.cast_ofNat_Int Int.natCast_add not_false_eq_true implies_true forall_const imp_self and_self true_and and_true false_and and_false Bool.and_true Bool.true_and Bool.false_and Bool.and_false Bool.or_true Bool.true_or Bool.or_false Bool.false_or Bool.not_true Bool.not_false Bool.not_not qtf qv3 qyb qyc Bool.false_eq_true List.length_cons List.length_nil List.length_append List.set_cons_zero List.set_cons_succ List.cons_append List.map_cons List.map_nil List.all_cons List.all_nil List.getElem?_cons_zero List.getElem?_cons_succ List.getElem?_nil List.getD_cons_zero List.getD_cons_succ List.drop_zero List.drop_succ_cons List.take_zero List.take_succ_cons List.drop_nil List.take_nil List.forall_mem_cons List.not_mem_nil false_imp_iff List.flatten_cons List.flatten_nil ASlot.toCells ASlot.dCells ASlot.dCellsOk ASlot.cellD ASlot.isCellD ASlot.isOne ASlot.asD ASlot.rows D.isCell loadOut storeOut storeAt setCells objCells AObj.cells binS binInt binStr sliceOut hiB loB optInt fillD chunks srcOf appendOut tokOf isNil Option.map_some Option.map_none Option.isSome_some qk1 St.bump_mk qti goodAll qad zb nodupB liveB ltB qc0 qc1 decide_true decide_false RVar.good RVar.slot qtg frW pairsFr qv6 qp9 qqb qef qn7 qtj qb1 qqc Int.toNat_natCast List.length_map qqa qij qk4 qn6 qk5 qv4 qth qk2 qii qv5 qk3 qgf frToks osToks List.nodup_nil Option.some.injEq ASlot.d.injEq D.bool.injEq D.int.injEq D.agg.injEq D.sl.injEq List.cons.injEq D.okW D.okWL D.okWR D.okW_noPtr D.okWL_noPtr D.okWR_noPtr D.noPtr D.noPtrL D.noPtrR ASlot.eqvD xhh q7q q7r qv8 qtn qv9 qye qwa qwb qwc qwd qto qqe qqf qtp qqg qtq qim qk7 qc3 qtr qts qn8 qc4 qk8 qqh matchAll qgh qeg qgi qeh qc2 qtl qv7 qk6 qtk qik keepOf Int.toNat_zero D.default_eq Option.getD_some Option.getD_none qgg qil Nat.add_sub_cancel beq_self_eq_true ASlot.noPtr handed Bool.and_self Bool.and_self_left Bool.and_self_right bne_self_eq_false qih disj qte qgj D.ren D.renL D.renR qvw q7p qvx qta qya qvy qvz ASlot.ren1 AObj.ren D.renL_noPtr D.renR_noPtr D.ren_noPtr D.inK D.inKL D.inKR D.inK_noPtr D.inKL_noPtr D.inKR_noPtr ASlot.inK ASlot.inKC AObj.inK setAll List.zip_cons_cons List.zip_nil_left List.zip_nil_right objsIn matchO matchCs matchC isNone noToks List.isEmpty_nil List.isEmpty_cons List.drop_nil Option.some_inj exists_eq_left' exists_eq_left Option.toList_some Option.toList_none
end Go.Abs
