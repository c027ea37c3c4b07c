/- Texts Ba. -/
import Derived.Test.YtkcdbcbpbolgkaaGreatDoorMoh
import Derived.IntWalk
set_option linter.unusedSimpArgs false
set_option linter.unusedVariables false
namespace Go.Abs
def SOp.special : SOp → Bool
 | .call .. => true
 | .eqnilS .. => true
 | .nextM .. => true
 | .appendR .. => true
 | .entryM .. => true
 | .callT .. => true
 | _ => false
def St.put (st : St) (dst : Option Nat) (g : Bool) (out : Out) : St :=
 {fr := wm st.fr dst g out.v, os := ja st.os out.wrs, live := qm st.live out, nt := st.nt }
def stepO (P : Program) (ops : List SOper) (k : Nat) (tids : List (List Nat)) (K : List (List Nat) → St → Prop) (dst : Option Nat) (st : St) (g : Bool) (out : Out) : Prop :=
 Obl g out st.live ∧ ARun P ops (k + 1) (tids ++ [out.tags]) K (st.put dst g out)
def xm : Option Bool → (Bool → Prop) → Prop
 | some g, F => F g
 | none, _ => False
theorem xf7 {P : Program} {k : Nat} {tids : List (List Nat)} {K : List (List Nat) → St → Prop} {st : St} : ARun P [] k tids K st = K tids st := rfl
theorem qy {P : Program} {ops : List SOper} {k : Nat} {tids : List (List Nat)} {K : List (List Nat) → St → Prop} {st : St} {dst : Option Nat} {op : SOp} {gd : Option (Nat × Bool)} (h : op.special = false) :
  ARun P (⟨dst, op, gd⟩ :: ops) k tids K st = xm (gv st.fr gd) fun g => stepO P ops k tids K dst st g (sem (16 * (st.nt + k)) op st) := by
 simp only [ARun]
 cases gv st.fr gd with
 | none => rfl
 | some g => cases op <;> first | rfl | (simp [SOp.special] at h)
section
variable {P : Program} {ops : List SOper} {k : Nat} {tids : List (List Nat)} {K : List (List Nat) → St → Prop} {st : St} {dst : Option Nat} {gd : Option (Nat × Bool)}
theorem xf8 {x : Opd} : ARun P (⟨dst, .mov x, gd⟩ :: ops) k tids K st = xm (gv st.fr gd) fun g => stepO P ops k tids K dst st g (sem (16 * (st.nt + k)) (.mov x) st) := qy rfl
theorem xa7 {c a b : Opd} : ARun P (⟨dst, .pick c a b, gd⟩ :: ops) k tids K st = xm (gv st.fr gd) fun g => stepO P ops k tids K dst st g (sem (16 * (st.nt + k)) (.pick c a b) st) := qy rfl
theorem xf9 {back : Nat} {x : Opd} : ARun P (⟨dst, .box back x, gd⟩ :: ops) k tids K st = xm (gv st.fr gd) fun g => stepO P ops k tids K dst st g (sem (16 * (st.nt + k)) (.box back x) st) := qy rfl
theorem q7s {back : Nat} {zero : List ASlot} : ARun P (⟨dst, .alloc back zero, gd⟩ :: ops) k tids K st = xm (gv st.fr gd) fun g => stepO P ops k tids K dst st g (sem (16 * (st.nt + k)) (.alloc back zero) st) := qy rfl
theorem q7t {zero : List D} {parts : List (Nat × Nat × Opd)} : ARun P (⟨dst, .build zero parts, gd⟩ :: ops) k tids K st = xm (gv st.fr gd) fun g => stepO P ops k tids K dst st g (sem (16 * (st.nt + k)) (.build zero parts) st) := qy rfl
theorem qp4 {u : Bool} {es len : Nat} {zero : List D} {parts : List (Nat × Nat × Opd)} : ARun P (⟨dst, .buildSlice u es len zero parts, gd⟩ :: ops) k tids K st = xm (gv st.fr gd) fun g => stepO P ops k tids K dst st g (sem (16 * (st.nt + k)) (.buildSlice u es len zero parts) st) := qy rfl
theorem xa8 {n : Option Nat} {x : Opd} : ARun P (⟨dst, .load n x, gd⟩ :: ops) k tids K st = xm (gv st.fr gd) fun g => stepO P ops k tids K dst st g (sem (16 * (st.nt + k)) (.load n x) st) := qy rfl
theorem q7u {n : Option Nat} {x v : Opd} : ARun P (⟨dst, .store n x v, gd⟩ :: ops) k tids K st = xm (gv st.fr gd) fun g => stepO P ops k tids K dst st g (sem (16 * (st.nt + k)) (.store n x v) st) := qy rfl
theorem qvi {x : Opd} : ARun P (⟨dst, .nilCheck x, gd⟩ :: ops) k tids K st = xm (gv st.fr gd) fun g => stepO P ops k tids K dst st g (sem (16 * (st.nt + k)) (.nilCheck x) st) := qy rfl
theorem xga {op' : BinOp} {x y : Opd} : ARun P (⟨dst, .bin op' x y, gd⟩ :: ops) k tids K st = xm (gv st.fr gd) fun g => stepO P ops k tids K dst st g (sem (16 * (st.nt + k)) (.bin op' x y) st) := qy rfl
theorem xgb {neg : Bool} {x y : Opd} : ARun P (⟨dst, .eqb neg x y, gd⟩ :: ops) k tids K st = xm (gv st.fr gd) fun g => stepO P ops k tids K dst st g (sem (16 * (st.nt + k)) (.eqb neg x y) st) := qy rfl
theorem q7v {neg : Bool} {k' : NK} {x : Opd} : ARun P (⟨dst, .eqnil neg k' x, gd⟩ :: ops) k tids K st = xm (gv st.fr gd) fun g => stepO P ops k tids K dst st g (sem (16 * (st.nt + k)) (.eqnil neg k' x) st) := qy rfl
theorem q7w {neg : Bool} {ks : List CK} {x y : Opd} : ARun P (⟨dst, .eqAgg neg ks x y, gd⟩ :: ops) k tids K st = xm (gv st.fr gd) fun g => stepO P ops k tids K dst st g (sem (16 * (st.nt + k)) (.eqAgg neg ks x y) st) := qy rfl
theorem xgc {x : Opd} : ARun P (⟨dst, .not x, gd⟩ :: ops) k tids K st = xm (gv st.fr gd) fun g => stepO P ops k tids K dst st g (sem (16 * (st.nt + k)) (.not x) st) := qy rfl
theorem xgd {x : Opd} : ARun P (⟨dst, .neg x, gd⟩ :: ops) k tids K st = xm (gv st.fr gd) fun g => stepO P ops k tids K dst st g (sem (16 * (st.nt + k)) (.neg x) st) := qy rfl
theorem xa9 {k' : IntKind} {x : Opd} : ARun P (⟨dst, .conv k' x, gd⟩ :: ops) k tids K st = xm (gv st.fr gd) fun g => stepO P ops k tids K dst st g (sem (16 * (st.nt + k)) (.conv k' x) st) := qy rfl
theorem xge {x : Opd} : ARun P (⟨dst, .i2s x, gd⟩ :: ops) k tids K st = xm (gv st.fr gd) fun g => stepO P ops k tids K dst st g (sem (16 * (st.nt + k)) (.i2s x) st) := qy rfl
theorem xgf {x : Opd} : ARun P (⟨dst, .b2s x, gd⟩ :: ops) k tids K st = xm (gv st.fr gd) fun g => stepO P ops k tids K dst st g (sem (16 * (st.nt + k)) (.b2s x) st) := qy rfl
theorem xgg {x : Opd} : ARun P (⟨dst, .s2b x, gd⟩ :: ops) k tids K st = xm (gv st.fr gd) fun g => stepO P ops k tids K dst st g (sem (16 * (st.nt + k)) (.s2b x) st) := qy rfl
theorem q2o {fn : Fn} {first captured : List Opd} : ARun P (⟨dst, .mkFunc fn first captured, gd⟩ :: ops) k tids K st = xm (gv st.fr gd) fun g => stepO P ops k tids K dst st g (sem (16 * (st.nt + k)) (.mkFunc fn first captured) st) := qy rfl
theorem qsj {u : Bool} {es bytes : Nat} {zero : List D} {l c : Opd} : ARun P (⟨dst, .makeSlice u es bytes zero l c, gd⟩ :: ops) k tids K st = xm (gv st.fr gd) fun g => stepO P ops k tids K dst st g (sem (16 * (st.nt + k)) (.makeSlice u es bytes zero l c) st) := qy rfl
theorem qp5 {back es bytes : Nat} {zero : List D} {l c : Opd} : ARun P (⟨dst, .makeSliceO back es bytes zero l c, gd⟩ :: ops) k tids K st = xm (gv st.fr gd) fun g => stepO P ops k tids K dst st g (sem (16 * (st.nt + k)) (.makeSliceO back es bytes zero l c) st) := qy rfl
theorem q7x {es : Nat} {x : Opd} {lo hi mx : Option Opd} : ARun P (⟨dst, .slice es x lo hi mx, gd⟩ :: ops) k tids K st = xm (gv st.fr gd) fun g => stepO P ops k tids K dst st g (sem (16 * (st.nt + k)) (.slice es x lo hi mx) st) := qy rfl
theorem q2p {len es : Nat} {x : Opd} {lo hi mx : Option Opd} : ARun P (⟨dst, .sliceA len es x lo hi mx, gd⟩ :: ops) k tids K st = xm (gv st.fr gd) fun g => stepO P ops k tids K dst st g (sem (16 * (st.nt + k)) (.sliceA len es x lo hi mx) st) := qy rfl
theorem q2q {x : Opd} {lo hi : Option Opd} : ARun P (⟨dst, .sliceS x lo hi, gd⟩ :: ops) k tids K st = xm (gv st.fr gd) fun g => stepO P ops k tids K dst st g (sem (16 * (st.nt + k)) (.sliceS x lo hi) st) := qy rfl
theorem q7y {off : Nat} {x : Opd} : ARun P (⟨dst, .faddr off x, gd⟩ :: ops) k tids K st = xm (gv st.fr gd) fun g => stepO P ops k tids K dst st g (sem (16 * (st.nt + k)) (.faddr off x) st) := qy rfl
theorem q7z {n : Option Nat} {off : Nat} {x : Opd} : ARun P (⟨dst, .field n off x, gd⟩ :: ops) k tids K st = xm (gv st.fr gd) fun g => stepO P ops k tids K dst st g (sem (16 * (st.nt + k)) (.field n off x) st) := qy rfl
theorem q70 {es : Nat} {x i : Opd} : ARun P (⟨dst, .iaddr es x i, gd⟩ :: ops) k tids K st = xm (gv st.fr gd) fun g => stepO P ops k tids K dst st g (sem (16 * (st.nt + k)) (.iaddr es x i) st) := qy rfl
theorem q2r {len es : Nat} {x i : Opd} : ARun P (⟨dst, .iaddrA len es x i, gd⟩ :: ops) k tids K st = xm (gv st.fr gd) fun g => stepO P ops k tids K dst st g (sem (16 * (st.nt + k)) (.iaddrA len es x i) st) := qy rfl
theorem q2s {x i : Opd} : ARun P (⟨dst, .indexS x i, gd⟩ :: ops) k tids K st = xm (gv st.fr gd) fun g => stepO P ops k tids K dst st g (sem (16 * (st.nt + k)) (.indexS x i) st) := qy rfl
theorem q2t {len es : Nat} {n : Option Nat} {x i : Opd} : ARun P (⟨dst, .indexA len es n x i, gd⟩ :: ops) k tids K st = xm (gv st.fr gd) fun g => stepO P ops k tids K dst st g (sem (16 * (st.nt + k)) (.indexA len es n x i) st) := qy rfl
theorem qyt {i : Nat} {x : Opd} : ARun P (⟨dst, .extract i x, gd⟩ :: ops) k tids K st = xm (gv st.fr gd) fun g => stepO P ops k tids K dst st g (sem (16 * (st.nt + k)) (.extract i x) st) := qy rfl
theorem xgh {x : Opd} : ARun P (⟨dst, .len x, gd⟩ :: ops) k tids K st = xm (gv st.fr gd) fun g => stepO P ops k tids K dst st g (sem (16 * (st.nt + k)) (.len x) st) := qy rfl
theorem xba {x : Opd} : ARun P (⟨dst, .lenS x, gd⟩ :: ops) k tids K st = xm (gv st.fr gd) fun g => stepO P ops k tids K dst st g (sem (16 * (st.nt + k)) (.lenS x) st) := qy rfl
theorem q71 {x : Opd} : ARun P (⟨dst, .asStr x, gd⟩ :: ops) k tids K st = xm (gv st.fr gd) fun g => stepO P ops k tids K dst st g (sem (16 * (st.nt + k)) (.asStr x) st) := qy rfl
theorem q2u {u : Bool} {es bytes : Nat} {s x : Opd} : ARun P (⟨dst, .append u es bytes s x, gd⟩ :: ops) k tids K st = xm (gv st.fr gd) fun g => stepO P ops k tids K dst st g (sem (16 * (st.nt + k)) (.append u es bytes s x) st) := qy rfl
theorem xbb {es : Nat} {s x : Opd} : ARun P (⟨dst, .copy es s x, gd⟩ :: ops) k tids K st = xm (gv st.fr gd) fun g => stepO P ops k tids K dst st g (sem (16 * (st.nt + k)) (.copy es s x) st) := qy rfl
theorem qyu {back : Nat} : ARun P (⟨dst, .makeMap back, gd⟩ :: ops) k tids K st = xm (gv st.fr gd) fun g => stepO P ops k tids K dst st g (sem (16 * (st.nt + k)) (.makeMap back) st) := qy rfl
theorem xbc {n : Nat} {x : Opd} : ARun P (⟨dst, .s2ap n x, gd⟩ :: ops) k tids K st = xm (gv st.fr gd) fun g => stepO P ops k tids K dst st g (sem (16 * (st.nt + k)) (.s2ap n x) st) := qy rfl
theorem q2v {kd : KD} {z : ASlot} {c : Bool} {x y : Opd} : ARun P (⟨dst, .lookup kd z c x y, gd⟩ :: ops) k tids K st = xm (gv st.fr gd) fun g => stepO P ops k tids K dst st g (sem (16 * (st.nt + k)) (.lookup kd z c x y) st) := qy rfl
theorem qsk {kd : KD} {x y v : Opd} : ARun P (⟨dst, .mapUpdate kd x y v, gd⟩ :: ops) k tids K st = xm (gv st.fr gd) fun g => stepO P ops k tids K dst st g (sem (16 * (st.nt + k)) (.mapUpdate kd x y v) st) := qy rfl
theorem q2w {kd : KD} {x y : Opd} : ARun P (⟨dst, .delete kd x y, gd⟩ :: ops) k tids K st = xm (gv st.fr gd) fun g => stepO P ops k tids K dst st g (sem (16 * (st.nt + k)) (.delete kd x y) st) := qy rfl
theorem xbd {x : Opd} : ARun P (⟨dst, .lenM x, gd⟩ :: ops) k tids K st = xm (gv st.fr gd) fun g => stepO P ops k tids K dst st g (sem (16 * (st.nt + k)) (.lenM x) st) := qy rfl
theorem q2x {back : Nat} {x : Opd} : ARun P (⟨dst, .rangeM back x, gd⟩ :: ops) k tids K st = xm (gv st.fr gd) fun g => stepO P ops k tids K dst st g (sem (16 * (st.nt + k)) (.rangeM back x) st) := qy rfl
theorem qyv {t : TypeId} {x : Opd} : ARun P (⟨dst, .mkIface t x, gd⟩ :: ops) k tids K st = xm (gv st.fr gd) fun g => stepO P ops k tids K dst st g (sem (16 * (st.nt + k)) (.mkIface t x) st) := qy rfl
theorem qyw {t : TypeId} {c : Bool} {x : Opd} : ARun P (⟨dst, .assertT t c x, gd⟩ :: ops) k tids K st = xm (gv st.fr gd) fun g => stepO P ops k tids K dst st g (sem (16 * (st.nt + k)) (.assertT t c x) st) := qy rfl
theorem qyx {back es bytes : Nat} {s x : Opd} : ARun P (⟨dst, .appendO back es bytes s x, gd⟩ :: ops) k tids K st = xm (gv st.fr gd) fun g => stepO P ops k tids K dst st g (sem (16 * (st.nt + k)) (.appendO back es bytes s x) st) := qy rfl
theorem q2y {mx : Bool} {x y : Opd} : ARun P (⟨dst, .minmax mx x y, gd⟩ :: ops) k tids K st = xm (gv st.fr gd) fun g => stepO P ops k tids K dst st g (sem (16 * (st.nt + k)) (.minmax mx x y) st) := qy rfl
end
theorem xgi {P : Program} {ops : List SOper} {k : Nat} {tids : List (List Nat)} {K : List (List Nat) → St → Prop} {dst : Option Nat} {fr : Fr} {os : List AObj} {live : List Nat} {nt : Nat} {g : Bool} {v : ASlot} {ob : Prop} {rd : Option Nat} :
  stepO P ops k tids K dst ⟨fr, os, live, nt⟩ g ⟨v, ob, rd, none, [], [], [], []⟩ = ((g = true → ob) ∧ ARun P ops (k + 1) (tids ++ [rd.toList]) K ⟨wm fr dst g v, os, live, nt⟩) := by
 have hl : qm live (⟨v, ob, rd, none, [], [], [], []⟩ : Out) = live := xd rfl rfl
 simp only [stepO, Obl, Out.tags, Out.wrs, St.put, Out.tame, hl]
 simp [ja]
theorem xgj {P : Program} {ops : List SOper} {k : Nat} {tids : List (List Nat)} {K : List (List Nat) → St → Prop} {dst : Option Nat} {fr : Fr} {os : List AObj} {live : List Nat} {nt : Nat} {g : Bool} {v : ASlot} {ob : Prop} {rd : Option Nat} {id : Nat} {o : AObj} :
  stepO P ops k tids K dst ⟨fr, os, live, nt⟩ g ⟨v, ob, rd, some (id, o), [], [], [], []⟩ = (g = true ∧ ob ∧ ARun P ops (k + 1) (tids ++ [id :: (1000000 + id) :: rd.toList]) K ⟨wm fr dst g v, os.set id o, live, nt⟩) := by
 have hl : qm live (⟨v, ob, rd, some (id, o), [], [], [], []⟩ : Out) = live := xd rfl rfl
 simp only [stepO, Obl, Out.tags, Out.wrs, St.put, Out.tame, hl]
 cases g <;> simp [ja]
theorem xbe {P : Program} {ops : List SOper} {k : Nat} {tids : List (List Nat)} {K : List (List Nat) → St → Prop} {dst : Option Nat} {fr : Fr} {os : List AObj} {live : List Nat} {nt : Nat} {g : Bool} {v : ASlot} {ob : Prop} {rd : Option Nat} {cons : List Nat} {t : Nat} :
  stepO P ops k tids K dst ⟨fr, os, live, nt⟩ g ⟨v, ob, rd, none, cons, [t], [], []⟩ = (g = true ∧ ob ∧ (cons.all fun t => live.contains t) = true ∧ ARun P ops (k + 1) (tids ++ [rd.toList]) K ⟨wm fr dst g v, os, (live.filter fun t => !cons.contains t) ++ [t], nt⟩) := by
 have hc : ((cons.all fun t => live.contains t) = true) = (∀ t ∈ cons, t ∈ live) := by simp
 rw [hc]
 simp only [stepO, Obl, Out.tags, Out.wrs, St.put, Out.tame, qm]
 cases g <;> simp [and_assoc, ja]
def qlz (P : Program) (ops : List SOper) (k : Nat) (tids : List (List Nat)) (K : List (List Nat) → St → Prop) (dst : Option Nat) (st : St) (g : Bool) (c : Option (FuncId × List ASlot)) (ok : Bool) : Prop :=
 ∃ n as fa r fo fo' ι q, r.toks.length ≤ 16 ∧ (g = true → c = some (n, as) ∧ ok = true ∧ qg P n fa fo r fo' ∧ (P.funcs[n]?).any (fun fn => fn.body.isSome && !(fn.name == "runtime.NumGoroutine")) = true ∧ Fits st.live as fa ι fo.length (xr as fa) ∧ ObjFit st.os fo fo' ι ∧ (xg fo = [] ∧ xg fo' = []) ∧ (q = true → ∀ p ∈ ι.zip (fo'.map (AObj.ren ι)), st.os[p.1]? = some p.2)) ∧
  (g = true ∨ (zh (16 * (st.nt + k)) as fa r fo' ι q).tame) ∧ ARun P ops (k + 1) (tids ++ [(zh (16 * (st.nt + k)) as fa r fo' ι q).tags]) K (st.put dst g (zh (16 * (st.nt + k)) as fa r fo' ι q))
theorem xbf {P : Program} {ops : List SOper} {k : Nat} {tids : List (List Nat)} {K : List (List Nat) → St → Prop} {st : St} {dst : Option Nat} {f : Opd} {args : List Opd} {gd : Option (Nat × Bool)} :
  ARun P (⟨dst, .call f args, gd⟩ :: ops) k tids K st = xm (gv st.fr gd) fun g => qlz P ops k tids K dst st g (qiy st.fr f args) (f.ok st.fr && args.all fun x => x.ok st.fr) := by
 simp only [ARun]
 cases hg : gv st.fr gd with
 | none => rfl
 | some g =>
  simp only [xm, qlz]
  apply propext
  constructor
  ·rintro ⟨n, as, fa, r, fo, fo', ι, q, h1, h2, h3, h4⟩
   exact ⟨n, as, fa, r, fo, fo', ι, q, h1, fun h => ⟨(h2 h).callee, by rw [(h2 h).ok, (h2 h).oks]; rfl, (h2 h).contract, (h2 h).body, (h2 h).fits, (h2 h).objs, (h2 h).noT, (h2 h).quiet⟩, h3, h4⟩
  ·rintro ⟨n, as, fa, r, fo, fo', ι, q, h1, h2, h3, h4⟩
   refine ⟨n, as, fa, r, fo, fo', ι, q, h1, fun h => ?_, h3, h4⟩
   obtain ⟨q1, q2, q3, q4, q5, q6, q7, q8⟩ := h2 h
   rw [Bool.and_eq_true] at q2
   exact ⟨q1, q2.1, q2.2, q3, q4, q5, q6, q7, h1, q8⟩
theorem ql0 {r : ASlot} (hr : r.toks = []) (b : Nat) : qd8 b r = r := by
 have hren : ∀ (b : Nat) (s : ASlot), s.toks = [] → renT [] b s = s := by
  intro b s hs
  cases s <;> first | rfl | (simp [ASlot.toks] at hs)
 cases r with
 | tup l =>
  simp only [qd8, wj, hr, ASlot.tup.injEq]
  have : ∀ s ∈ l, renT [] b s = s := fun s hs => by
   cases s with
   | own t es rows => simp only [ASlot.toks, List.flatMap_eq_nil_iff] at hr; have := hr _ hs; simp [qbl] at this
   | uni t es rows => simp only [ASlot.toks, List.flatMap_eq_nil_iff] at hr; have := hr _ hs; simp [qbl] at this
   | _ => rfl
  rw [List.map_congr_left this, List.map_id']
 | own t es rows => simp [ASlot.toks] at hr
 | uni t es rows => simp [ASlot.toks] at hr
 | _ => rfl
mutual
theorem qne {s : ASlot} (k : Nat) (h : s.noPtr = true) : s.inK k = true := by
 cases s with
 | d x => exact D.inK_noPtr k h
 | own t es rows => exact D.inKR_noPtr k h
 | uni t es rows => exact D.inKR_noPtr k h
 | full es rows => exact D.inKR_noPtr k h
 | rd cs => exact D.inKL_noPtr k h
 | _ => simp [ASlot.noPtr] at h
end
theorem qtd (os : List AObj) : ObjFit os [] [] [] := ⟨List.nodup_nil, rfl, Nat.le_refl _, trivial, by simp, rfl⟩
theorem qp6 (l : List ASlot) : l.map (ASlot.ren []) = l := by
 have : ASlot.ren [] = id := by funext s; rfl
 rw [this, List.map_id]
theorem xu {P : Program} {ops : List SOper} {k : Nat} {tids : List (List Nat)} {K : List (List Nat) → St → Prop} {fr : Fr} {os : List AObj} {live : List Nat} {nt : Nat} {dst : Option Nat} {g ok : Bool} {n : FuncId} {fa as : List ASlot} {r : ASlot}
  (hc : qg P n fa [] r []) (hb : (P.funcs[n]?).any (fun fn => fn.body.isSome && !(fn.name == "runtime.NumGoroutine")) = true) (ho : g = true → ok = true)
  (hfit : g = true → yj as fa) (hnp : fa.all ASlot.noPtr = true) (hh : xr as fa = []) (hr : r.toks = [])
  (hK : ARun P ops (k + 1) (tids ++ [[]]) K ⟨wm fr dst g r, os, live, nt⟩) :
  qlz P ops k tids K dst ⟨fr, os, live, nt⟩ g (some (n, as)) ok := by
 have hre := ql0 hr
 have hput : St.put (⟨fr, os, live, nt⟩ : St) dst g (zh (16 * (nt + k)) as fa r [] [] false) = ⟨wm fr dst g r, os, live, nt⟩ := by
  simp only [St.put, zh, Out.wrs, hre, qm, hh, hr]
  simp [ja, ASlot.ren]
 refine ⟨n, as, fa, r, [], [], [], false, by rw [hr]; simp, fun h => ⟨rfl, ho h, hc, hb, ⟨by rw [qp6]; exact hfit h, List.all_eq_true.2 fun s hs => qne _ (List.all_eq_true.1 hnp s hs), by rw [hh]; simp, by rw [hh]; simp⟩, qtd _, ⟨rfl, rfl⟩, (nomatch ·)⟩, .inr ⟨by simp [zh, Out.wrs], by simp [zh, hh], by simp [zh, hre, hr]⟩, ?_⟩
 rw [hput]
 exact hK
theorem qhi {P : Program} {ops : List SOper} {k : Nat} {tids : List (List Nat)} {K : List (List Nat) → St → Prop} {fr : Fr} {os : List AObj} {live : List Nat} {nt : Nat} {dst : Option Nat} {g ok : Bool} {c : Option (FuncId × List ASlot)} (x : D)
  (hg : g = false) (hK : ARun P ops (k + 1) (tids ++ [[]]) K ⟨wm fr dst g (.d x), os, live, nt⟩) : qlz P ops k tids K dst ⟨fr, os, live, nt⟩ g c ok := by
 subst hg
 refine ⟨0, [], [], .d x, [], [], [], false, by simp [ASlot.toks], fun h => (by cases h), .inr ⟨rfl, rfl, rfl⟩, ?_⟩
 have : St.put (⟨fr, os, live, nt⟩ : St) dst false (zh (16 * (nt + k)) [] [] (.d x) [] [] false) = ⟨wm fr dst false (.d x), os, live, nt⟩ := by
  simp [St.put, zh, Out.wrs, qd8, wj, renT, qm, xr, ASlot.toks, ja, ASlot.ren]
 rw [this]
 exact hK
theorem xlx {s : ASlot} : ASlot.ren [] s = s := rfl
theorem xr0 {i : Nat} {ι : List Nat} {x : D} : ASlot.ren (i :: ι) (.d x) = .d (x.ren (i :: ι)) := rfl
theorem xly {i : Nat} {ι : List Nat} {t es : Nat} {rows : List (List D)} : ASlot.ren (i :: ι) (.own t es rows) = .own t es (D.renR (i :: ι) rows) := rfl
theorem xgk {i : Nat} {ι : List Nat} {es : Nat} {rows : List (List D)} : ASlot.ren (i :: ι) (.full es rows) = .full es (D.renR (i :: ι) rows) := rfl
theorem xpd {i : Nat} {ι : List Nat} {cs : List D} : ASlot.ren (i :: ι) (.rd cs) = .rd (D.renL (i :: ι) cs) := rfl
theorem xlz {i : Nat} {ι : List Nat} {l : List ASlot} : ASlot.ren (i :: ι) (.tup l) = .tup (l.map (ASlot.ren1 (i :: ι))) := rfl
theorem xl0 {i : Nat} {ι : List Nat} : ASlot.ren (i :: ι) .bad = .bad := rfl
def isNone (os : List AObj) (id : Nat) : Bool := match os[id]? with | some .none => true | _ => false
def y8 : List ASlot → Bool
 | [] => true
 | s :: l => s.toks.isEmpty && y8 l
theorem qte : ∀ (l : List ASlot), y8 l = true ↔ ∀ s ∈ l, s.toks = []
 | [] => by simp [y8]
 | s :: l => by simp [y8, qte l]
theorem qfq : ∀ {l : List AObj}, (l.all fun o => y8 o.cells) = true → xg l = []
 | [], _ => rfl
 | o :: l, h => by
  rw [List.all_cons, Bool.and_eq_true] at h
  simp only [xg, qfq h.2, List.append_nil, List.flatMap_eq_nil_iff]
  exact (qte _).1 h.1
theorem xbg {P : Program} {ops : List SOper} {k : Nat} {tids : List (List Nat)} {K : List (List Nat) → St → Prop} {fr : Fr} {os : List AObj} {live : List Nat} {nt : Nat} {dst : Option Nat} {ok : Bool} {n : FuncId} {fa as : List ASlot} {r : ASlot} {fo fo' : List AObj} (ι : List Nat)
  (hc : qg P n fa fo r fo') (hb : (P.funcs[n]?).any (fun fn => fn.body.isSome && !(fn.name == "runtime.NumGoroutine")) = true) (ho : ok = true)
  (hfit : yj as (fa.map (ASlot.ren ι))) (hin : fa.all (ASlot.inK fo.length) = true) (hh : xr as fa = []) (hr : r.toks = [])
  (hnd : ι.Nodup) (hlen : ι.length = fo'.length) (hle : fo.length ≤ fo'.length) (hold : qdf ι os ι fo) (hnew : (ι.drop fo.length).all (isNone os) = true) (hik : fo.all (AObj.inK fo.length) = true) (htk : (fo'.all fun o => y8 o.cells) = true) (htf : (fo.all fun o => y8 o.cells) = true)
  (hK : ARun P ops (k + 1) (tids ++ [ι ++ ι.map fun i => 1000000 + i]) K ⟨wm fr dst true (r.ren ι), ja os (ι.zip (fo'.map (AObj.ren ι))), live, nt⟩) :
  qlz P ops k tids K dst ⟨fr, os, live, nt⟩ true (some (n, as)) ok := by
 have hre := ql0 hr
 have hput : St.put (⟨fr, os, live, nt⟩ : St) dst true (zh (16 * (nt + k)) as fa r fo' ι false) = ⟨wm fr dst true (r.ren ι), ja os (ι.zip (fo'.map (AObj.ren ι))), live, nt⟩ := by
  simp only [St.put, zh, Out.wrs, hre, qm, hh, hr, cond_false]
  simp
 have hto : (zh (16 * (nt + k)) as fa r fo' ι false).tags = ι ++ ι.map (fun i => 1000000 + i) := by
  simp only [Out.tags, Out.wrs, zh, cond_false]
  have : (ι.zip (fo'.map (AObj.ren ι))).map (·.1) = ι := by
   rw [List.map_fst_zip (by rw [List.length_map]; omega)]
  have h2 : (ι.zip (fo'.map (AObj.ren ι))).map (fun p => 1000000 + p.1) = ι.map fun i => 1000000 + i := by
   rw [← this, List.map_map]; rw [this]; rfl
  simp [this, h2]
 refine ⟨n, as, fa, r, fo, fo', ι, false, by rw [hr]; simp, fun _ => ⟨rfl, ho, hc, hb, ⟨hfit, hin, by rw [hh]; simp, by rw [hh]; simp⟩, ⟨hnd, hlen, hle, hold, fun id hid => ?_, hik⟩, ⟨qfq htf, qfq htk⟩, (nomatch ·)⟩, .inl rfl, ?_⟩
 ·have := List.all_eq_true.1 hnew id hid
  unfold isNone at this
  split at this
  ·rename_i h; exact h
  ·cases this
 ·rw [hto, hput]
  exact hK
def nilO (P : Program) (ops : List SOper) (k : Nat) (tids : List (List Nat)) (K : List (List Nat) → St → Prop) (dst : Option Nat) (st : St) (g neg ok : Bool) (s : ASlot) : Prop :=
 g = true ∧ ok = true ∧ ∃ es rows, s.rows = some (es, rows) ∧ ∀ b : Bool, (b = true → rows = []) → ARun P ops (k + 1) (tids ++ [[]]) K ⟨wm st.fr dst true (.d (.bool (if neg = true then !b else b))), st.os, st.live, st.nt⟩
theorem q2z {P : Program} {ops : List SOper} {k : Nat} {tids : List (List Nat)} {K : List (List Nat) → St → Prop} {st : St} {dst : Option Nat} {neg : Bool} {x : Opd} {gd : Option (Nat × Bool)} :
  ARun P (⟨dst, .eqnilS neg x, gd⟩ :: ops) k tids K st = xm (gv st.fr gd) fun g => nilO P ops k tids K dst st g neg (x.ok st.fr) (x.get st.fr) := by
 simp only [ARun]
 cases gv st.fr gd with
 | none => rfl
 | some g =>
  cases g with
  | false => simp [xm, nilO]
  | true =>
   have hn : ∀ b, st.next ⟨dst, .eqnilS neg x, gd⟩ true (qs3 neg b) = ⟨wm st.fr dst true (.d (.bool (if neg = true then !b else b))), st.os, st.live, st.nt⟩ := by
    intro b
    have hl : qm st.live (qs3 neg b) = st.live := xd rfl rfl
    simp only [St.next, hl]
    rfl
   simp only [xm, nilO, hn]
def xgl (P : Program) (ops : List SOper) (k : Nat) (tids : List (List Nat)) (K : List (List Nat) → St → Prop) (dst : Option Nat) (st : St) (g ok : Bool) (s : ASlot) : Prop :=
 g = true ∧ ok = true ∧ ∃ iid, s = .d (.ptr iid 0) ∧
  ((∃ since seen last, st.os[iid]? = some (.iter (.d .nilmap) since seen last) ∧ ARun P ops (k + 1) (tids ++ [[]]) K ⟨wm st.fr dst true qpj, st.os, st.live, st.nt⟩) ∨
   ∃ mid since seen last es clock, IterOn st.os iid mid since seen last es clock ∧ (qf5 es seen = [] → ARun P ops (k + 1) (tids ++ [[]]) K ⟨wm st.fr dst true qpj, st.os, st.live, st.nt⟩) ∧
    ∀ e ∈ qf5 es seen, ARun P ops (k + 1) (tids ++ [[]]) K ⟨wm st.fr dst true (entV e), st.os.set iid (.iter (.d (.map mid)) since (seen ++ [e.1]) clock), st.live, st.nt⟩)
theorem q73 {P : Program} {ops : List SOper} {k : Nat} {tids : List (List Nat)} {K : List (List Nat) → St → Prop} {st : St} {dst : Option Nat} {x : Opd} {gd : Option (Nat × Bool)} :
  ARun P (⟨dst, .nextM x, gd⟩ :: ops) k tids K st = xm (gv st.fr gd) fun g => xgl P ops k tids K dst st g (x.ok st.fr) (x.get st.fr) := by
 simp only [ARun]
 cases gv st.fr gd with
 | none => rfl
 | some g =>
  cases g with
  | false => simp [xm, xgl]
  | true =>
   have h1 : st.next ⟨dst, .nextM x, gd⟩ true qf9 = ⟨wm st.fr dst true qpj, st.os, st.live, st.nt⟩ := by
    have hl : qm st.live qf9 = st.live := xd rfl rfl
    simp only [St.next, hl]
    rfl
   have h2 : ∀ iid mid since seen clock e, st.next ⟨dst, .nextM x, gd⟩ true (qpt iid mid since seen clock e) = ⟨wm st.fr dst true (entV e), st.os.set iid (.iter (.d (.map mid)) since (seen ++ [e.1]) clock), st.live, st.nt⟩ := by
    intro iid mid since seen clock e
    have hl : qm st.live (qpt iid mid since seen clock e) = st.live := xd rfl rfl
    simp only [St.next, hl]
    rfl
   simp only [xm, xgl, h1, h2]
theorem xgm {P : Program} {ops : List SOper} {k : Nat} {tids : List (List Nat)} {K : List (List Nat) → St → Prop} {fr : Fr} {os : List AObj} {live : List Nat} {nt : Nat} {dst : Option Nat} {ok : Bool} {iid mid since last clock : Nat} {seen : List Nat} {es : Ents}
  (h : IterOn os iid mid since seen last es clock) (h1 : qf5 es seen = [] → ARun P ops (k + 1) (tids ++ [[]]) K ⟨wm fr dst true qpj, os, live, nt⟩)
  (h2 : ∀ e ∈ qf5 es seen, ARun P ops (k + 1) (tids ++ [[]]) K ⟨wm fr dst true (entV e), os.set iid (.iter (.d (.map mid)) since (seen ++ [e.1]) clock), live, nt⟩) (ho : ok = true := by rfl) :
  xgl P ops k tids K dst ⟨fr, os, live, nt⟩ true ok (.d (.ptr iid 0)) := ⟨rfl, ho, iid, rfl, .inr ⟨mid, since, seen, last, es, clock, h, h1, h2⟩⟩
def xgn (P : Program) (ops : List SOper) (k : Nat) (tids : List (List Nat)) (K : List (List Nat) → St → Prop) (dst : Option Nat) (st : St) (g : Bool) (back es bytes : Nat) (s x : Opd) : Prop :=
 g = true ∧ (((sem (16 * (st.nt + k)) (.appendO back es bytes s x) st).ob ∧ ARun P ops (k + 1) (tids ++ [[]]) K (st.next ⟨dst, .appendR back es bytes s x, none⟩ true (sem (16 * (st.nt + k)) (.appendO back es bytes s x) st))) ∨
     (s.ok st.fr = true ∧ x.ok st.fr = true ∧ ∃ id n r, s.get st.fr = .d (.ref id 0 es n) ∧ yy es st.os (x.get st.fr) = some r ∧ AppR st.os es bytes back id n r ∧
      ARun P ops (k + 1) (tids ++ [[]]) K (st.next ⟨dst, .appendR back es bytes s x, none⟩ true (qpu id id es n st.os r)) ∧ ARun P ops (k + 1) (tids ++ [[]]) K (st.next ⟨dst, .appendR back es bytes s x, none⟩ true (qpu id (st.os.length - back) es n st.os r))))
theorem qyy {P : Program} {ops : List SOper} {k : Nat} {tids : List (List Nat)} {K : List (List Nat) → St → Prop} {st : St} {dst : Option Nat} {back es bytes : Nat} {s x : Opd} {gd : Option (Nat × Bool)} :
  ARun P (⟨dst, .appendR back es bytes s x, gd⟩ :: ops) k tids K st = xm (gv st.fr gd) fun g => xgn P ops k tids K dst st g back es bytes s x := by
 simp only [ARun]
 cases gv st.fr gd with
 | none => rfl
 | some g =>
  cases g with
  | false => simp [xm, xgn]
  | true => rfl
def q5e (P : Program) (ops : List SOper) (k : Nat) (tids : List (List Nat)) (K : List (List Nat) → St → Prop) (dst : Option Nat) (st : St) (g ok : Bool) (s : ASlot) : Prop :=
 g = true ∧ ok = true ∧ ∃ iid mid since seen clock es e, s = .d (.ptr iid 0) ∧ EntryOn st.os iid mid since seen clock es e ∧ ARun P ops (k + 1) (tids ++ [[]]) K ⟨wm st.fr dst true (.tup [.d e.2.1, .d e.2.2]), st.os, st.live, st.nt⟩
theorem q20 {P : Program} {ops : List SOper} {k : Nat} {tids : List (List Nat)} {K : List (List Nat) → St → Prop} {st : St} {dst : Option Nat} {x : Opd} {gd : Option (Nat × Bool)} :
  ARun P (⟨dst, .entryM x, gd⟩ :: ops) k tids K st = xm (gv st.fr gd) fun g => q5e P ops k tids K dst st g (x.ok st.fr) (x.get st.fr) := by
 simp only [ARun]
 cases gv st.fr gd with
 | none => rfl
 | some g =>
  cases g with
  | false => simp [xm, q5e]
  | true =>
   have h1 : ∀ e, st.next ⟨dst, .entryM x, gd⟩ true (qga e) = ⟨wm st.fr dst true (.tup [.d e.2.1, .d e.2.2]), st.os, st.live, st.nt⟩ := by
    intro e
    have hl : qm st.live (qga e) = st.live := xd rfl rfl
    simp only [St.next, hl]
    rfl
   simp only [xm, q5e, h1]
theorem xbh {P : Program} {ops : List SOper} {k : Nat} {tids : List (List Nat)} {K : List (List Nat) → St → Prop} {fr : Fr} {os : List AObj} {live : List Nat} {nt : Nat} {dst : Option Nat} {ok : Bool} {iid mid since clock : Nat} {seen : List Nat} {es : Ents} {e : Nat × D × D}
  (h : EntryOn os iid mid since seen clock es e) (h1 : ARun P ops (k + 1) (tids ++ [[]]) K ⟨wm fr dst true (.tup [.d e.2.1, .d e.2.2]), os, live, nt⟩) (ho : ok = true := by rfl) :
  q5e P ops k tids K dst ⟨fr, os, live, nt⟩ true ok (.d (.ptr iid 0)) := ⟨rfl, ho, iid, mid, since, seen, clock, es, e, rfl, h, h1⟩
theorem ql1 {P : Program} {ops : List SOper} {k : Nat} {tids : List (List Nat)} {K : List (List Nat) → St → Prop} {fr : Fr} {os : List AObj} {live : List Nat} {nt : Nat} {dst : Option Nat} {neg ok : Bool} {s : ASlot} {es : Nat} {rows : List (List D)}
  (ho : ok = true) (hr : s.rows = some (es, rows)) (h : ∀ b : Bool, (b = true → rows = []) → ARun P ops (k + 1) (tids ++ [[]]) K ⟨wm fr dst true (.d (.bool (if neg = true then !b else b))), os, live, nt⟩) :
  nilO P ops k tids K dst ⟨fr, os, live, nt⟩ true neg ok s := ⟨rfl, ho, es, rows, hr, h⟩
structure Fits0 (live : List Nat) (as fa : List ASlot) : Prop where
 all : yj as fa
 noPtr : fa.all ASlot.noPtr = true
 lv : ∀ p ∈ xr as fa, p.1 ∈ live
 nd1 : ((xr as fa).map (·.1)).Nodup
theorem qhj {P : Program} {ops : List SOper} {k : Nat} {tids : List (List Nat)} {K : List (List Nat) → St → Prop} {fr : Fr} {os : List AObj} {live : List Nat} {nt : Nat} {dst : Option Nat} {ok : Bool} {n : FuncId} {fa as : List ASlot} {r : ASlot}
  (hc : qg P n fa [] r []) (hb : (P.funcs[n]?).any (fun fn => fn.body.isSome && !(fn.name == "runtime.NumGoroutine")) = true) (ho : ok = true)
  (hfit : Fits0 live as fa) (hnd : r.toks.Nodup) (hfew : r.toks.length ≤ 16)
  (hK : ARun P ops (k + 1) (tids ++ [[]]) K ⟨wm fr dst true (qd8 (16 * (nt + k)) r), os, (live.filter fun t => !((xr as fa).map (·.1)).contains t) ++ (qd8 (16 * (nt + k)) r).toks, nt⟩) :
  qlz P ops k tids K dst ⟨fr, os, live, nt⟩ true (some (n, as)) ok :=
 ⟨n, as, fa, r, [], [], [], false, hfew, fun _ => ⟨rfl, ho, hc, hb, ⟨by rw [qp6]; exact hfit.all, List.all_eq_true.2 fun s hs => qne _ (List.all_eq_true.1 hfit.noPtr s hs), hfit.lv, hfit.nd1⟩, qtd _, ⟨rfl, rfl⟩, (nomatch ·)⟩, .inl rfl, hK⟩
def q5f (P : Program) (ops : List SOper) (k : Nat) (tids : List (List Nat)) (K : List (List Nat) → St → Prop) (dst : Option Nat) (st : St) (g : Bool) (c : Option (FuncId × List ASlot)) (ok : Bool) : Prop :=
 g = true ∧ ∃ n as fa r fo fo' ι H R, (c = some (n, as) ∧ ok = true ∧ qg P n fa fo r fo' ∧ (P.funcs[n]?).any (fun fn => fn.body.isSome && !(fn.name == "runtime.NumGoroutine")) = true ∧ H = xr as fa ++ vk st.os ι fo ∧ R = r.toks ++ xg fo' ∧
  Fits st.live as fa ι fo.length H ∧ ObjFit st.os fo fo' ι ∧ R.length ≤ 16) ∧ ARun P ops (k + 1) (tids ++ [[]]) K (st.put dst true (qdo (16 * (st.nt + k)) H R r fo' ι))
theorem q74 {P : Program} {ops : List SOper} {k : Nat} {tids : List (List Nat)} {K : List (List Nat) → St → Prop} {st : St} {dst : Option Nat} {f : Opd} {args : List Opd} {gd : Option (Nat × Bool)} :
  ARun P (⟨dst, .callT f args, gd⟩ :: ops) k tids K st = xm (gv st.fr gd) fun g => q5f P ops k tids K dst st g (qiy st.fr f args) (f.ok st.fr && args.all fun x => x.ok st.fr) := by
 simp only [ARun]
 cases hg : gv st.fr gd with
 | none => rfl
 | some g =>
  simp only [xm, q5f]
  apply propext
  constructor
  ·rintro ⟨rfl, n, as, fa, r, fo, fo', ι, H, R, h, h3⟩
   exact ⟨rfl, n, as, fa, r, fo, fo', ι, H, R, ⟨h.callee, by rw [h.ok, h.oks]; rfl, h.contract, h.body, h.hH, h.hR, h.fits, h.objs, h.few⟩, h3⟩
  ·rintro ⟨rfl, n, as, fa, r, fo, fo', ι, H, R, ⟨q1, q2, q3, q4, q5, q6, q7, q8, q9⟩, h3⟩
   rw [Bool.and_eq_true] at q2
   exact ⟨rfl, n, as, fa, r, fo, fo', ι, H, R, ⟨q1, q2.1, q2.2, q3, q4, q5, q6, q7, q8, q9⟩, h3⟩
theorem xbi {P : Program} {ops : List SOper} {k : Nat} {tids : List (List Nat)} {K : List (List Nat) → St → Prop} {fr : Fr} {os : List AObj} {live : List Nat} {nt : Nat} {dst : Option Nat} {ok : Bool} {n : FuncId} {fa as : List ASlot} {r : ASlot} {fo fo' : List AObj} (ι : List Nat)
  (hc : qg P n fa fo r fo') (hb : (P.funcs[n]?).any (fun fn => fn.body.isSome && !(fn.name == "runtime.NumGoroutine")) = true)
  (hK : ARun P ops (k + 1) (tids ++ [[]]) K ⟨wm fr dst true ((wj (r.toks ++ xg fo') (16 * (nt + k)) r).ren ι), ja os (ι.zip ((fo'.map (AObj.rt (r.toks ++ xg fo') (16 * (nt + k)))).map (AObj.ren ι))),
   (live.filter fun t => !((xr as fa ++ vk os ι fo).map (·.1)).contains t) ++ ((wj (r.toks ++ xg fo') (16 * (nt + k)) r).toks ++ xg (fo'.map (AObj.rt (r.toks ++ xg fo') (16 * (nt + k))))), nt⟩)
  (ho : ok = true) (hfit : yj as (fa.map (ASlot.ren ι))) (hin : fa.all (ASlot.inK fo.length) = true)
  (hl : ((xr as fa ++ vk os ι fo).all fun p => live.contains p.1) = true) (hn : ((xr as fa ++ vk os ι fo).map (·.1)).Nodup) (hfew : (r.toks ++ xg fo').length ≤ 16)
  (hnd : ι.Nodup) (hlen : ι.length = fo'.length) (hle : fo.length ≤ fo'.length) (hold : qdf ι os ι fo) (hnew : (ι.drop fo.length).all (isNone os) = true) (hik : fo.all (AObj.inK fo.length) = true) :
  q5f P ops k tids K dst ⟨fr, os, live, nt⟩ true (some (n, as)) ok := by
 refine ⟨rfl, n, as, fa, r, fo, fo', ι, _, _, ⟨rfl, ho, hc, hb, rfl, rfl, ⟨hfit, hin, ?_, hn⟩, ⟨hnd, hlen, hle, hold, fun id hid => ?_, hik⟩, hfew⟩, hK⟩
 ·intro p hp
  simpa using List.all_eq_true.1 hl p hp
 ·have := List.all_eq_true.1 hnew id hid
  unfold isNone at this
  split at this
  ·rename_i h; exact h
  ·cases this
theorem qs {P : Program} {k0 : Nat} {c : Opd} {x y : SCode} {Q : SExit → St → Prop} {st : St} (t : Bool) (h1 : c.ok st.fr = true) (h2 : c.get st.fr = .d (.bool t)) (hx : t = true → AWp P k0 x Q st) (hy : t = false → AWp P k0 y Q st) : AWp P k0 (.cond c x y) Q st :=
 ⟨t, ⟨h1, h2⟩, hx, hy⟩
theorem xl1 {P : Program} {k0 : Nat} {a b : SCode} {Q : SExit → St → Prop} {st : St} : AWp P k0 (.seq a b) Q st = AWp P k0 a (qg2 (AWp P k0 b Q) Q) st := rfl
theorem xgo {P : Program} {k0 : Nat} {Q : SExit → St → Prop} {st : St} : AWp P k0 .skip Q st = Q .normal st := rfl
theorem xbj {P : Program} {k0 id : Nat} {a : SCode} {Q : SExit → St → Prop} {st : St} : AWp P k0 (.block id a) Q st = AWp P k0 a (qyr id Q) st := rfl
theorem xgp {P : Program} {k0 id : Nat} {Q : SExit → St → Prop} {st : St} : AWp P k0 (.exit id) Q st = Q (.exit id) st := rfl
theorem xl2 {P : Program} {k0 : Nat} {Q : SExit → St → Prop} {st : St} : AWp P k0 .ret Q st = Q .ret st := rfl
def disj : List Nat → List Nat → Bool
 | [], _ => true
 | i :: l, r => !r.contains i && disj l r
theorem qvj : ∀ (l r : List Nat), disj l r = true ↔ ∀ i ∈ l, i ∉ r
 | [], r => by simp [disj]
 | i :: l, r => by simp [disj, qvj l r]
theorem xgq {l : List Nat} : disj l [] = true := (qvj l []).2 (by simp)
theorem qyz {p : Nat × Nat} {ps : List (Nat × Nat)} {tids : List (List Nat)} : qfe (p :: ps) tids = (disj (tids.getD p.1 []) (tids.getD p.2 []) = true ∧ qfe ps tids) := by
 rw [qvj]
 apply propext
 simp only [qfe, List.forall_mem_cons]
theorem q21 {tids : List (List Nat)} : qfe [] tids = True := by simp [qfe]
theorem St.bump_mk {fr : Fr} {os : List AObj} {live : List Nat} {nt n : Nat} : (⟨fr, os, live, nt⟩ : St).bump n = ⟨fr, os, live, nt + n⟩ := rfl
theorem xgr (c a : Bool) : (if c = true then a else false) = (c && a) := by cases c <;> rfl
theorem xl3 (c b : Bool) : (if c = true then true else b) = (c || b) := by cases c <;> rfl
theorem xpe (b : Bool) : (b == true) = b := by cases b <;> rfl
theorem xpf (b : Bool) : (b == false) = !b := by cases b <;> rfl
def qtf : List Nat → Bool
 | [] => true
 | t :: l => !l.contains t && qtf l
theorem qtg : ∀ (l : List Nat), qtf l = true ↔ l.Nodup
 | [] => by simp [qtf]
 | t :: l => by simp [qtf, qtg l]
def xgs (live live' : List Nat) (ps : List (Nat × Nat)) : Bool := ps.all fun p => !live'.contains p.2 || live.contains p.1
def ltB (n : Nat) (l : List Nat) : Bool := l.all fun t => decide (t < n)
theorem xgt {k0 : Nat} {fr fr' : Fr} {os os' : List AObj} {live live' : List Nat} {nt nt' : Nat} : Weak k0 ⟨fr, os, live, nt⟩ ⟨fr', os', live', nt'⟩ ↔
  frW (wn os') fr fr' ∧ osW (wn os') os os' ∧ xgs live live' (qcg fr fr' ++ wx os os') = true ∧ qtf ((qcg fr fr' ++ wx os os').map (·.1)) = true ∧ qgb k0 os os' ∧
  ltB (16 * nt') (live' ++ qiz fr' ++ xg os') = true := by
 have h1 : xgs live live' (qcg fr fr' ++ wx os os') = true ↔ ∀ p ∈ qcg fr fr' ++ wx os os', p.2 ∈ live' → p.1 ∈ live := by
  simp only [xgs, List.all_eq_true, Bool.or_eq_true, Bool.not_eq_true', List.contains_iff_mem, ← Bool.not_eq_true]
  exact ⟨fun h p hp hl => (h p hp).resolve_left (fun hn => hn hl), fun h p hp => by by_cases hl : p.2 ∈ live' <;> simp [hl, h p hp]⟩
 have h2 : ltB (16 * nt') (live' ++ qiz fr' ++ xg os') = true ↔ ∀ t ∈ live' ++ qiz fr' ++ xg os', t < 16 * nt' := by
  simp only [ltB, List.all_eq_true, decide_eq_true_eq]
 rw [h1, h2, qtg]
 exact ⟨fun h => ⟨h.fr, h.os, h.live, h.nd, h.base, h.wf⟩, fun h => ⟨h.1, h.2.1, h.2.2.1, h.2.2.2.1, h.2.2.2.2.1, h.2.2.2.2.2⟩⟩
theorem xl4 {keep : Nat → Bool} {os : List AObj} : osW keep os [] = True := by cases os with | nil => rfl | cons o l => cases o <;> rfl
theorem xgu {keep : Nat → Bool} {o : AObj} {l l' : List AObj} : osW keep (o :: l) (.none :: l') = osW keep l l' := by cases o <;> rfl
theorem q22 {os : List AObj} : wx os [] = [] := by cases os with | nil => rfl | cons o l => cases o <;> rfl
theorem qy0 {o : AObj} {l l' : List AObj} : wx (o :: l) (.none :: l') = wx l l' := by cases o <;> rfl
theorem xl5 {keep : Nat → Bool} {cs : List ASlot} : csW keep cs [] = True := by cases cs <;> rfl
theorem q23 {cs : List ASlot} : qba cs [] = [] := by cases cs <;> rfl
theorem qvk {os os' : List AObj} : qgb 0 os os' = True := by simp [qgb]
theorem xl6 {keep : Nat → Bool} {s : ASlot} {x : D} : qc5 keep s (.d x) = (s.eqvD x ∧ x.okW keep = true) := by cases s <;> rfl
theorem xbk {keep : Nat → Bool} {s : ASlot} : qc5 keep s .bad = True := by cases s <;> rfl
theorem xbl {s : ASlot} {x : D} : vw s (.d x) = [] := by cases s <;> rfl
theorem qy1 {s : ASlot} {es : Nat} {rows : List (List D)} : vw s (.full es rows) = [] := by cases s <;> rfl
theorem q24 {s : ASlot} : vw s .bad = [] := by cases s <;> rfl
theorem q75 {s : ASlot} {cs : List D} : vw s (.rd cs) = [] := by cases s <;> rfl
theorem q25 {t t' es es' : Nat} {r r' : List (List D)} : vw (.own t es r) (.own t' es' r') = [(t, t')] := rfl
def ql2 (st : St) : List RVar → Prop
 | [] => True
 | r :: l => r.good st ∧ ql2 st l
theorem qp7 {st : St} : ∀ (l : List RVar), ql2 st l ↔ ∀ r ∈ l, r.good st
 | [] => by simp [ql2]
 | r :: l => by simp [ql2, qp7 l]
theorem qp8 {α : Type} {x : α} {p : α → Prop} : (∀ y ∈ some x, p y) = p x := by simp
theorem qp9 {α : Type} {p : α → Prop} : (∀ y ∈ (none : Option α), p y) = True := by simp
theorem xgv {k0 : Nat} {rvs : List RVar} {rs : List ASlot} {objs : List AObj} {fr : Fr} {os : List AObj} {live : List Nat} {nt : Nat} :
  xa5 k0 rvs rs objs ⟨fr, os, live, nt⟩ = (ql2 ⟨fr, os, live, nt⟩ rvs ∧ Weak k0 ⟨y4 (rvs.map (RVar.slot ⟨fr, os, live, nt⟩)) 0, os, live, nt⟩ ⟨y4 rs 0, objs, vt rs ++ xg objs, 1⟩) := by rw [qp7]; rfl
def xr1 {α : Type} (k0 : Nat) (S : α → St) (μ : α → Nat) (x : α) (st' : St) : Prop := ∃ y, Weak k0 st' (S y) ∧ μ y < μ x
theorem qj {α : Type} {P : Program} {k0 : Nat} {a : SCode} {Q : SExit → St → Prop} {st : St} (S : α → St) (μ : α → Nat) (x0 : α) (h0 : Weak k0 st (S x0))
  (h : ∀ x, AWp P k0 a (qg2 (xr1 k0 S μ x) Q) (S x)) : AWp P k0 (.loop a) Q st :=
 ⟨α, S, μ, x0, .weak h0 (.refl _), fun x => AWp.mono a (qdz (fun _ ⟨y, h1, h2⟩ => ⟨y, .weak h1 (.refl _), h2⟩) (fun _ _ h => h)) (h x)⟩
theorem xbm {keep : Nat → Bool} {t t' es es' : Nat} {r r' : List (List D)} : qc5 keep (.own t es r) (.own t' es' r') = ((es = es' ∧ D.eqvR r r') ∧ D.noPtrR r' = true) := rfl
theorem qsl {keep : Nat → Bool} {t' es es' : Nat} {r r' : List (List D)} : qc5 keep (.full es r) (.own t' es' r') = (qab es r es' r' ∧ D.noPtrR r' = true) := rfl
theorem q76 {keep : Nat → Bool} {es es' : Nat} {r r' : List (List D)} : qc5 keep (.full es r) (.full es' r') = (qab es r es' r' ∧ D.noPtrR r' = true) := rfl
theorem xgw {keep : Nat → Bool} {r r' : List D} : qc5 keep (.rd r) (.rd r') = (D.eqvL r r' ∧ D.noPtrL r' = true) := rfl
theorem xl7 {keep : Nat → Bool} {cs cs' : List ASlot} {l l' : List AObj} : osW keep (.row cs :: l) (.row cs' :: l') = (csW keep cs cs' ∧ osW keep l l') := rfl
theorem q26 {cs cs' : List ASlot} {l l' : List AObj} : wx (.row cs :: l) (.row cs' :: l') = qba cs cs' ++ wx l l' := rfl
theorem xgx {keep : Nat → Bool} {s s' : ASlot} {l l' : List ASlot} : csW keep (s :: l) (s' :: l') = (qc5 keep s s' ∧ csW keep l l') := rfl
theorem qcw {s s' : ASlot} {l l' : List ASlot} : qba (s :: l) (s' :: l') = vw s s' ++ qba l l' := rfl
theorem qvl {n : Nat} : ((n : Int) + 1).toNat = n + 1 := by omega
theorem qy2 {α β : Type} {f : α → β} {l : List α} : (l.map f).take l.length = l.map f := by rw [List.take_of_length_le (by simp)]
theorem D.default_eq : (default : D) = .int default default := rfl
theorem qvm {keep : Nat → Bool} {t' es' : Nat} {r' : List (List D)} : qc5 keep (.d .nilsl) (.own t' es' r') = (r' = []) := rfl
theorem qsn {keep : Nat → Bool} {es' : Nat} {r' : List (List D)} : qc5 keep (.d .nilsl) (.full es' r') = (r' = []) := rfl
theorem qvn {x : D} {t' es' : Nat} {r' : List (List D)} : vw (.d x) (.own t' es' r') = [] := rfl
theorem qso {t' es' : Nat} {r' : List (List D)} : qbv (.d .nilsl) (.own t' es' r') = (r' = []) := rfl
theorem qqa {es' : Nat} {r' : List (List D)} : qbv (.d .nilsl) (.full es' r') = (r' = []) := rfl
theorem xgy {es' : Nat} {r' : List (List D)} : D.eqv .nilsl (.sl es' r') = (r' = []) := by simp [D.eqv]
theorem qn1 {t' es es' : Nat} {r r' : List (List D)} : vw (.full es r) (.own t' es' r') = [] := rfl
theorem xbn (t : Nat) : [t].Nodup = True := by simp
theorem qi {α β : Type} (f : α → β) (l : List α) {i : Nat} (h : i < l.length) (d : β) : (l.map f).getD i d = f l[i] := by simp [List.getD, h]
theorem xw {α : Type} {f : α → List D} (h : ∀ x, D.noPtrL (f x) = true) (l : List α) : D.noPtrR (l.map f) = true := by
 induction l with
 | nil => rfl
 | cons x l ih => simp [D.noPtrR, h, ih]
theorem wk {α β : Type} (f : α → β) (l : List α) {i : Nat} (h : i < l.length) : (l.take (i + 1)).map f = (l.take i).map f ++ [f l[i]] := by
 rw [List.take_succ_eq_append_getElem h, List.map_append]; rfl
theorem qaq : ∀ (a b : List D), D.noPtrL (a ++ b) = (D.noPtrL a && D.noPtrL b)
 | [], b => by simp [D.noPtrL]
 | x :: a, b => by simp [D.noPtrL, qaq a b, Bool.and_assoc]
theorem qkj : ∀ (a b : List (List D)), D.noPtrR (a ++ b) = (D.noPtrR a && D.noPtrR b)
 | [], b => by simp [D.noPtrR]
 | x :: a, b => by simp [D.noPtrR, qkj a b, Bool.and_assoc]
theorem wrap_i64 {n : Int} (h1 : -9223372036854775808 ≤ n) (h2 : n ≤ 9223372036854775807) : IntKind.i64.wrap n = n := IntWalk.i64_in n ⟨h1, h2⟩
theorem qf {n : Nat} (h : n < 9223372036854775807) : IntKind.i64.wrap ((n : Int) + 1) = ((n + 1 : Nat) : Int) := by
 rw [wrap_i64 (by omega) (by omega)]; rfl
theorem qvo {k : Nat} {o o' : AObj} {os os' : List AObj} : qgb (k + 1) (o :: os) (o' :: os') = ((wn [o] 0 = true → wn [o'] 0 = true) ∧ qgb k os os') := by
 apply propext
 simp only [qgb]
 constructor
 ·intro h
  refine ⟨fun h0 => ?_, fun id hid hk => ?_⟩
  ·exact h 0 (by omega) h0
  ·exact h (id + 1) (by omega) hk
 ·rintro ⟨h1, h2⟩ id hid hk
  cases id with
  | zero => exact h1 hk
  | succ id => exact h2 id (by omega) hk
theorem q5g {P : Program} {mu : List Nat} {news : List (FuncId × Nat)} {f : FuncId} {fn : Func} {sc : SCode} {args rs : List ASlot} {rvs : List RVar} {objs objs' : List AObj} (hm : P.follows .mixedOrders = true) (hf : P.funcs[f]? = some fn)
  (hc : fn.body.bind (zg P mu fn.ntmps news) = some sc.erase) (hr : fn.results.toList.mapM (qgc P) = some rvs)
  (h : AWp P objs.length sc (q2n objs.length rvs rs objs') (qhh args objs)) (hN : args.length ≤ fn.ntmps) (hl : rvs.length = rs.length) (hw : ltB 16 (vt args ++ xg objs) = true) : qg P f args objs (qp2 rs) objs' := by
 rw [Option.bind_eq_some_iff] at hc
 obtain ⟨c, hb, hc⟩ := hc
 refine qvh hm hf hb (rv := fn.results.toList) (by simp) hr hc hN hl (fun t ht => ?_) h
 simp only [ltB, List.all_eq_true, decide_eq_true_eq] at hw
 exact hw t ht
theorem xbo {rs : List ASlot} (h : rs.length ≠ 1) : qp2 rs = .tup rs := by
 match rs with
 | [] => rfl
 | [_] => simp at h
 | _ :: _ :: _ => rfl
theorem xtb (d : D) : D.eqv d d = True := eq_true (D.eqv_refl d)
theorem xr3 (d : List D) : D.eqvL d d = True := eq_true (D.eqvL_refl d)
theorem xr4 (d : List (List D)) : D.eqvR d d = True := eq_true (D.eqvR_refl d)
theorem xl8 {k k' : IntKind} {n n' : Int} : D.eqv (.int k n) (.int k' n') = (k = k' ∧ n = n') := by simp [D.eqv]
theorem xgz {b b' : Bool} : D.eqv (.bool b) (.bool b') = (b = b') := by simp [D.eqv]
theorem xl9 {b b' : List UInt8} : D.eqv (.str b) (.str b') = (b = b') := by simp [D.eqv]
theorem xph {es es' : Nat} {r r' : List (List D)} : D.eqv (.sl es r) (.sl es' r') = qab es r es' r' := by simp [D.eqv, qab]
theorem xma {l l' : List D} : D.eqv (.agg l) (.agg l') = D.eqvL l l' := by simp [D.eqv]
theorem xmb {b b' o o' : Nat} : D.eqv (.ptr b o) (.ptr b' o') = (b = b' ∧ o = o') := by simp [D.eqv]
theorem xmc {b b' o o' e e' n n' : Nat} : D.eqv (.ref b o e n) (.ref b' o' e' n') = (b = b' ∧ o = o' ∧ e = e' ∧ n = n') := by simp [D.eqv]
theorem xmd {b b' : Nat} : D.eqv (.map b) (.map b') = (b = b') := by simp [D.eqv]
theorem xg0 {f f' : Fn} {a a' b b' : List D} : D.eqv (.func f a b) (.func f' a' b') = (f = f' ∧ D.eqvL a a' ∧ D.eqvL b b') := by simp [D.eqv]
theorem xbp {t t' : TypeId} {a a' : D} : D.eqv (.iface t a) (.iface t' a') = (t = t' ∧ D.eqv a a') := by simp [D.eqv]
theorem xbq {a a' : D} {l l' : List D} : D.eqvL (a :: l) (a' :: l') = (D.eqv a a' ∧ D.eqvL l l') := by simp [D.eqvL]
theorem xg1 : D.eqvL [] [] = True := by simp [D.eqvL]
theorem xbr {a a' : List D} {l l' : List (List D)} : D.eqvR (a :: l) (a' :: l') = (D.eqvL a a' ∧ D.eqvR l l') := by simp [D.eqvR]
theorem xg2 : D.eqvR [] [] = True := by simp [D.eqvR]
theorem qy3 {es : Nat} {r r' : List (List D)} : qab es r es r' = D.eqvR r r' := by simp [qab]
theorem q27 {es es' : Nat} : qab es [] es' [] = True := by simp [qab, D.eqvR]
theorem qqb {α : Type} {es es' : Nat} {f : α → List D} : qab es [] es' (List.map f []) = True := by simp [qab, D.eqvR]
theorem xg3 {a b b' : List (List D)} : D.eqvR (a ++ b) (a ++ b') = D.eqvR b b' := by
 induction a with
 | nil => rfl
 | cons x a ih => simp [D.eqvR, D.eqvL_refl, ih]
theorem xg4 {s : ASlot} {x : D} : qbv s (.d x) = s.eqvD x := by cases s <;> rfl
theorem q77 {t t' es es' : Nat} {r r' : List (List D)} : qbv (.own t es r) (.own t' es' r') = (es = es' ∧ D.eqvR r r') := rfl
theorem qqc {t' es es' : Nat} {r r' : List (List D)} : qbv (.full es r) (.own t' es' r') = qab es r es' r' := rfl
theorem q28 {es es' : Nat} {r r' : List (List D)} : qbv (.full es r) (.full es' r') = qab es r es' r' := rfl
theorem xbs {r r' : List D} : qbv (.rd r) (.rd r') = D.eqvL r r' := rfl
theorem qc {x : D} : qbv (.d x) (.d x) := D.eqv_refl x
def xg5 (P : Program) (ops : List SOper) (objs : Nat) (pairs : List (Nat × Nat)) (Q : SExit → St → Prop) (st : St) : Prop := AWp P 0 (.region ops objs pairs) Q st
theorem xme {P : Program} {k0 : Nat} {ops : List SOper} {objs : Nat} {pairs : List (Nat × Nat)} {Q : SExit → St → Prop} {st : St} : AWp P k0 (.region ops objs pairs) Q st = xg5 P ops objs pairs Q st := rfl
def xg6 (P : Program) (ops : List SOper) (objs : Nat) (pairs : List (Nat × Nat)) (Q : SExit → St → Prop) (st : St) : Prop := AWp P 0 (.region ops objs pairs) Q st
def regK (pairs : List (Nat × Nat)) (Q : SExit → St → Prop) (n : Nat) (tids : List (List Nat)) (st' : St) : Prop := qfe pairs tids ∧ Q .normal (st'.bump n)
theorem xmf {pairs : List (Nat × Nat)} {Q : SExit → St → Prop} {n : Nat} {tids : List (List Nat)} {fr : Fr} {os : List AObj} {live : List Nat} {nt : Nat} :
  regK pairs Q n tids ⟨fr, os, live, nt⟩ = (qfe pairs tids ∧ Q .normal (⟨fr, os, live, nt + n⟩)) := rfl
theorem xg7 {P : Program} {ops : List SOper} {objs : Nat} {pairs : List (Nat × Nat)} {Q : SExit → St → Prop} {fr : Fr} {os : List AObj} {live : List Nat} {nt : Nat} :
  xg6 P ops objs pairs Q ⟨fr, os, live, nt⟩ = ARun P ops 0 [] (regK pairs Q ops.length) ⟨fr, os ++ List.replicate objs .none, live, nt⟩ := rfl
def xmg {ops lit : List SOper} (_ : ops = lit) : List SOper := lit
theorem xpi {R : List Nat} {b : Nat} {x : D} : renC R b (.d x) = .d x := rfl
theorem xg9 {R : List Nat} {b : Nat} : renC R b .bad = .bad := rfl
theorem xha {R : List Nat} {b t es : Nat} {rows : List (List D)} : renC R b (.own t es rows) = .own (b + R.idxOf t) es rows := by simp [renC, ASlot.toks, renT]
theorem xbt {t : Nat} : [t].idxOf t = 0 := by simp
attribute [go_sem] q74 xpi xg9 xha xbt AObj.rt wj renT vk
attribute [go_sem] q2z x6 qgy eqOk xl1 xme xg7 xmf xmg xgo xbj xgp xl2 qg2 qyr q2n xf7 xf8 xa7 xf9 q7s q7t qp4 xa8 q7u qvi xga xgb q7v q7w xln xgc xgd xa9 xge xgf xgg q2o qsj q7x q2q q7y q7z q70 q2r q2s q2t qyt xgh xba q71 q2u qhh y4 vt List.flatMap_cons List.flatMap_nil ASlot.toks List.append_nil List.nil_append List.replicate Nat.zero_add Nat.add_zero xbf qiy gv xm sem xgi xgj xbe Fr.get Opd.get Opd.ok wm if_true if_false ite_self or_false or_true true_or false_or or_self List.filter_cons List.filter_nil List.contains_cons List.contains_nil Int.cast_ofNat_Int Int.natCast_add not_false_eq_true implies_true forall_const imp_self and_self true_and and_true false_and and_false Bool.and_true Bool.true_and Bool.false_and Bool.and_false Bool.or_true Bool.true_or Bool.or_false Bool.false_or Bool.not_true Bool.not_false Bool.not_not xgr xl3 xpe xpf Bool.false_eq_true List.length_cons List.length_nil List.length_append List.set_cons_zero List.set_cons_succ List.cons_append List.map_cons List.map_nil List.all_cons List.all_nil List.getElem?_cons_zero List.getElem?_cons_succ List.getElem?_nil List.getD_cons_zero List.getD_cons_succ List.drop_zero List.drop_succ_cons List.take_zero List.take_succ_cons List.drop_nil List.take_nil List.forall_mem_cons List.not_mem_nil false_imp_iff List.flatten_cons List.flatten_nil ASlot.toCells ASlot.dCells ASlot.dCellsOk ASlot.cellD ASlot.isCellD ASlot.isOne ASlot.asD ASlot.rows D.isCell we ws storeAt qa6 qh AObj.cells binS qju qm0 qdl hiB loB qbp qox qbq yy ju qbl qny Option.map_some Option.map_none Option.isSome_some q21 St.bump_mk xgv ql2 qkj qaq qtf xgs ltB qp8 qp9 decide_true decide_false RVar.good RVar.slot xgt frW qcg xl6 xbk xbm qsl q76 xgw qn1 xbn Int.toNat_natCast List.length_map xbl qy1 q24 q75 q25 xl4 xgu q22 qy0 xl5 q23 qvk qiz xg List.nodup_nil Option.some.injEq ASlot.d.injEq D.bool.injEq D.int.injEq D.agg.injEq D.sl.injEq List.cons.injEq D.okW D.okWL D.okWR D.okW_noPtr D.okWL_noPtr D.okWR_noPtr D.noPtr D.noPtrL D.noPtrR ASlot.eqvD xtb xr3 xr4 xl8 xgz xl9 xph xma xmb xmc xmd xg0 xbp xbq xg1 xbr xg2 qy3 q27 qqb xg3 xg4 q77 qqc q28 xbs yj qvm qsn qvn qso qqa xgy xl7 q26 xgx qcw wn Int.toNat_zero D.default_eq Option.getD_some Option.getD_none qvl qy2 Nat.add_sub_cancel beq_self_eq_true ASlot.noPtr xr Bool.and_self Bool.and_self_left Bool.and_self_right bne_self_eq_false qyz disj xgq qvo D.ren D.renL D.renR xlx xr0 xly xgk xpd xlz xl0 ASlot.ren1 AObj.ren D.renL_noPtr D.renR_noPtr D.ren_noPtr D.inK D.inKL D.inKR D.inK_noPtr D.inKL_noPtr D.inKR_noPtr ASlot.inK ASlot.inKC AObj.inK ja List.zip_cons_cons List.zip_nil_left List.zip_nil_right qdf xan qfd qyd isNone y8 List.isEmpty_nil List.isEmpty_cons List.drop_nil Option.some_inj exists_eq_left' exists_eq_left Option.toList_some Option.toList_none
end Go.Abs
