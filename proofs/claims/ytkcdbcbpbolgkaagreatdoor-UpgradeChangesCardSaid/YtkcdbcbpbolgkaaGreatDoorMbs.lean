/- Texts Tk, Td, Te, Tl, Tm, Tn, Tp. -/
import Derived.Test.YtkcdbcbpbolgkaaGreatDoorMbr
import Derived.Calls
import Derived.Orders
import Derived.Tactics
import Derived.Laws.AppendOwn
import Derived.Laws.Slices
import Derived.Laws.Closers25
import Derived.Laws.StructEq
import Derived.Laws.BytesString
import Derived.Laws.CopyRow
import Derived.MapKept
import Derived.Maps.RangeRun
import Derived.TacticsIn
import Derived.OrdersIn
import Derived.RangeFuncRecord
import Derived.RangeFuncLeaves
import Derived.IntWalk
import Derived.ProofKit
import Derived.OpenShut
import Derived.Carry
import Derived.Test.YtkcdbcbpbolgkaaGreatDoorProg
import Derived.KernelRfl
import Derived.OwnWalkIn
import Derived.TacticsInMore
import Derived.LoopIn
import Derived.WalkKit
import Derived.Lib.Strings
import Derived.Lib.Slices
import Derived.Lib.Walk
import Derived.Lib.Bytealg
import Derived.Shelf.SlSortCmp.WholeK
import Derived.Shelf.SlSortCmp.NoneTotal
import Derived.Shelf.Spec.SlicesInsertGrow
import Derived.Shelf.Strconv.AtoiAll

namespace Go.Proofs.YtkcdbcbpbolgkaaGreatDoor
open Go.Abs Go.Shelf Go.RowKit
set_option linter.unusedSimpArgs false
set_option linter.unusedVariables false
def qwy : Go.Shelf.Ren := ⟨fun | 172 => 175 | 244 => 240 | 245 => 241 | 247 => 283 | 279 => 284 | 280 => 285 | 281 => 286 | 282 => 287 | 287 => 325 | 316 => 326 | 171 => 146 | 205 => 327 | 321 => 336 | 322 => 337 | 243 => 228 | 246 => 271 | 283 => 316 | 284 => 317 | 285 => 318 | 286 => 319 | 129 => 281 | 317 => 331 | 318 => 332 | 319 => 333 | 320 => 334 | 337 => 340 | 338 => 341 | n => n, fun | 9 => 9 | 3 => 3 | 75 => 291 | 76 => 292 | 4 => 4 | 5 => 5 | 167 => 374 | 37 => 68 | 0 => 0 | 85 => 375 | 2 => 2 | 168 => 377 | 53 => 270 | 175 => 409 | 46 => 338 | 210 => 412 | 127 => 423 | 145 => 426 | 143 => 424 | 21 => 21 | 171 => 275 | 173 => 402 | 212 => 418 | 51 => 372 | 20 => 20 | 213 => 419 | 232 => 430 | 233 => 431 | 80 => 216 | n => n, fun | 15 => 1 | 16 => 2 | 17 => 3 | 18 => 4 | 19 => 5 | n => n⟩
theorem qs3 : Go.Proofs.LaysC.n172 Tryz.prog qwy := {
 mixed := by kernel_rfl
 f129 := Tryz.func281.trans (congrArg some (by kernel_rfl))
 f171 := Tryz.func146.trans (congrArg some (by kernel_rfl))
 f172 := Tryz.func175.trans (congrArg some (by kernel_rfl))
 f205 := Tryz.func327.trans (congrArg some (by kernel_rfl))
 f243 := Tryz.func228.trans (congrArg some (by kernel_rfl))
 f244 := Tryz.func240.trans (congrArg some (by kernel_rfl))
 f245 := Tryz.func241.trans (congrArg some (by kernel_rfl))
 f246 := Tryz.func271.trans (congrArg some (by kernel_rfl))
 f247 := Tryz.func283.trans (congrArg some (by kernel_rfl))
 f279 := Tryz.func284.trans (congrArg some (by kernel_rfl))
 f280 := Tryz.func285.trans (congrArg some (by kernel_rfl))
 f281 := Tryz.func286.trans (congrArg some (by kernel_rfl))
 f282 := Tryz.func287.trans (congrArg some (by kernel_rfl))
 f283 := Tryz.func316.trans (congrArg some (by kernel_rfl))
 f284 := Tryz.func317.trans (congrArg some (by kernel_rfl))
 f285 := Tryz.func318.trans (congrArg some (by kernel_rfl))
 f286 := Tryz.func319.trans (congrArg some (by kernel_rfl))
 f287 := Tryz.func325.trans (congrArg some (by kernel_rfl))
 f316 := Tryz.func326.trans (congrArg some (by kernel_rfl))
 f317 := Tryz.func331.trans (congrArg some (by kernel_rfl))
 f318 := Tryz.func332.trans (congrArg some (by kernel_rfl))
 f319 := Tryz.func333.trans (congrArg some (by kernel_rfl))
 f320 := Tryz.func334.trans (congrArg some (by kernel_rfl))
 f321 := Tryz.func336.trans (congrArg some (by kernel_rfl))
 f322 := Tryz.func337.trans (congrArg some (by kernel_rfl))
 f337 := Tryz.func340.trans (congrArg some (by kernel_rfl))
 f338 := Tryz.func341.trans (congrArg some (by kernel_rfl))
 t0 := Tryz.underlying0
 a0 := Tryz.isAgg0
 z0 := Tryz.sizeOf0
 v0 := Tryz.zeroValue0
 t2 := Tryz.underlying2
 a2 := Tryz.isAgg2
 z2 := Tryz.sizeOf2
 v2 := Tryz.zeroValue2
 t3 := Tryz.underlying3
 a3 := Tryz.isAgg3
 z3 := Tryz.sizeOf3
 v3 := Tryz.zeroValue3
 t4 := Tryz.underlying4
 a4 := Tryz.isAgg4
 z4 := Tryz.sizeOf4
 v4 := Tryz.zeroValue4
 t5 := Tryz.underlying5
 a5 := Tryz.isAgg5
 z5 := Tryz.sizeOf5
 v5 := Tryz.zeroValue5
 t9 := Tryz.underlying9
 a9 := Tryz.isAgg9
 z9 := Tryz.sizeOf9
 v9 := Tryz.zeroValue9
 t20 := Tryz.underlying20
 a20 := Tryz.isAgg20
 z20 := Tryz.sizeOf20
 v20 := Tryz.zeroValue20
 t21 := Tryz.underlying21
 a21 := Tryz.isAgg21
 z21 := Tryz.sizeOf21
 v21 := Tryz.zeroValue21
 t37 := Tryz.underlying68
 a37 := Tryz.isAgg68
 z37 := Tryz.sizeOf68
 v37 := Tryz.zeroValue68
 t46 := Tryz.underlying338
 a46 := Tryz.isAgg338
 z46 := Tryz.sizeOf338
 v46 := Tryz.zeroValue338
 t51 := Tryz.underlying372
 a51 := Tryz.isAgg372
 z51 := Tryz.sizeOf372
 v51 := Tryz.zeroValue372
 t53 := Tryz.underlying270
 a53 := Tryz.isAgg270
 z53 := Tryz.sizeOf270
 v53 := Tryz.zeroValue270
 t75 := Tryz.underlying291
 a75 := Tryz.isAgg291
 z75 := Tryz.sizeOf291
 v75 := Tryz.zeroValue291
 t76 := Tryz.underlying292
 a76 := Tryz.isAgg292
 z76 := Tryz.sizeOf292
 v76 := Tryz.zeroValue292
 t85 := Tryz.underlying375
 a85 := Tryz.isAgg375
 z85 := Tryz.sizeOf375
 v85 := Tryz.zeroValue375
 t127 := Tryz.underlying423
 a127 := Tryz.isAgg423
 z127 := Tryz.sizeOf423
 v127 := Tryz.zeroValue423
 t143 := Tryz.underlying424
 a143 := Tryz.isAgg424
 z143 := Tryz.sizeOf424
 v143 := Tryz.zeroValue424
 t145 := Tryz.underlying426
 a145 := Tryz.isAgg426
 z145 := Tryz.sizeOf426
 v145 := Tryz.zeroValue426
 t167 := Tryz.underlying374
 a167 := Tryz.isAgg374
 z167 := Tryz.sizeOf374
 v167 := Tryz.zeroValue374
 t168 := Tryz.underlying377
 a168 := Tryz.isAgg377
 z168 := Tryz.sizeOf377
 v168 := Tryz.zeroValue377
 t171 := Tryz.underlying275
 a171 := Tryz.isAgg275
 z171 := Tryz.sizeOf275
 v171 := Tryz.zeroValue275
 t173 := Tryz.underlying402
 a173 := Tryz.isAgg402
 z173 := Tryz.sizeOf402
 v173 := Tryz.zeroValue402
 t175 := Tryz.underlying409
 a175 := Tryz.isAgg409
 z175 := Tryz.sizeOf409
 v175 := Tryz.zeroValue409
 t210 := Tryz.underlying412
 a210 := Tryz.isAgg412
 z210 := Tryz.sizeOf412
 v210 := Tryz.zeroValue412
 t212 := Tryz.underlying418
 a212 := Tryz.isAgg418
 z212 := Tryz.sizeOf418
 v212 := Tryz.zeroValue418
 t213 := Tryz.underlying419
 a213 := Tryz.isAgg419
 z213 := Tryz.sizeOf419
 t232 := Tryz.underlying430
 a232 := Tryz.isAgg430
 z232 := Tryz.sizeOf430
 v232 := Tryz.zeroValue430
 t233 := Tryz.underlying431
 a233 := Tryz.isAgg431
 z233 := Tryz.sizeOf431
 v233 := Tryz.zeroValue431
 g15 := by kernel_rfl
 g16 := by kernel_rfl
 g17 := by kernel_rfl
 g18 := by kernel_rfl
 g19 := by kernel_rfl
 t80 := Tryz.underlying216
 a80 := Tryz.isAgg216
 z80 := Tryz.sizeOf216
 v80 := Tryz.zeroValue216
 i0 := by kernel_rfl
 i2 := by kernel_rfl
 i3 := by kernel_rfl
 i4 := by kernel_rfl
 i5 := by kernel_rfl
 i9 := by kernel_rfl
 i20 := by kernel_rfl
 i21 := by kernel_rfl
 i37 := by kernel_rfl
 i46 := by kernel_rfl
 i51 := by kernel_rfl
 i53 := by kernel_rfl
 i75 := by kernel_rfl
 i76 := by kernel_rfl
 i80 := by kernel_rfl
 i85 := by kernel_rfl
 i127 := by kernel_rfl
 i143 := by kernel_rfl
 i145 := by kernel_rfl
 i167 := by kernel_rfl
 i168 := by kernel_rfl
 i171 := by kernel_rfl
 i173 := by kernel_rfl
 i175 := by kernel_rfl
 i210 := by kernel_rfl
 i212 := by kernel_rfl
 i232 := by kernel_rfl
 i233 := by kernel_rfl
 m15 := by kernel_rfl
 m16 := by kernel_rfl
 m17 := by kernel_rfl
 m18 := by kernel_rfl
 m19 := by kernel_rfl
 c0 := by kernel_rfl
 c2 := by kernel_rfl
 c3 := by kernel_rfl
 c4 := by kernel_rfl
 c5 := by kernel_rfl
 c9 := by kernel_rfl
 c20 := by kernel_rfl
 c21 := by kernel_rfl
 c37 := by kernel_rfl
 c46 := by kernel_rfl
 c51 := by kernel_rfl
 c53 := by kernel_rfl
 c75 := by kernel_rfl
 c76 := by kernel_rfl
 c80 := by kernel_rfl
 c85 := by kernel_rfl
 c127 := by kernel_rfl
 c143 := by kernel_rfl
 c145 := by kernel_rfl
 c167 := by kernel_rfl
 c168 := by kernel_rfl
 c171 := by kernel_rfl
 c173 := by kernel_rfl
 c175 := by kernel_rfl
 c210 := by kernel_rfl
 c212 := by kernel_rfl
 c213 := by kernel_rfl
 c232 := by kernel_rfl
 c233 := by kernel_rfl }
theorem qzo {P : Program} {f : FuncId} {args : List ASlot} {r : ASlot} (hr : r.toks = [])
  (h : ∀ (g : Ghost) (w : World) (vs : List Value), GlobOk g w → vs.length = args.length → (∀ (i : Nat) (v : Value) (s : ASlot), vs[i]? = some v → args[i]? = some s → RC g w (ve args) v s) →
   Calls P f vs.toArray w fun e w' => ∃ v, e = .returned v ∧ Below w.heap.size w w' ∧ ∀ g', RS g' w' [] v r) : qg P f args [] r [] := by
 intro g w vs hd hl hv ho
 refine (h g w vs hd.2 hl hv).mono ?_
 rintro e w' ⟨v, rfl, hb, hrs⟩
 have hG : G g w g w' := by
  refine ⟨hb.os, hb.tape, hb.output, hb.size, fun b hl hg => ⟨hb.block b hl, hg⟩, fun b n hl hg => ⟨hb.block b hl, hg⟩, fun b n t hl hg => ⟨n, some t, hg, Nat.le_refl _, fun i u _ hu => by rw [jb (hb.block b hl)]; exact hu⟩, fun b id hl hg => ⟨hg, Nat.le_of_eq (zc (hb.block b hl)).symm⟩⟩
 refine ⟨v, g, [], rfl, hG, hd.of hG fun b hb' => hd.1 b (Nat.le_trans hb.size hb'), by rw [hr]; simp, hrs g, fun id o h => by simp at h, ho.inj, fun b id h => ?_⟩
 obtain ⟨o, h1, _⟩ := ho.ids b id h
 simp at h1
def xdj (s : List UInt8) : Int := match Lib.atoiAll s with
 | .ok v => v
 | .range => Lib.atoiSat s
 | _ => 0
def qzp (s : List UInt8) : D := match Lib.atoiAll s with
 | .ok _ => .niliface
 | _ => .iface 377 .any
theorem q88 (s : List UInt8) (hs : s.length ≤ 1000000) : qg Tryz.prog 175 [.d (.str s)] [] (.tup [.d (.int .i64 (xdj s)), .d (qzp s)]) [] := by
 refine qzo rfl fun g w vs hg hl hv => ?_
 match vs, hl with
 | [v], _ =>
 have h0 := hv 0 v _ rfl rfl
 have h0' : RV g w v (.str s) := h0
 cases h0'
 have hsz : (ByteArray.mk s.toArray).size ≤ 281474976710656 := by
  have : (ByteArray.mk s.toArray).size = s.length := by simp [ByteArray.size]
  omega
 have hvar : ∀ k, k = 1 ∨ k = 2 → ∃ ev, w.cell? ⟨k, 0, none⟩ = some ev ∧ (ev = .nilIface ∨ ∃ te pe, ev = .iface te pe) := by
  intro k hk
  obtain ⟨_, u, _, h2, h3⟩ := hg k (by rcases hk with rfl | rfl <;> simp [q1t])
  refine ⟨u, h2, ?_⟩
  cases u <;> first | (exact .inl rfl) | (exact .inr ⟨_, _, rfl⟩) | cases h3
 unfold xdj qzp
 cases h : Lib.atoiAll s with
 | ok n =>
  refine (Any.strconv_Atoi_ok qs3 ⟨s.toArray⟩ (by omega) n h w).mono ?_
  rintro e w' ⟨rfl, hw⟩
  refine ⟨_, rfl, ?_, fun g' => ⟨[.int .i64 n, .nilIface], rfl, rfl, fun i u t hu ht => ?_⟩⟩
  ·rcases hw with rfl | ⟨t, rfl⟩
   ·exact Below.refl _ _
   ·exact Lib.bytesWorld_below _ _ _
  ·rcases i with _ | _ | i <;> simp at hu ht
   ·subst hu ht; exact RV.int _ _
   ·subst hu ht; exact RV.niliface
 | range =>
  obtain ⟨ev, e1, e2⟩ := hvar 2 (.inr rfl)
  refine (Any.strconv_Atoi_range qs3 ⟨s.toArray⟩ hsz h ev w e1 e2).mono ?_
  rintro e w' ⟨N, rfl, _, _, hw⟩
  refine ⟨_, rfl, hw, fun g' => ⟨[.int .i64 (Lib.atoiSat s), .iface 377 (.pointer (some ⟨N, 0, none⟩))], rfl, rfl, fun i u t hu ht => ?_⟩⟩
  rcases i with _ | _ | i <;> simp at hu ht
  ·subst hu ht; exact RV.int _ _
  ·subst hu ht; exact RV.iface _ _ _ (.any _ rfl)
 | _ =>
  obtain ⟨ev, e1, e2⟩ := hvar 1 (.inl rfl)
  refine (Any.strconv_Atoi_syntax qs3 ⟨s.toArray⟩ hsz h ev w e1 e2).mono ?_
  rintro e w' ⟨N, rfl, _, _, hw⟩
  refine ⟨_, rfl, hw, fun g' => ⟨[.int .i64 0, .iface 377 (.pointer (some ⟨N, 0, none⟩))], rfl, rfl, fun i u t hu ht => ?_⟩⟩
  rcases i with _ | _ | i <;> simp at hu ht
  ·subst hu ht; exact RV.int _ _
  ·subst hu ht; exact RV.iface _ _ _ (.any _ rfl)
theorem xdk : ∀ n : Fin 33, Lib.atoiAll ((uKey (n.val : Int)).drop 2) = .ok (n.val : Int) := by decide +kernel
end Go.Proofs.YtkcdbcbpbolgkaaGreatDoor
namespace Go.Proofs.YtkcdbcbpbolgkaaGreatDoor
open Go.Abs
set_option linter.unusedSimpArgs false
set_option linter.unusedVariables false
noncomputable section
set_option maxRecDepth 100000
set_option linter.defProp false
def d242 := cut Tryz.prog Tryz.f242 news
@[go_sem] def E242 := qm d242
def F242 := fnC d242 follows Tryz.func242
def d176 := cut Tryz.prog Tryz.f176 news
@[go_sem] def E176 := qm d176
def F176 := fnC d176 follows Tryz.func176
def d175 := cut Tryz.prog Tryz.f175 news
@[go_sem] def E175 := qm d175
def F175 := fnC d175 follows Tryz.func175
def d93m := cut Tryz.prog Tryz.f93 news [46, 1000046, 1000048] [18]
@[go_sem] def E93m := qm d93m
def F93m := fnC d93m follows Tryz.func93
end
theorem q1r (k p : List UInt8) (h : pre p k = true) : qg Tryz.prog 242 [.d (.str k), .d (.str p)] [] (.d (.str (k.drop p.length))) [] := by
 have hl : p.length ≤ k.length := by simp [pre] at h; exact h.1
 have ht : (k.drop p.length).take (k.length - p.length) = k.drop p.length := List.take_of_length_le (by simp)
 have kp := qea k p
 rw [h] at kp
 refine F242.go ?_
 try (refine ev ?_; try exact True.intro)
 (repeat (with_reducible refine ob ?_)); first | refine cl F236 (kp) ?_ | refine clF F236 (kp) (fun _ => by (refine ev3 @qf.eq_1 @qj.eq_1 @qh.eq_1 ?_; try exact True.intro)) ?_
 try (refine ev ?_; try exact True.intro)
 (repeat (with_reducible refine ob ?_)); refine qde ?_
 try (refine ev2 @Int.toNat_natCast @ht ?_; try exact True.intro)
 omega
theorem q89 (k p : List UInt8) (h : pre p k = true) : qg Tryz.prog 176 [.d (.str k), .d (.str p)] [] (.d (.str (k.drop p.length))) [] := by
 refine F176.go ?_
 try (refine ev ?_; try exact True.intro)
 (repeat (with_reducible refine ob ?_)); first | refine cl F242 (q1r k p h) ?_ | refine clF F242 (q1r k p h) (fun _ => by (refine ev3 @qf.eq_1 @qj.eq_1 @qh.eq_1 ?_; try exact True.intro)) ?_
 try (refine ev ?_; try exact True.intro)
def mark (n N j : Nat) : List Bool := (jg n N).take j ++ List.replicate (n - j) false
def mkO (l : List Bool) : AObj := .row (l.map fun b => .d (.bool b))
theorem qof (n N : Nat) : mark n N 0 = List.replicate n false := by simp [mark]
theorem qs4 (n N : Nat) : mark n N n = jg n N := by simp [mark, List.take_of_length_le (Nat.le_of_eq (zx n N))]
theorem qs5 {n N j : Nat} (hj : j ≤ n) : (mark n N j).length = n := by
 rw [mark, List.length_append, List.length_take, zx, List.length_replicate]; omega
theorem qs6 {n N j : Nat} (hj : j < n) : (mark n N j).set j (N / 2 ^ j % 2 == 1) = mark n N (j + 1) := by
 have hl : ((jg n N).take j).length = j := by rw [List.length_take, zx]; omega
 have hr : List.replicate (n - j) false = false :: List.replicate (n - (j + 1)) false := by
  rw [show n - j = (n - (j + 1)) + 1 by omega, List.replicate_succ]
 have hb : (jg n N)[j]'(by rw [zx]; exact hj) = (N / 2 ^ j % 2 == 1) := by
  have := qqs n N j hj
  rw [List.getD_eq_getElem?_getD, List.getElem?_eq_getElem (by rw [zx]; exact hj)] at this
  exact this
 rw [mark, mark, hr, List.set_append_right _ _ (by omega), hl, Nat.sub_self, List.set_cons_zero, ← List.take_append_getElem (show j < (jg n N).length by rw [zx]; exact hj), hb, List.append_assoc]
 rfl
theorem xej {N : Int} (h0 : 0 ≤ N) (h1 : N ≤ 1000000) (j : Nat) (hj : j ≤ 60) : (IntKind.i64.wrap (qqz 64 (N.fdiv (2 ^ (min j 64))) 1) == 1) = (N.toNat / 2 ^ j % 2 == 1) := by
 obtain ⟨n, rfl⟩ : ∃ n : Nat, N = n := ⟨N.toNat, by omega⟩
 have e1 : min j 64 = j := by omega
 have e2 : ((n : Int)).fdiv (2 ^ j) = ((n / 2 ^ j : Nat) : Int) := by
  rw [Int.fdiv_eq_ediv_of_nonneg _ (by exact Int.le_of_lt (Int.pow_pos (by decide)))]
  simp
 have hle : n / 2 ^ j ≤ n := Nat.div_le_self _ _
 rw [e1, e2, Int.toNat_natCast]
 generalize n / 2 ^ j = q at hle
 have hq : q < 2 ^ 64 := Nat.lt_of_le_of_lt hle (by omega)
 have e3 := qnp 64 q 1 hq (by decide)
 rw [Nat.and_one_is_mod] at e3
 rw [show qqz 64 (q : Int) 1 = ((q % 2 : Nat) : Int) from e3, xi (by unfold I64; omega), Bool.eq_iff_iff]
 simp only [beq_iff_eq]
 omega
theorem qqx (hi : Nat) (r : Rd) : 0 ≤ (qx 0 (hi : Nat) r).1 ∧ (qx 0 (hi : Nat) r).1 ≤ hi := by
 unfold qx qcy
 split
 ·simp
 ·split
  ·simp
  ·rename_i h
   exact qej (by simpa using h)
def ld1 (v : List UInt8) : Int × Rd := yy ⟨v, 0, false⟩
def ld2 (r : Int) (v : List UInt8) : Int × Rd := qx 0 (ldN r) (ld1 v).2
def ld3 (r : Int) (v : List UInt8) : Int × Rd := qx 0 (ldN r) (ld2 r v).2
theorem xgj (r : Int) (v : List UInt8) : ldRd r v = (((ld1 v).1, (ld2 r v).1, (ld3 r v).1), (ld3 r v).2) := rfl
def ldR (r : Int) (v : List UInt8) : Nat → Rd
 | 0 => (ld1 v).2
 | 1 => (ld2 r v).2
 | _ => (ld3 r v).2
def ldM (n : Nat) (v : List UInt8) : Nat → List Bool
 | 0 => List.replicate n false
 | _ => jg n (ld2 n v).1.toNat
def ldP (n : Nat) (v : List UInt8) : Nat → List Bool
 | 0 => List.replicate n false
 | 1 => List.replicate n false
 | _ => jg n (ld3 n v).1.toNat
theorem xk4 (r : Int) (v : List UInt8) : ldR r v 0 = (ld1 v).2 := rfl
theorem xk5 (r : Int) (v : List UInt8) : ldR r v 1 = (ld2 r v).2 := rfl
theorem xk6 (r : Int) (v : List UInt8) : ldR r v 2 = (ld3 r v).2 := rfl
theorem xk7 (n : Nat) (v : List UInt8) : ldM n v 0 = List.replicate n false := rfl
theorem xk8 (n : Nat) (v : List UInt8) : ldM n v 1 = jg n (ld2 n v).1.toNat := rfl
theorem xk9 (n : Nat) (v : List UInt8) : ldM n v 2 = jg n (ld2 n v).1.toNat := rfl
theorem xla (n : Nat) (v : List UInt8) : ldP n v 0 = List.replicate n false := rfl
theorem xlb (n : Nat) (v : List UInt8) : ldP n v 1 = List.replicate n false := rfl
theorem xlc (n : Nat) (v : List UInt8) : ldP n v 2 = jg n (ld3 n v).1.toNat := rfl
attribute [go_sem] xk4 xk5 xk6 xk7 xk8 xk9 xla xlb xlc
def SldO (k v : List UInt8) (s n : Nat) (rd : Rd) (m o : List Bool) (fr : Fr) : St :=
 ⟨(1, true, .d (.int .i64 n)) :: (4, true, .d (.ptr 1 0)) :: (8, true, .d (.ptr 2 0)) :: (9, true, .d (.ptr 5 0)) :: (54, true, .d (.sl 1 [[.ref 3 0 1 n], [.ref 4 0 1 n]])) :: (55, true, .d (.int .i64 2)) :: fr,
  [.row [.d (.str k), .d (.sl 1 (qa v))], .row [.d (.int .i64 0), .d (.int .i64 0), .d .nilsl, .d .nilsl], rdO rd, mkO m, mkO o, .row [.d (.int .i64 s), .d (.int .i64 (ld1 v).1), .d (.ref 3 0 1 n), .d (.ref 4 0 1 n)]], [], 1⟩
def SldA (k v : List UInt8) (s n : Nat) (i : { i : Nat // i ≤ 2 }) : St := SldO k v s n (ldR n v i.val) (ldM n v i.val) (ldP n v i.val) [(56, true, .d (.int .i64 (i.val : Nat)))]
def SldB (k v : List UInt8) (s n : Nat) (j : { j : Nat // j ≤ n }) : St := SldO k v s n (ld2 n v).2 (mark n (ld2 n v).1.toNat j.val) (List.replicate n false)
 [(56, true, .d (.int .i64 0)), (11, true, .d (.ref 3 0 1 n)), (12, true, .d (.int .i64 (ld2 n v).1)), (66, true, .d (.int .i64 n)), (67, true, .d (.int .i64 (j.val : Nat)))]
def SldC (k v : List UInt8) (s n : Nat) (j : { j : Nat // j ≤ n }) : St := SldO k v s n (ld3 n v).2 (jg n (ld2 n v).1.toNat) (mark n (ld3 n v).1.toNat j.val)
 [(56, true, .d (.int .i64 1)), (11, true, .d (.ref 4 0 1 n)), (12, true, .d (.int .i64 (ld3 n v).1)), (66, true, .d (.int .i64 n)), (67, true, .d (.int .i64 (j.val : Nat)))]
set_option maxRecDepth 10000 in
theorem xdl (s : Nat) (hs : s ≤ 32) (v : List UInt8) (hv : v.length ≤ 1000000000) (n : Nat) (h1 : 1 ≤ n) (h6 : n ≤ 6) :
  qg Tryz.prog 93 [.d (.agg [.str (uKey (s : Nat)), .sl 1 (qa v)]), .d (.int .i64 (n : Nat))] [] (.tup [.d (.agg (qf (qwt (n : Nat) (s : Nat) (ldRd (n : Nat) v).1))), .d (.bool (rEnd (ldRd (n : Nat) v).2 == 0))]) [] := by
 have hr0 : (⟨v, 0, false⟩ : Rd).Ok := ⟨hv, Nat.zero_le _⟩
 have kt := q89 (uKey (s : Nat)) [117, 47] rfl
 have ka := q88 ((uKey (s : Nat)).drop 2) (by simp [uKey])
 have kd := xdk ⟨s, by omega⟩
 simp only [xdj, qzp, kd] at ka
 have kk := qhg (s : Nat) (by omega) (by omega)
 have kn := q02 v hv
 have r1 := (qip hr0).1
 have i1 := xcp ⟨v, 0, false⟩ hr0
 change qg _ _ _ _ (.d (.int .i64 (ld1 v).1)) [rdO (ld1 v).2] at i1
 change (ld1 v).2.Ok at r1
 have i2 := qfn (ld1 v).2 0 (ldN (n : Nat)) r1
 change qg _ _ _ _ (.d (.int .i64 (ld2 (n : Nat) v).1)) [rdO (ld2 (n : Nat) v).2] at i2
 have r2 := (qb4 r1 0 (ldN (n : Nat))).1
 change (ld2 (n : Nat) v).2.Ok at r2
 have i3 := qfn (ld2 (n : Nat) v).2 0 (ldN (n : Nat)) r2
 change qg _ _ _ _ (.d (.int .i64 (ld3 (n : Nat) v).1)) [rdO (ld3 (n : Nat) v).2] at i3
 have r3 := (qb4 r2 0 (ldN (n : Nat))).1
 change (ld3 (n : Nat) v).2.Ok at r3
 have i4 := q7n (ld3 (n : Nat) v).2 r3
 simp only [rdO] at kn i1 i2 i3 i4
 have c1 : decide (((s : Nat) : Int) < 0) = false := by simp
 have c2 : decide (((s : Nat) : Int) > 32) = false := by simp; omega
 rw [xgj]
 refine F93m.goT ?_
 try (refine ev ?_; try exact True.intro)
 (repeat (with_reducible refine ob ?_)); first | refine cl F176 (kt) ?_ | refine clF F176 (kt) (fun _ => by (refine ev3 @qf.eq_1 @qj.eq_1 @qh.eq_1 ?_; try exact True.intro)) ?_
 try simp only [List.length_cons, List.length_nil, go_sem, Nat.reduceAdd, Nat.reduceMul, Nat.reduceSub, Nat.reduceEqDiff, Nat.reduceLT, Nat.reduceLeDiff, Nat.reduceBEq, reduceIte, reduceCtorEq, Int.reduceAdd, Int.reduceLT, Int.reduceLE, Int.reduceGT, Int.reduceGE, Int.reduceEq, Int.reduceNe, Int.reduceBEq, Int.reduceBNe, Int.reduceToNat, Int.reduceNeg]
 (repeat (with_reducible refine ob ?_)); first | refine cl F175 (ka) ?_ | refine clF F175 (ka) (fun _ => by (refine ev3 @qf.eq_1 @qj.eq_1 @qh.eq_1 ?_; try exact True.intro)) ?_
 try (refine ev2 @c1 @c2 ?_; try exact True.intro)
 (repeat (with_reducible refine ob ?_)); first | refine cl F79 (kk) ?_ | refine clF F79 (kk) (fun _ => by (refine ev3 @qf.eq_1 @qj.eq_1 @qh.eq_1 ?_; try exact True.intro)) ?_
 try (refine ev1 @beq_self_eq_true.{0} ?_; try exact True.intro)
 (repeat (with_reducible refine ob ?_))
 (repeat (with_reducible refine ob ?_)); refine no_ ?_
 try (refine ev ?_; try exact True.intro)
 refine clO [2] F177 kn ?_
 try (refine ev ?_; try exact True.intro)
 (repeat (with_reducible refine ob ?_)); refine clO [2] F178 (i1) ?_ (hfit := by first | exact ⟨qc, trivial⟩ | exact ⟨qc, qc, trivial⟩ | (refine ev3 @qf.eq_1 @qj.eq_1 @qh.eq_1 ?_; try exact True.intro))
 try (refine ev ?_; try exact True.intro)
 have nn : ((n : Nat) : Int) ≤ 1000000000 ∧ (n : Int) * 1 ≤ 281474976710656 := by omega
 refine ⟨⟨by omega, by omega, by omega, by omega⟩, ⟨by omega, by omega, by omega, by omega⟩, ?_⟩
 have flr : List.replicate n [D.bool false] = (List.replicate n false).map encB := by rw [List.map_replicate]; rfl
 have hN : ldN (n : Nat) ≤ 63 ∧ 0 ≤ ldN (n : Nat) := by
  have := xj8 (r := (n : Nat)) (by omega) (by omega)
  rw [qob]; rw [Int.toNat_natCast] at this ⊢; omega
 have cN : IntKind.i64.wrap (IntKind.i64.wrap (1 * 2 ^ (min n 64)) - 1) = ldN (n : Nat) := by
  have e1 : min n 64 = n := by omega
  have e2 : ldN (n : Nat) = 2 ^ n - 1 := rfl
  rw [e1, xi (n := 1 * 2 ^ n) (by rw [e2] at hN; unfold I64; omega), xi (by rw [e2] at hN; unfold I64; omega), e2]; omega
 have b2 : 0 ≤ (ld2 (n : Nat) v).1 ∧ (ld2 (n : Nat) v).1 ≤ 63 := by
  have := qqx (2 ^ (n : Int).toNat - 1) (ld1 v).2
  rw [← qob] at this
  exact ⟨this.1, Int.le_trans this.2 hN.1⟩
 have b3 : 0 ≤ (ld3 (n : Nat) v).1 ∧ (ld3 (n : Nat) v).1 ≤ 63 := by
  have := qqx (2 ^ (n : Int).toNat - 1) (ld2 (n : Nat) v).2
  rw [← qob] at this
  exact ⟨this.1, Int.le_trans this.2 hN.1⟩
 refine qk (SldA (uKey (s : Nat)) v s n) (fun i => 2 - i.val) ⟨0, by omega⟩ ?_ (fun i => ?_)
 ·try (refine ev6 @SldA.eq_1 @SldO.eq_1 @rdO.eq_1 @mkO.eq_1 @flr @Int.ofNat_zero ?_; try exact True.intro)
 obtain ⟨i, hi⟩ := i
 obtain rfl | rfl | rfl : i = 0 ∨ i = 1 ∨ i = 2 := by omega
 ·try (refine ev5 @SldA.eq_1 @SldO.eq_1 @rdO.eq_1 @mkO.eq_1 @Int.ofNat_zero ?_; try exact True.intro)
  (repeat (with_reducible refine ob ?_)); refine qde ?_
  try (refine ev ?_; try exact True.intro)
  try (refine ev1 @cN ?_; try exact True.intro)
  (repeat (with_reducible refine ob ?_)); refine clO [2] F179 (i2) ?_ (hfit := by first | exact ⟨qc, trivial⟩ | exact ⟨qc, qc, trivial⟩ | (refine ev3 @qf.eq_1 @qj.eq_1 @qh.eq_1 ?_; try exact True.intro))
  try (refine ev ?_; try exact True.intro)
  refine qk (SldB (uKey (s : Nat)) v s n) (fun j => n - j.val) ⟨0, Nat.zero_le _⟩ ?_ (fun j => ?_)
  ·try (refine ev6 @SldB.eq_1 @SldO.eq_1 @rdO.eq_1 @mkO.eq_1 @qof @Int.ofNat_zero ?_; try exact True.intro)
  obtain ⟨j, hj⟩ := j
  try (refine ev4 @SldB.eq_1 @SldO.eq_1 @rdO.eq_1 @mkO.eq_1 ?_; try exact True.intro)
  (repeat (with_reducible refine ob ?_)); refine xk _ (fun h => ?_) (fun h => ?_)
  ·have hjn : j < n := by simpa using h
   have hb := xej b2.1 (Int.le_trans b2.2 (by omega)) j (by omega)
   have hw := qd (show j < 9223372036854775807 by omega)
   have hm := qs6 (N := (ld2 (n : Nat) v |>.1).toNat) hjn
   have hml := qs5 (n := n) (N := (ld2 (n : Nat) v |>.1).toNat) hj
   try simp only [Int.toNat_natCast, hb, Nat.mul_one, Nat.zero_add, qiy, hm, hml, List.length_map, List.length_replicate, zx, go_sem, Nat.reduceAdd, Nat.reduceMul, Nat.reduceSub, Nat.reduceEqDiff, Nat.reduceLT, Nat.reduceLeDiff, Nat.reduceBEq, reduceIte, reduceCtorEq, Int.reduceAdd, Int.reduceLT, Int.reduceLE, Int.reduceGT, Int.reduceGE, Int.reduceEq, Int.reduceNe, Int.reduceBEq, Int.reduceBNe, Int.reduceToNat, Int.reduceNeg]
   (repeat (with_reducible refine ob ?_))
   refine ⟨⟨j + 1, hjn⟩, ?_, by dsimp only; omega⟩
   try (refine ev5 @SldB.eq_1 @SldO.eq_1 @rdO.eq_1 @mkO.eq_1 @hw ?_; try exact True.intro)
  ·have hjn : j = n := by simp at h; omega
   subst hjn
   try (refine ev ?_; try exact True.intro)
   refine ⟨⟨1, by omega⟩, ?_, by dsimp only; omega⟩
   try (refine ev6 @SldA.eq_1 @SldO.eq_1 @rdO.eq_1 @mkO.eq_1 @qs4 (show IntKind.i64.wrap 1 = 1 by decide) ?_; try exact True.intro)
 ·try (refine ev4 @SldA.eq_1 @SldO.eq_1 @rdO.eq_1 @mkO.eq_1 ?_; try exact True.intro)
  (repeat (with_reducible refine ob ?_)); refine qde ?_
  try (refine ev ?_; try exact True.intro)
  try (refine ev1 @cN ?_; try exact True.intro)
  (repeat (with_reducible refine ob ?_)); refine clO [2] F179 (i3) ?_ (hfit := by first | exact ⟨qc, trivial⟩ | exact ⟨qc, qc, trivial⟩ | (refine ev3 @qf.eq_1 @qj.eq_1 @qh.eq_1 ?_; try exact True.intro))
  try (refine ev ?_; try exact True.intro)
  refine qk (SldC (uKey (s : Nat)) v s n) (fun j => n - j.val) ⟨0, Nat.zero_le _⟩ ?_ (fun j => ?_)
  ·try (refine ev6 @SldC.eq_1 @SldO.eq_1 @rdO.eq_1 @mkO.eq_1 @qof @Int.ofNat_zero ?_; try exact True.intro)
  obtain ⟨j, hj⟩ := j
  try (refine ev4 @SldC.eq_1 @SldO.eq_1 @rdO.eq_1 @mkO.eq_1 ?_; try exact True.intro)
  (repeat (with_reducible refine ob ?_)); refine xk _ (fun h => ?_) (fun h => ?_)
  ·have hjn : j < n := by simpa using h
   have hb := xej b3.1 (Int.le_trans b3.2 (by omega)) j (by omega)
   have hw := qd (show j < 9223372036854775807 by omega)
   have hm := qs6 (N := (ld3 (n : Nat) v |>.1).toNat) hjn
   have hml := qs5 (n := n) (N := (ld3 (n : Nat) v |>.1).toNat) hj
   try simp only [Int.toNat_natCast, hb, Nat.mul_one, Nat.zero_add, qiy, hm, hml, List.length_map, List.length_replicate, zx, go_sem, Nat.reduceAdd, Nat.reduceMul, Nat.reduceSub, Nat.reduceEqDiff, Nat.reduceLT, Nat.reduceLeDiff, Nat.reduceBEq, reduceIte, reduceCtorEq, Int.reduceAdd, Int.reduceLT, Int.reduceLE, Int.reduceGT, Int.reduceGE, Int.reduceEq, Int.reduceNe, Int.reduceBEq, Int.reduceBNe, Int.reduceToNat, Int.reduceNeg]
   (repeat (with_reducible refine ob ?_))
   refine ⟨⟨j + 1, hjn⟩, ?_, by dsimp only; omega⟩
   try (refine ev5 @SldC.eq_1 @SldO.eq_1 @rdO.eq_1 @mkO.eq_1 @hw ?_; try exact True.intro)
  ·have hjn : j = n := by simp at h; omega
   subst hjn
   try (refine ev ?_; try exact True.intro)
   refine ⟨⟨2, by omega⟩, ?_, by dsimp only; omega⟩
   try (refine ev6 @SldA.eq_1 @SldO.eq_1 @rdO.eq_1 @mkO.eq_1 @qs4 (show IntKind.i64.wrap 2 = 2 by decide) ?_; try exact True.intro)
 ·try (refine ev4 @SldA.eq_1 @SldO.eq_1 @rdO.eq_1 @mkO.eq_1 ?_; try exact True.intro)
  (repeat (with_reducible refine ob ?_)); refine no_ ?_
  try (refine ev ?_; try exact True.intro)
  have hA : (jg n (ld2 n v).1.toNat).length = n := zx _ _
  have hB : (jg n (ld3 n v).1.toNat).length = n := zx _ _
  have hr : qf (qwt n s ((ld1 v).1, (ld2 n v).1, (ld3 n v).1)) = [.int .i64 s, .int .i64 (ld1 v).1, .sl 1 ((jg n (ld2 n v).1.toNat).map encB), .sl 1 ((jg n (ld3 n v).1.toNat).map encB)] := rfl
  rw [hr]
  generalize jg n (ld2 n v).1.toNat = A at hA ⊢
  generalize jg n (ld3 n v).1.toNat = B at hB ⊢
  refine qfb 3 1 (A.map encB) ?_ (qa9 _) (qen _) (qeo _) (D.okWR_noPtr (wk _))
  simp only [qkl, Fr.mapS, List.map_cons, List.map_nil, AObj.mapS, qlq, List.set_cons_zero, List.set_cons_succ]
  try simp only [List.length_map, hA, qk0 _ _ _ _ _ (zr _), go_sem, Nat.reduceAdd, Nat.reduceMul, Nat.reduceSub, Nat.reduceEqDiff, Nat.reduceLT, Nat.reduceLeDiff, Nat.reduceBEq, reduceIte, reduceCtorEq, Int.reduceAdd, Int.reduceLT, Int.reduceLE, Int.reduceGT, Int.reduceGE, Int.reduceEq, Int.reduceNe, Int.reduceBEq, Int.reduceBNe, Int.reduceToNat, Int.reduceNeg]
  refine qfb 4 1 (B.map encB) ?_ (qa9 _) (qen _) (qeo _) (D.okWR_noPtr (wk _))
  simp only [qkl, Fr.mapS, List.map_cons, List.map_nil, AObj.mapS, List.set_cons_zero, List.set_cons_succ, qk0 _ _ _ _ _ (wk _)]
  try simp only [List.length_map, hB, qk0 _ _ _ _ _ (zr _), qk0 _ _ _ _ _ (wk _), go_sem, Nat.reduceAdd, Nat.reduceMul, Nat.reduceSub, Nat.reduceEqDiff, Nat.reduceLT, Nat.reduceLeDiff, Nat.reduceBEq, reduceIte, reduceCtorEq, Int.reduceAdd, Int.reduceLT, Int.reduceLE, Int.reduceGT, Int.reduceGE, Int.reduceEq, Int.reduceNe, Int.reduceBEq, Int.reduceBNe, Int.reduceToNat, Int.reduceNeg]
  refine pu ?_
  try (refine ev ?_; try exact True.intro)
  (repeat (with_reducible refine ob ?_)); refine clO [2] F180 (i4) ?_ (hfit := by first | exact ⟨qc, trivial⟩ | exact ⟨qc, qc, trivial⟩ | (refine ev3 @qf.eq_1 @qj.eq_1 @qh.eq_1 ?_; try exact True.intro))
  try (refine ev ?_; try exact True.intro)
  (repeat (with_reducible refine ob ?_))
  try (refine ev ?_; try exact True.intro)
def qs7 (n : Int) (k v : List UInt8) : Ue × Bool := match qay k with
 | some s => (qwt n (s : Nat) (ldRd n v).1, rEnd (ldRd n v).2 == 0)
 | none => (⟨0, 0, [], []⟩, false)
set_option maxRecDepth 10000 in
theorem q9a (k : List UInt8) (hk : pre uPfx k = true) (hkl : k.length ≤ 1000) (v : List UInt8) (hv : v.length ≤ 1000000000) (n : Nat) (h1 : 1 ≤ n) (h6 : n ≤ 6) :
  qg Tryz.prog 93 [.d (.agg [.str k, .sl 1 (qa v)]), .d (.int .i64 (n : Nat))] [] (.tup [.d (.agg (qf (qs7 (n : Nat) k v).1)), .d (.bool (qs7 (n : Nat) k v).2)]) [] := by
 unfold qs7
 cases hs : qay k with
 | some s =>
  obtain ⟨q1, rfl⟩ := qhf hs
  exact xdl s q1 v hv n h1 h6
 | none =>
  have kt := q89 k [117, 47] hk
  have ka := q88 (k.drop 2) (by rw [List.length_drop]; omega)
  have hne : ∀ s : Int, 0 ≤ s → s ≤ 32 → (uKey s == k) = false := by
   intro s h0 h32
   rw [qay, List.find?_eq_none] at hs
   have := hs s.toNat (by simp; omega)
   rw [show ((s.toNat : Nat) : Int) = s by omega] at this
   simpa using this
  have he : qzp (k.drop 2) = .niliface ∨ ∃ t, qzp (k.drop 2) = .iface t .any := by
   unfold qzp
   cases Lib.atoiAll (k.drop 2) with
   | ok v => exact .inl rfl
   | _ => exact .inr ⟨_, rfl⟩
  generalize xdj (k.drop 2) = a at ka
  generalize qzp (k.drop 2) = e at ka he
  refine F93m.goT ?_
  try (refine ev ?_; try exact True.intro)
  (repeat (with_reducible refine ob ?_)); first | refine cl F176 (kt) ?_ | refine clF F176 (kt) (fun _ => by (refine ev3 @qf.eq_1 @qj.eq_1 @qh.eq_1 ?_; try exact True.intro)) ?_
  try simp only [List.length_cons, List.length_nil, go_sem, Nat.reduceAdd, Nat.reduceMul, Nat.reduceSub, Nat.reduceEqDiff, Nat.reduceLT, Nat.reduceLeDiff, Nat.reduceBEq, reduceIte, reduceCtorEq, Int.reduceAdd, Int.reduceLT, Int.reduceLE, Int.reduceGT, Int.reduceGE, Int.reduceEq, Int.reduceNe, Int.reduceBEq, Int.reduceBNe, Int.reduceToNat, Int.reduceNeg]
  rcases he with rfl | ⟨t, rfl⟩
  ·(repeat (with_reducible refine ob ?_)); first | refine cl F175 (ka) ?_ | refine clF F175 (ka) (fun _ => by (refine ev3 @qf.eq_1 @qj.eq_1 @qh.eq_1 ?_; try exact True.intro)) ?_
   by_cases c1 : a < 0
   ·try (refine ev1 (decide_eq_true c1) ?_; try exact True.intro)
    refine qao (.str []) rfl ?_
    try (refine ev ?_; try exact True.intro)
    (repeat (with_reducible refine ob ?_)); refine qde ?_
    try (refine ev2 @qf.eq_1 @List.map_nil.{0,0} ?_; try exact True.intro)
   by_cases c2 : a > 32
   ·try (refine ev2 (decide_eq_false c1) (decide_eq_true c2) ?_; try exact True.intro)
    refine qao (.str []) rfl ?_
    try (refine ev ?_; try exact True.intro)
    (repeat (with_reducible refine ob ?_)); refine qde ?_
    try (refine ev2 @qf.eq_1 @List.map_nil.{0,0} ?_; try exact True.intro)
   ·try (refine ev2 (decide_eq_false c1) (decide_eq_false c2) ?_; try exact True.intro)
    (repeat (with_reducible refine ob ?_)); first | refine cl F79 (qhg a (by omega) (by omega)) ?_ | refine clF F79 (qhg a (by omega) (by omega)) (fun _ => by (refine ev3 @qf.eq_1 @qj.eq_1 @qh.eq_1 ?_; try exact True.intro)) ?_
    try (refine ev1 (hne a (by omega) (by omega)) ?_; try exact True.intro)
    (repeat (with_reducible refine ob ?_)); refine qde ?_
    try (refine ev2 @qf.eq_1 @List.map_nil.{0,0} ?_; try exact True.intro)
  ·(repeat (with_reducible refine ob ?_)); first | refine cl F175 (ka) ?_ | refine clF F175 (ka) (fun _ => by (refine ev3 @qf.eq_1 @qj.eq_1 @qh.eq_1 ?_; try exact True.intro)) ?_
   try (refine ev ?_; try exact True.intro)
   refine qao (.str []) rfl ?_
   try (refine ev ?_; try exact True.intro)
   (repeat (with_reducible refine ob ?_)); refine qde ?_
   try (refine ev2 @qf.eq_1 @List.map_nil.{0,0} ?_; try exact True.intro)
end Go.Proofs.YtkcdbcbpbolgkaaGreatDoor
namespace Go.Proofs.YtkcdbcbpbolgkaaGreatDoor
open Go.Abs
set_option linter.unusedSimpArgs false
set_option linter.unusedVariables false
noncomputable section
set_option maxRecDepth 100000
set_option linter.defProp false
def d32 := cut Tryz.prog Tryz.f32 news
@[go_sem] def E32 := qm d32
def F32 := fnC d32 follows Tryz.func32
end
theorem qs8 {m : Cont} {p : List UInt8} {e : En} (h : e ∈ yi m p) : pre p e.1 = true ∧ ∃ x ∈ m.l, enOf x = e := by
 rw [yi, (jt _).mem_iff, preL, List.mem_map] at h
 obtain ⟨y, hy, rfl⟩ := h
 obtain ⟨h1, h2⟩ := List.mem_filter.1 hy
 exact ⟨h2, y, h1, rfl⟩
def SuLd (s : Sto) (l : List En) (r : Nat) (x : Nat × List Ue) : St :=
 ⟨[(1, true, .d (.int .i64 r)), (4, true, .d (.ptr 2 0)), (6, true, .d (.ptr 3 0)), (22, true, .d (.sl 2 (l.map qs))), (23, true, .d (.int .i64 l.length)), (24, true, .d (.int .i64 (x.1 : Nat)))],
  [stoO s 1, mapO s.m, .row [.d (.int .i64 0), .d .nilsl], .row [.d (.int .i64 r), .own 0 4 (x.2.map qf)]], [0], 1⟩
theorem q9b (n : Nat) (h1 : 1 ≤ n) (h6 : n ≤ 6) : qg Tryz.prog 43 [.d (.int .i64 (n : Nat))] [] (.tup [.d (.agg [.int .i64 (n : Nat), .nilsl]), .d (.int .i64 0)]) [] := by
 have c1 : (decide ((n : Int) < 1) || decide ((n : Int) > 6)) = false := by simp; omega
 refine F43.goT ?_
 try (refine ev1 @c1 ?_; try exact True.intro)
 (repeat (with_reducible refine ob ?_)); refine no_ ?_
 try (refine ev ?_; try exact True.intro)
theorem q4n {r : Int} {l : List En} {i : Nat} (hi : i < l.length) : qfu r (l.drop i) = (match ldEn r l[i] with
  | none => none
  | some x => (qfu r (l.drop (i + 1))).map (x :: ·)) := by
 rw [List.drop_eq_getElem_cons hi, qfu]; try (cases ldEn r l[i] <;> rfl)
theorem xdm (n : Nat) (e : En) : ldEn (n : Nat) e = if (qs7 (n : Nat) e.1 e.2).2 = true then some (qs7 (n : Nat) e.1 e.2).1 else none := by
 unfold ldEn qs7
 cases qay e.1 with
 | none => rfl
 | some s => simp only [q4l, beq_iff_eq]
theorem xdn {n : Nat} (h : n ≤ 6) (k v : List UInt8) : (qs7 (n : Nat) k v).1.Sm := by
 unfold qs7
 cases qay k with
 | none => exact ⟨by simp, by simp⟩
 | some s => exact ⟨by simp only [qwt, zx, Int.toNat_natCast]; omega, by simp only [qwt, zx, Int.toNat_natCast]; omega⟩
set_option maxRecDepth 10000 in
theorem q9c (s : Sto) (r : Int) (hm : s.m.Ok) (hl : s.m.l.length ≤ 1000) (hv : ∀ x ∈ s.m.l, x.2.1.length ≤ 1000 ∧ x.2.2.length ≤ 1000000) :
  qg Tryz.prog 32 [.d (.ptr 0 0), .d (.int .i64 r)] [stoO s 1, mapO s.m] (.tup [.d (.agg (qj (qaz s.m r).1)), .d (.int .i64 (qaz s.m r).2)]) [stoO s 1, mapO s.m] := by
 have kl := q66 s uPfx hm hl fun x hx => (hv x hx).2
 simp only [stoO, mapO] at kl
 by_cases hr : (decide (r < 1) || decide (r > 6)) = true
 ·have k0 := q0x r
  have h0 : qjn r = (⟨0, []⟩, 2) := by unfold qjn; rw [if_pos hr]
  have hx : qaz s.m r = (⟨0, []⟩, 2) := by unfold qaz; rw [if_pos hr]
  rw [h0] at k0
  simp only [qj] at k0
  refine F32.goT ?_
  try (refine ev2 @stoO.eq_1 @mapO.eq_1 ?_; try exact True.intro)
  (repeat (with_reducible refine ob ?_)); first | refine cl F43 (k0) ?_ | refine clF F43 (k0) (fun _ => by (refine ev3 @qf.eq_1 @qj.eq_1 @qh.eq_1 ?_; try exact True.intro)) ?_
  try (refine ev ?_; try exact True.intro)
  (repeat (with_reducible refine ob ?_))
  try (refine ev1 @hx ?_; try exact True.intro)
  (repeat (with_reducible refine ob ?_)); refine qde ?_
  try (refine ev2 @qj.eq_1 @List.map_nil.{0,0} ?_; try exact True.intro)
 have hx : qaz s.m r = ldMg r (qfu r (yi s.m uPfx)) := by unfold qaz; rw [if_neg hr]
 simp only [Bool.or_eq_true, decide_eq_true_eq, not_or] at hr
 obtain ⟨n, rfl⟩ : ∃ n : Nat, r = n := ⟨r.toNat, by omega⟩
 have hls : (yi s.m uPfx).length ≤ 1000 := by
  have := qng s.m uPfx
  omega
 rw [hx]
 clear hx
 have hk' : ∀ e ∈ yi s.m uPfx, pre uPfx e.1 = true ∧ e.1.length ≤ 1000 ∧ e.2.length ≤ 1000000 := fun e he => by
  obtain ⟨q1, x, hx, rfl⟩ := qs8 he
  exact ⟨q1, hv x hx⟩
 generalize yi s.m uPfx = L at kl hls hk' ⊢
 generalize hR : ldMg (n : Nat) (qfu (n : Nat) L) = R
 have k0 := q9b n (by omega) (by omega)
 refine F32.goT ?_
 try (refine ev2 @stoO.eq_1 @mapO.eq_1 ?_; try exact True.intro)
 (repeat (with_reducible refine ob ?_)); first | refine cl F43 (k0) ?_ | refine clF F43 (k0) (fun _ => by (refine ev3 @qf.eq_1 @qj.eq_1 @qh.eq_1 ?_; try exact True.intro)) ?_
 try (refine ev ?_; try exact True.intro)
 (repeat (with_reducible refine ob ?_))
 try (refine ev ?_; try exact True.intro)
 (repeat (with_reducible refine ob ?_)); refine no_ ?_
 try (refine ev ?_; try exact True.intro)
 (repeat (with_reducible refine ob ?_)); refine clO [0, 1] F92u (kl) ?_ (hfit := by first | exact ⟨qc, trivial⟩ | exact ⟨qc, qc, trivial⟩ | (refine ev3 @qf.eq_1 @qj.eq_1 @qh.eq_1 ?_; try exact True.intro))
 try (refine ev ?_; try exact True.intro)
 refine qk (fun x : { x : Nat × List Ue // x.1 ≤ L.length ∧ x.2.length = x.1 ∧ (∀ y ∈ x.2, y.Sm) ∧ qfu (n : Nat) L = (qfu (n : Nat) (L.drop x.1)).map (x.2 ++ ·) } => SuLd s L n x.val) (fun x => L.length - x.val.1) ⟨(0, []), Nat.zero_le _, rfl, fun y hy => (by cases hy), by simp⟩ ?_ (fun x => ?_)
 ·try (refine ev5 @SuLd.eq_1 @stoO.eq_1 @mapO.eq_1 @Int.ofNat_zero @List.map_nil.{0,0} ?_; try exact True.intro)
 obtain ⟨⟨i, l⟩, x1, x2, x3, x4⟩ := x
 simp only at x1 x2 x3 x4
 try (refine ev3 @SuLd.eq_1 @stoO.eq_1 @mapO.eq_1 ?_; try exact True.intro)
 (repeat (with_reducible refine ob ?_)); refine xk _ (fun h => ?_) (fun h => ?_)
 ·have hil : i < L.length := by simpa using h
  obtain ⟨q1, q2, q3⟩ := hk' _ (List.getElem_mem hil)
  have kq := q9a (L[i]).1 q1 q2 (L[i]).2 (by omega) n (by omega) (by omega)
  rw [q4n hil, xdm] at x4
  have hsm := xdn (n := n) (by omega) (L[i]).1 (L[i]).2
  generalize qs7 (n : Nat) (L[i]).1 (L[i]).2 = y at kq x4 hsm
  obtain ⟨y, yb⟩ := y
  simp only at kq x4 hsm
  (refine ev2 (qi qs L hil) @qs.eq_1 ?_; try exact True.intro)
  (repeat (with_reducible refine ob ?_))
  (repeat (with_reducible refine ob ?_)); first | refine cl F93m (kq) ?_ | refine clF F93m (kq) (fun _ => by (refine ev3 @qf.eq_1 @qj.eq_1 @qh.eq_1 ?_; try exact True.intro)) ?_
  try (refine ev ?_; try exact True.intro)
  refine ⟨⟨rfl, rfl⟩, ?_⟩
  have hwi := qd (show i < 9223372036854775807 by omega)
  refine xk _ (fun h2 => ?_) (fun h2 => ?_)
  ·have hn : yb = false := by simpa using h2
   subst hn
   simp only [Bool.false_eq_true, if_false, Option.map_none] at x4
   rw [x4] at hR
   have hR2 : R = (⟨0, []⟩, 4) := hR.symm
   try (refine ev3 @hR2 @qj.eq_1 @List.map_nil.{0,0} ?_; try exact True.intro)
  ·have hy : yb = true := by simpa using h2
   subst hy
   simp only [if_true, Option.map_map] at x4
   try (refine ev1 @qf.eq_1 ?_; try exact True.intro)
   (repeat (with_reducible refine ob ?_))
   refine ⟨⟨(i + 1, l ++ [y]), hil, by simp [x2], fun z hz => ?_, ?_⟩, ?_, by dsimp only; omega⟩
   ·rcases List.mem_append.1 hz with hz | hz
    ·exact x3 z hz
    ·simp at hz; subst hz; exact hsm
   ·rw [x4]
    congr 1
    funext z; simp
   ·try (refine ev8 @SuLd.eq_1 @stoO.eq_1 @mapO.eq_1 @List.map_append.{0,0} @List.map_cons.{0,0} @List.map_nil.{0,0} @qf.eq_1 @hwi ?_; try exact True.intro)
 ·have hie : i = L.length := by
   have : L.length ≤ i := by simpa using h
   omega
  subst hie
  rw [List.drop_length, qfu, Option.map_some, List.append_nil] at x4
  rw [x4] at hR
  have kv := vz ⟨(n : Nat), l⟩ ⟨by simp only; omega, x3⟩
  simp only [qj] at kv
  try (refine ev ?_; try exact True.intro)
  (repeat (with_reducible refine ob ?_)); first | refine cl F69 (kv) ?_ | refine clF F69 (kv) (fun _ => by (refine ev3 @qf.eq_1 @qj.eq_1 @qh.eq_1 ?_; try exact True.intro)) ?_
  try (refine ev ?_; try exact True.intro)
  refine xk _ (fun h2 => ?_) (fun h2 => ?_)
  ·have hm2 : R = (⟨0, []⟩, 4) := by rw [← hR]; unfold ldMg; exact if_neg (by simpa using h2)
   try (refine ev3 @qj.eq_1 @hm2 @List.map_nil.{0,0} ?_; try exact True.intro)
  ·have hm2 : R = (⟨(n : Nat), l⟩, 0) := by rw [← hR]; unfold ldMg; exact if_pos (by simpa using h2)
   try (refine ev2 @qj.eq_1 @hm2 ?_; try exact True.intro)
end Go.Proofs.YtkcdbcbpbolgkaaGreatDoor
namespace Go.Proofs.YtkcdbcbpbolgkaaGreatDoor
open Go.Abs
set_option linter.unusedSimpArgs false
set_option linter.unusedVariables false
noncomputable section
set_option maxRecDepth 100000
set_option linter.defProp false
def d151 := cut Tryz.prog Tryz.f151 news
@[go_sem] def E151 := qm d151
def F151 := fnC d151 follows Tryz.func151
def d84 := cut Tryz.prog Tryz.f84 news
@[go_sem] def E84 := qm d84
def F84 := fnC d84 follows Tryz.func84
def d83 := cut Tryz.prog Tryz.f83 news
@[go_sem] def E83 := qm d83
def F83 := fnC d83 follows Tryz.func83
def d97m := cut Tryz.prog Tryz.f97 news [1000011] [10]
@[go_sem] def E97m := qm d97m
def F97m := fnC d97m follows Tryz.func97
def d27 := cut Tryz.prog Tryz.f27 news
@[go_sem] def E27 := qm d27
def F27 := fnC d27 follows Tryz.func27
def d33 := cut Tryz.prog Tryz.f33 news
@[go_sem] def E33 := qm d33
def F33 := fnC d33 follows Tryz.func33
end
def Ssum (l : List Bool) (k : Int) : St :=
 ⟨[(0, true, .d (.sl 1 (l.map encB))), (3, true, .d (.int .i64 (bitN (l.drop (k + 1).toNat) : Nat))), (4, true, .d (.int .i64 k))], [], [], 1⟩
theorem qls (l : List Bool) (hl : l.length ≤ 60) : qg Tryz.prog 151 [.d (.sl 1 (l.map encB))] [] (.d (.int .i64 (bitN l : Nat))) [] := by
 have h0 : bitN (l.drop ((l.length : Int) - 1 + 1).toNat) = 0 := by rw [Int.sub_add_cancel, Int.toNat_natCast, List.drop_length]; rfl
 have hw0 : IntKind.i64.wrap ((l.length : Int) - 1) = (l.length : Int) - 1 := xi (by unfold I64; omega)
 refine F151.go ?_
 try (refine ev1 @hw0 ?_; try exact True.intro)
 refine qk (fun k : { k : Int // -1 ≤ k ∧ k < l.length } => Ssum l k.val) (fun k => (k.val + 1).toNat) ⟨(l.length : Int) - 1, by omega, by omega⟩ ?_ (fun k => ?_)
 ·try (refine ev3 @Ssum.eq_1 @h0 @Int.ofNat_zero ?_; try exact True.intro)
 obtain ⟨k, hk1, hk2⟩ := k
 try (refine ev1 @Ssum.eq_1 ?_; try exact True.intro)
 (repeat (with_reducible refine ob ?_)); refine xk _ (fun h => ?_) (fun h => ?_)
 ·obtain ⟨j, rfl⟩ : ∃ j : Nat, k = j := ⟨k.toNat, by simp at h; omega⟩
  have hjl : j < l.length := by omega
  have ej : ((j : Int) + 1).toNat = j + 1 := by omega
  have hd : bitN (l.drop j) = (l[j]).toNat + 2 * bitN (l.drop (j + 1)) := by rw [List.drop_eq_getElem_cons hjl]; rfl
  have hlt := qbt (l.drop (j + 1))
  have hp : 2 ^ (l.drop (j + 1)).length ≤ 2 ^ 59 := Nat.pow_le_pow_right (by decide) (by rw [List.length_drop]; omega)
  have w1 : IntKind.i64.wrap (2 * ((bitN (l.drop (j + 1)) : Nat) : Int)) = ((2 * bitN (l.drop (j + 1)) : Nat) : Int) := by rw [xi (by unfold I64; omega)]; omega
  have w2 : IntKind.i64.wrap ((j : Int) - 1) = (j : Int) - 1 := xi (by unfold I64; omega)
  have e2 : ((j : Int) - 1 + 1).toNat = j := by omega
  (refine ev3 @ej (qi encB l hjl) @encB.eq_1 ?_; try exact True.intro)
  (repeat (with_reducible refine ob ?_))
  try (refine ev1 @w1 ?_; try exact True.intro)
  refine xk _ (fun h2 => ?_) (fun h2 => ?_)
  ·have w3 : IntKind.i64.wrap (((2 * bitN (l.drop (j + 1)) : Nat) : Int) + 1) = ((bitN (l.drop j) : Nat) : Int) := by rw [hd, h2, xi (by unfold I64; omega), Bool.toNat_true]; omega
   try (refine ev1 @w3 ?_; try exact True.intro)
   refine ⟨⟨(j : Int) - 1, by omega, by omega⟩, ?_, by dsimp only; omega⟩
   try (refine ev3 @Ssum.eq_1 @w2 @e2 ?_; try exact True.intro)
  ·rw [h2, Bool.toNat_false, Nat.zero_add] at hd
   try (refine ev ?_; try exact True.intro)
   refine ⟨⟨(j : Int) - 1, by omega, by omega⟩, ?_, by dsimp only; omega⟩
   try (refine ev4 @Ssum.eq_1 @w2 @e2 @hd ?_; try exact True.intro)
 ·have hk : k = -1 := by simp at h; omega
  subst hk
  have e0 : ((-1 : Int) + 1).toNat = 0 := by decide
  try simp only [e0, List.drop_zero, go_sem, Nat.reduceAdd, Nat.reduceMul, Nat.reduceSub, Nat.reduceEqDiff, Nat.reduceLT, Nat.reduceLeDiff, Nat.reduceBEq, reduceIte, reduceCtorEq, Int.reduceAdd, Int.reduceLT, Int.reduceLE, Int.reduceGT, Int.reduceGE, Int.reduceEq, Int.reduceNe, Int.reduceBEq, Int.reduceBNe, Int.reduceToNat, Int.reduceNeg]
theorem q9d : ∀ n : Fin 10, (([48, 49, 50, 51, 52, 53, 54, 55, 56, 57] : List UInt8).drop n.val).take 1 = [UInt8.ofNat (48 + n.val)] := by decide
theorem qge (s : Int) (h1 : 0 ≤ s) (h2 : s ≤ 99) : qg Tryz.prog 84 [.d (.int .i64 s)] [] (.d (.str (uKey s))) [] := by
 obtain ⟨n, rfl⟩ : ∃ n : Nat, s = n := ⟨s.toNat, by omega⟩
 have a1 : IntKind.i64.wrap ((n : Int).tdiv 10) = ((n / 10 : Nat) : Int) := by
  rw [Int.tdiv_eq_ediv_of_nonneg (by omega), xi (by unfold I64; omega)]; omega
 have a2 : ((n : Int)).tmod 10 = ((n % 10 : Nat) : Int) := by rw [Int.tmod_eq_emod_of_nonneg (by omega)]; omega
 have d1 := q9d ⟨n / 10, by omega⟩
 have d2 := q9d ⟨n % 10, by omega⟩
 simp only at d1 d2
 have b1 : n / 10 < 10 := by omega
 have b2 : n % 10 < 10 := by omega
 have hk : uKey (n : Int) = [117, 47] ++ [UInt8.ofNat (48 + n / 10)] ++ [UInt8.ofNat (48 + n % 10)] := by simp [uKey]
 generalize n / 10 = p at *
 generalize n % 10 = q at *
 have h3 : IntKind.i64.wrap ((p : Int) + 1) = ((p + 1 : Nat) : Int) := qd (show p < 9223372036854775807 by omega)
 have h4 : IntKind.i64.wrap ((q : Int) + 1) = ((q + 1 : Nat) : Int) := qd (show q < 9223372036854775807 by omega)
 have s1 : p + 1 - p = 1 := by omega
 have s2 : q + 1 - q = 1 := by omega
 refine F84.go ?_
 try simp only [a1, a2, h3, h4, Int.toNat_natCast, s1, s2, d1, d2, go_sem, Nat.reduceAdd, Nat.reduceMul, Nat.reduceSub, Nat.reduceEqDiff, Nat.reduceLT, Nat.reduceLeDiff, Nat.reduceBEq, reduceIte, reduceCtorEq, Int.reduceAdd, Int.reduceLT, Int.reduceLE, Int.reduceGT, Int.reduceGE, Int.reduceEq, Int.reduceNe, Int.reduceBEq, Int.reduceBNe, Int.reduceToNat, Int.reduceNeg]
 (repeat (with_reducible refine ob ?_))
 try (refine ev1 @hk ?_; try exact True.intro)
theorem qqy (x : Ue) (hp : I64 x.phase) (h1 : x.moved.length ≤ 60) (h2 : x.opened.length ≤ 60) : qg Tryz.prog 83 [.d (.agg (qf x))] [] (.d (.sl 1 (qa (y8 x)))) [] := by
 have p1 : (2 : Nat) ^ x.moved.length ≤ 2 ^ 60 := Nat.pow_le_pow_right (by decide) h1
 have p2 : (2 : Nat) ^ x.opened.length ≤ 2 ^ 60 := Nat.pow_le_pow_right (by decide) h2
 have q1 := qbt x.moved
 have q2 := qbt x.opened
 have i1 : I64 (bitN x.moved : Nat) := by unfold I64; omega
 have i2 : I64 (bitN x.opened : Nat) := by unfold I64; omega
 have a1 := zk hp
 have a2 := zk i1
 have a3 := zk i2
 refine F83.go ?_
 try (refine ev1 @qf.eq_1 ?_; try exact True.intro)
 refine clA F150 (qfk x.phase hp) ?_
 try (refine ev ?_; try exact True.intro)
 (repeat (with_reducible refine ob ?_)); first | refine cl F151 (qls x.moved h1) ?_ | refine clF F151 (qls x.moved h1) (fun _ => by (refine ev3 @qf.eq_1 @qj.eq_1 @qh.eq_1 ?_; try exact True.intro)) ?_
 try (refine ev ?_; try exact True.intro)
 refine clA F150 (qfk _ i1) ?_
 try (refine ev1 @xf ?_; try exact True.intro)
 (repeat (with_reducible refine ob ?_))
 try (refine ev ?_; try exact True.intro)
 (repeat (with_reducible refine ob ?_)); first | refine cl F151 (qls x.opened h2) ?_ | refine clF F151 (qls x.opened h2) (fun _ => by (refine ev3 @qf.eq_1 @qj.eq_1 @qh.eq_1 ?_; try exact True.intro)) ?_
 try (refine ev ?_; try exact True.intro)
 refine clA F150 (qfk _ i2) ?_
 try (refine ev2 @xf @y8.eq_1 ?_; try exact True.intro)
 omega
def SrC1 (a b : Mg) (i : { i : Nat // qbq (fun i => (qy b (a.ents.getD i default).sess).2) i = true }) : St :=
 ⟨[(2, true, .d (.ptr 0 0)), (3, true, .d (.ptr 1 0)), (6, true, .d (.int .i64 (i.val : Nat)))], [xr a, xr b], [], 1⟩
def SrC2 (a b : Mg) (i : { i : Nat // i ≤ b.ents.length }) : St :=
 ⟨[(2, true, .d (.ptr 0 0)), (3, true, .d (.ptr 1 0)), (7, true, .own 0 3 (((b.ents.take i.val).flatMap (chOp a)).map qh)), (8, true, .d (.int .i64 (i.val : Nat)))], [xr a, xr b], [0], 1⟩
theorem xi0 {r : Int} {x : Ue} (h : EnOk r x) : I64 x.phase := by
 rw [h.ph]
 rcases wn x with h | h | h | h <;> rw [h.1] <;> unfold I64 <;> omega
set_option maxRecDepth 10000 in
theorem qs9 (a b : Mg) (ha : a.Sm) (hb : b.Sm) : qg Tryz.prog 27 [.d (.agg (qj a)), .d (.agg (qj b))] [] (.tup [.d (.sl 3 ((zf a b).1.map qh)), .d (.int .i64 (zf a b).2)]) [] := by
 have hal := ha.1
 have hbl := hb.1
 refine F27.goT ?_
 try (refine ev1 @qj.eq_1 ?_; try exact True.intro)
 (repeat (with_reducible refine ob ?_)); first | refine cl F81 (qa7 a ha) ?_ | refine clF F81 (qa7 a ha) (fun _ => by (refine ev3 @qf.eq_1 @qj.eq_1 @qh.eq_1 ?_; try exact True.intro)) ?_
 try (refine ev ?_; try exact True.intro)
 (repeat (with_reducible refine ob ?_)); first | refine cl F81 (qa7 b hb) ?_ | refine clF F81 (qa7 b hb) (fun _ => by (refine ev3 @qf.eq_1 @qj.eq_1 @qh.eq_1 ?_; try exact True.intro)) ?_
 try (refine ev ?_; try exact True.intro)
 (repeat (with_reducible refine ob ?_))
 (repeat (with_reducible refine ob ?_)); refine xk _ (fun h => ?_) (fun h => ?_)
 ·have hx : zf a b = ([], 1) := by unfold zf; rw [if_pos h]
  try (refine ev2 @hx @List.map_nil.{0,0} ?_; try exact True.intro)
 have h0 := h
 simp only [Bool.or_eq_false_iff, Bool.not_eq_false', bne_eq_false_iff_eq] at h
 obtain ⟨⟨va, vb⟩, hr⟩ := h
 have wa := kg.1 va
 have wb := kg.1 vb
 try (refine ev ?_; try exact True.intro)
 refine qk (SrC1 a b) (fun i => a.ents.length - i.val) ⟨0, rfl⟩ ?_ (fun i => ?_)
 ·try (refine ev3 @SrC1.eq_1 @xr.eq_1 @Int.ofNat_zero ?_; try exact True.intro)
 obtain ⟨i, hi⟩ := i
 try (refine ev2 @SrC1.eq_1 @xr.eq_1 ?_; try exact True.intro)
 (repeat (with_reducible refine ob ?_)); refine xk _ (fun h => ?_) (fun h => ?_)
 ·have hil : i < a.ents.length := by simpa using h
  have k := qp7 b (a.ents[i]).sess hb
  change qg _ _ _ _ (.d (.int .i64 (rIdx b (a.ents[i]).sess))) _ at k
  have hfd := q82 wb (a.ents[i]).sess
  simp only [qj] at k
  (refine ev2 (qi qf a.ents hil) @qf.eq_1 ?_; try exact True.intro)
  (repeat (with_reducible refine ob ?_))
  (repeat (with_reducible refine ob ?_)); first | refine cl F82 (k) ?_ | refine clF F82 (k) (fun _ => by (refine ev3 @qf.eq_1 @qj.eq_1 @qh.eq_1 ?_; try exact True.intro)) ?_
  try (refine ev1 @hfd ?_; try exact True.intro)
  refine xk _ (fun h2 => ?_) (fun h2 => ?_)
  ·have hg : (fun i => (qy b (a.ents.getD i default).sess).2) i = false := by simp only [ja hil]; simpa using h2
   have hx : zf a b = ([], 1) := by
    unfold zf
    rw [if_neg (by rw [h0]; simp), if_pos]
    rw [qs2, qd7 hil hg]; rfl
   try (refine ev2 @hx @List.map_nil.{0,0} ?_; try exact True.intro)
  ·try (refine ev ?_; try exact True.intro)
   refine ⟨⟨i + 1, yq hi (by simp only [ja hil]; simpa using h2)⟩, ?_, by dsimp only; omega⟩
   try (refine ev3 @SrC1.eq_1 @xr.eq_1 (qd (show i < 9223372036854775807 by omega)) ?_; try exact True.intro)
 have hil : a.ents.length ≤ i := by simpa using h
 have hall : qbq (fun i => (qy b (a.ents.getD i default).sess).2) a.ents.length = true := zo.2 fun j hj => zo.1 hi j (by omega)
 have hx : zf a b = (qod a b, 0) := by
  unfold zf
  rw [if_neg (by rw [h0]; simp), if_neg]
  rw [qs2, hall]; simp
 rw [hx]
 try (refine ev ?_; try exact True.intro)
 refine qk (SrC2 a b) (fun i => b.ents.length - i.val) ⟨0, Nat.zero_le _⟩ ?_ (fun i => ?_)
 ·try (refine ev6 @SrC2.eq_1 @xr.eq_1 @Int.ofNat_zero @List.take_zero.{0} @List.flatMap_nil.{0,0} @List.map_nil.{0,0} ?_; try exact True.intro)
 obtain ⟨j, hj⟩ := i
 try (refine ev2 @SrC2.eq_1 @xr.eq_1 ?_; try exact True.intro)
 (repeat (with_reducible refine ob ?_)); refine xk _ (fun h => ?_) (fun h => ?_)
 ·have hjl : j < b.ents.length := by simpa using h
  have hxe := wb.en _ (List.getElem_mem hjl)
  have k := qp7 a (b.ents[j]).sess ha
  change qg _ _ _ _ (.d (.int .i64 (rIdx a (b.ents[j]).sess))) _ at k
  have kv := qqy b.ents[j] (xi0 hxe) (by have := hxe.ml; have := wb.r6; omega) (by have := hxe.ol; have := wb.r6; omega)
  simp only [qf] at kv
  have hlen := q87 a (b.ents.take j)
  rw [List.length_take] at hlen
  have hsnoc : (b.ents.take (j + 1)).flatMap (chOp a) = (b.ents.take j).flatMap (chOp a) ++ chOp a b.ents[j] := by
   rw [← List.take_append_getElem hjl, List.flatMap_append]; simp
  have hw := qd (show j < 9223372036854775807 by omega)
  simp only [qj] at k
  (refine ev2 (qi qf b.ents hjl) @qf.eq_1 ?_; try exact True.intro)
  (repeat (with_reducible refine ob ?_))
  (repeat (with_reducible refine ob ?_)); first | refine cl F82 (k) ?_ | refine clF F82 (k) (fun _ => by (refine ev3 @qf.eq_1 @qj.eq_1 @qh.eq_1 ?_; try exact True.intro)) ?_
  try (refine ev ?_; try exact True.intro)
  rcases qqv a (b.ents[j]).sess with ⟨e1, e2⟩ | ⟨q, hq, e1, e2⟩
  ·have hc := xgg e2
   try (refine ev1 @e1 ?_; try exact True.intro)
   refine qao (.sl 1 []) rfl ?_
   try (refine ev ?_; try exact True.intro)
   refine qao (.sl 1 []) rfl ?_
   try (refine ev ?_; try exact True.intro)
   (repeat (with_reducible refine ob ?_)); refine qde ?_
   try (refine ev ?_; try exact True.intro)
   (repeat (with_reducible refine ob ?_)); first | refine cl F84 (qge (b.ents[j]).sess (by have := hxe.s1; omega) (by have := hxe.s32; omega)) ?_ | refine clF F84 (qge (b.ents[j]).sess (by have := hxe.s1; omega) (by have := hxe.s32; omega)) (fun _ => by (refine ev3 @qf.eq_1 @qj.eq_1 @qh.eq_1 ?_; try exact True.intro)) ?_
   try (refine ev ?_; try exact True.intro)
   (repeat (with_reducible refine ob ?_)); first | refine cl F83 (kv) ?_ | refine clF F83 (kv) (fun _ => by (refine ev3 @qf.eq_1 @qj.eq_1 @qh.eq_1 ?_; try exact True.intro)) ?_
   try (refine ev ?_; try exact True.intro)
   (repeat (with_reducible refine ob ?_))
   refine ⟨⟨j + 1, hjl⟩, ?_, by dsimp only; omega⟩
   try simp only [SrC2, xr, hsnoc, hc, List.map_append, List.map_cons, List.map_nil, qh, hw, go_sem, Nat.reduceAdd, Nat.reduceMul, Nat.reduceSub, Nat.reduceEqDiff, Nat.reduceLT, Nat.reduceLeDiff, Nat.reduceBEq, reduceIte, reduceCtorEq, Int.reduceAdd, Int.reduceLT, Int.reduceLE, Int.reduceGT, Int.reduceGE, Int.reduceEq, Int.reduceNe, Int.reduceBEq, Int.reduceBNe, Int.reduceToNat, Int.reduceNeg]
  ·have hc := xgh wa wb (by simpa using hr) (List.getElem_mem hjl) hq e2
   have hqe := wa.en _ (List.getElem_mem hq)
   have kq := qqy a.ents[q] (xi0 hqe) (by have := hqe.ml; have := wa.r6; omega) (by have := hqe.ol; have := wa.r6; omega)
   simp only [qf] at kq
   have hq0 : decide ((q : Int) < 0) = false := by simp
   try (refine ev3 @e1 @hq0 @Int.toNat_natCast ?_; try exact True.intro)
   (refine ev2 (qi qf a.ents hq) @qf.eq_1 ?_; try exact True.intro)
   (repeat (with_reducible refine ob ?_))
   (repeat (with_reducible refine ob ?_)); first | refine cl F83 (kq) ?_ | refine clF F83 (kq) (fun _ => by (refine ev3 @qf.eq_1 @qj.eq_1 @qh.eq_1 ?_; try exact True.intro)) ?_
   try (refine ev ?_; try exact True.intro)
   (repeat (with_reducible refine ob ?_)); first | refine cl F83 (kv) ?_ | refine clF F83 (kv) (fun _ => by (refine ev3 @qf.eq_1 @qj.eq_1 @qh.eq_1 ?_; try exact True.intro)) ?_
   try (refine ev ?_; try exact True.intro)
   refine xk _ (fun h2 => ?_) (fun h2 => ?_)
   ·rw [if_neg (by simpa using h2)] at hc
    try (refine ev ?_; try exact True.intro)
    (repeat (with_reducible refine ob ?_)); first | refine cl F84 (qge (b.ents[j]).sess (by have := hxe.s1; omega) (by have := hxe.s32; omega)) ?_ | refine clF F84 (qge (b.ents[j]).sess (by have := hxe.s1; omega) (by have := hxe.s32; omega)) (fun _ => by (refine ev3 @qf.eq_1 @qj.eq_1 @qh.eq_1 ?_; try exact True.intro)) ?_
    try (refine ev ?_; try exact True.intro)
    (repeat (with_reducible refine ob ?_)); first | refine cl F83 (kv) ?_ | refine clF F83 (kv) (fun _ => by (refine ev3 @qf.eq_1 @qj.eq_1 @qh.eq_1 ?_; try exact True.intro)) ?_
    try (refine ev ?_; try exact True.intro)
    (repeat (with_reducible refine ob ?_))
    refine ⟨⟨j + 1, hjl⟩, ?_, by dsimp only; omega⟩
    try simp only [SrC2, xr, hsnoc, hc, List.map_append, List.map_cons, List.map_nil, qh, hw, go_sem, Nat.reduceAdd, Nat.reduceMul, Nat.reduceSub, Nat.reduceEqDiff, Nat.reduceLT, Nat.reduceLeDiff, Nat.reduceBEq, reduceIte, reduceCtorEq, Int.reduceAdd, Int.reduceLT, Int.reduceLE, Int.reduceGT, Int.reduceGE, Int.reduceEq, Int.reduceNe, Int.reduceBEq, Int.reduceBNe, Int.reduceToNat, Int.reduceNeg]
   ·rw [if_pos (by simpa using h2)] at hc
    try (refine ev ?_; try exact True.intro)
    refine ⟨⟨j + 1, hjl⟩, ?_, by dsimp only; omega⟩
    try (refine ev6 @SrC2.eq_1 @xr.eq_1 @hsnoc @hc @List.append_nil.{0} @hw ?_; try exact True.intro)
 ·have hjl : b.ents.length ≤ j := by simpa using h
  try (refine ev2 @qod.eq_1 (List.take_of_length_le hjl) ?_; try exact True.intro)
end Go.Proofs.YtkcdbcbpbolgkaaGreatDoor
namespace Go.Proofs.YtkcdbcbpbolgkaaGreatDoor
open Go.Abs
set_option linter.unusedSimpArgs false
set_option linter.unusedVariables false
def Sbit (n r k : Nat) : St :=
 ⟨[(0, true, .d (.int .i64 (n / 2 ^ k : Nat))), (1, true, .d (.int .i64 r)), (6, true, .d (.ref 0 0 1 r)), (7, true, .d (.int .i64 k))], [mkO (mark r n k)], [], 1⟩
set_option maxRecDepth 10000 in
theorem qwz (n : Int) (hn : I64 n) (r : Nat) (hr : r ≤ 60) : qg Tryz.prog 97 [.d (.int .i64 n), .d (.int .i64 r)] [] (.tup [.d (.sl 1 ((qbl n r).1.map encB)), .d (.bool (qbl n r).2)]) [] := by
 refine F97m.goT ?_
 try (refine ev ?_; try exact True.intro)
 (repeat (with_reducible refine ob ?_)); refine xk _ (fun h => ?_) (fun h => ?_)
 ·have hb : qbl n r = ([], false) := by unfold qbl; rw [if_pos (by simpa using h)]
  try (refine ev2 @hb @List.map_nil.{0,0} ?_; try exact True.intro)
 obtain ⟨n, rfl⟩ : ∃ k : Nat, n = k := ⟨n.toNat, by simp at h; omega⟩
 have hn' : (n : Int) ≤ 9223372036854775807 := hn.2
 have hb : qbl (n : Int) r = (jg r n, decide (n / 2 ^ r = 0)) := by unfold qbl; rw [if_neg (by omega), Int.toNat_natCast]
 have flr : List.replicate r [D.bool false] = (List.replicate r false).map encB := by rw [List.map_replicate]; rfl
 have nn : ((r : Nat) : Int) ≤ 1000000000 ∧ (r : Int) * 1 ≤ 281474976710656 := by omega
 rw [hb]
 try (refine ev ?_; try exact True.intro)
 refine ⟨⟨by omega, by omega, by omega, by omega⟩, ?_⟩
 refine qk (fun k : { k : Nat // k ≤ r } => Sbit n r k.val) (fun k => r - k.val) ⟨0, Nat.zero_le _⟩ ?_ (fun k => ?_)
 ·try (refine ev7 @Sbit.eq_1 @mkO.eq_1 @qof @flr @Int.ofNat_zero @Nat.pow_zero @Nat.div_one ?_; try exact True.intro)
 obtain ⟨k, hk⟩ := k
 try (refine ev2 @Sbit.eq_1 @mkO.eq_1 ?_; try exact True.intro)
 (repeat (with_reducible refine ob ?_)); refine xk _ (fun h => ?_) (fun h => ?_)
 ·have hkr : k < r := by simpa using h
  have hw := qd (show k < 9223372036854775807 by omega)
  have hm := qs6 (N := n) hkr
  have hml := qs5 (n := r) (N := n) hk
  have hle : n / 2 ^ k ≤ n := Nat.div_le_self _ _
  have hq2 : n / 2 ^ (k + 1) = n / 2 ^ k / 2 := by rw [Nat.pow_succ, ← Nat.div_div_eq_div_mul]
  generalize n / 2 ^ k = q at *
  have e1 : ((q : Int).tmod 2 == 1) = (q % 2 == 1) := by
   rw [Int.tmod_eq_emod_of_nonneg (by omega), Bool.eq_iff_iff]; simp only [beq_iff_eq]; omega
  have e2 : IntKind.i64.wrap ((q : Int).tdiv 2) = ((q / 2 : Nat) : Int) := by
   rw [Int.tdiv_eq_ediv_of_nonneg (by omega), xi (by unfold I64; omega)]; omega
  try simp only [Int.toNat_natCast, e1, e2, Nat.mul_one, Nat.zero_add, qiy, hm, hml, List.length_map, List.length_replicate, zx, go_sem, Nat.reduceAdd, Nat.reduceMul, Nat.reduceSub, Nat.reduceEqDiff, Nat.reduceLT, Nat.reduceLeDiff, Nat.reduceBEq, reduceIte, reduceCtorEq, Int.reduceAdd, Int.reduceLT, Int.reduceLE, Int.reduceGT, Int.reduceGE, Int.reduceEq, Int.reduceNe, Int.reduceBEq, Int.reduceBNe, Int.reduceToNat, Int.reduceNeg]
  (repeat (with_reducible refine ob ?_))
  refine ⟨⟨k + 1, hkr⟩, ?_, by dsimp only; omega⟩
  try (refine ev4 @Sbit.eq_1 @mkO.eq_1 @hw @hq2 ?_; try exact True.intro)
 ·have hkr : k = r := by simp at h; omega
  subst hkr
  have hA : (jg k n).length = k := zx _ _
  have ez : (((n / 2 ^ k : Nat) : Int) == 0) = decide (n / 2 ^ k = 0) := by
   rw [Bool.eq_iff_iff]; simp only [beq_iff_eq, decide_eq_true_eq]; omega
  rw [qs4]
  generalize jg k n = A at hA ⊢
  try (refine ev ?_; try exact True.intro)
  refine qfb 0 1 (A.map encB) ?_ (qa9 _) (qen _) (qeo _) (D.okWR_noPtr (wk _))
  simp only [qkl, Fr.mapS, List.map_cons, List.map_nil, AObj.mapS, qlq, List.set_cons_zero, List.set_cons_succ]
  try simp only [List.length_map, hA, go_sem, Nat.reduceAdd, Nat.reduceMul, Nat.reduceSub, Nat.reduceEqDiff, Nat.reduceLT, Nat.reduceLeDiff, Nat.reduceBEq, reduceIte, reduceCtorEq, Int.reduceAdd, Int.reduceLT, Int.reduceLE, Int.reduceGT, Int.reduceGE, Int.reduceEq, Int.reduceNe, Int.reduceBEq, Int.reduceBNe, Int.reduceToNat, Int.reduceNeg]
  refine pu ?_
  try (refine ev1 @ez ?_; try exact True.intro)
end Go.Proofs.YtkcdbcbpbolgkaaGreatDoor
namespace Go.Proofs.YtkcdbcbpbolgkaaGreatDoor
open Go.Abs
set_option linter.unusedSimpArgs false
set_option linter.unusedVariables false
theorem q9e (n : Nat) (h1 : 1 ≤ n) (h6 : n ≤ 6) : qg Tryz.prog 94 [.d (.int .i64 (n : Nat))] [] (.tup [.d (.agg [.int .i64 (n : Nat), .nilsl]), .d (.int .i64 0)]) [] := by
 have c1 : (decide ((n : Int) < 1) || decide ((n : Int) > 6)) = false := by simp; omega
 refine F94.goT ?_
 try (refine ev1 @c1 ?_; try exact True.intro)
 (repeat (with_reducible refine ob ?_)); refine no_ ?_
 try (refine ev ?_; try exact True.intro)
theorem xdo (k : List UInt8) : qfv k ≤ 32 := by
 unfold qfv
 cases hs : qay k with
 | none => simp
 | some s => exact (qhf hs).1
theorem q9f {k : List UInt8} {j : Nat} (hj : j ≤ 32) (h : uKey (j : Int) = k) : qfv k = j := by
 unfold qfv
 rw [← h, qqt (by omega) (by omega)]; simp
theorem xdp {k : List UInt8} {j : Nat} (h1 : 1 ≤ j) (h : ¬ uKey (j : Int) = k) : qfv k ≠ j := by
 intro he
 unfold qfv at he
 cases hs : qay k with
 | none => rw [hs] at he; simp at he; omega
 | some s =>
  rw [hs, Option.getD_some] at he
  subst he
  exact h (qhf hs).2.symm
def rSo (k : List UInt8) (j : Nat) : Int := ((if qfv k < j then qfv k else 0 : Nat) : Int)
theorem xgk (k : List UInt8) : rSo k 1 = 0 := by unfold rSo; split <;> omega
theorem xgl (k : List UInt8) : rSo k 33 = (qfv k : Nat) := by unfold rSo; have := xdo k; rw [if_pos (by omega)]
theorem xgm {k : List UInt8} {j : Nat} (hj : j ≤ 32) (h : uKey (j : Int) = k) : rSo k (j + 1) = (j : Int) := by unfold rSo; rw [q9f hj h, if_pos (by omega)]
theorem xi1 {k : List UInt8} {j : Nat} (h1 : 1 ≤ j) (h : ¬ uKey (j : Int) = k) : rSo k (j + 1) = rSo k j := by
 have := xdp h1 h
 unfold rSo
 by_cases hl : qfv k < j
 ·rw [if_pos hl, if_pos (by omega)]
 ·rw [if_neg hl, if_neg (by omega)]
def SrLo (s : Sto) (L : List En) (r i : Nat) (l : List Ue) (fr : Fr) (os : List AObj) : St :=
 ⟨(1, true, .d (.int .i64 r)) :: (4, true, .d (.ptr 1 0)) :: (6, true, .d (.ptr 2 0)) :: (8, true, .d (.sl 2 (L.map qs))) :: (9, true, .d (.int .i64 i)) :: fr,
  .row [.d (.sl 1 (qa s.file)), .d (.int .i64 s.synced), .d (.sl 2 ((ji s.m).map qs))] :: .row [.d (.int .i64 0), .d .nilsl] :: .row [.d (.int .i64 r), .own 0 4 (l.map qf)] :: os, [0], 1⟩
def SrLa (s : Sto) (L : List En) (r : Nat) (x : Nat × List Ue) : St := SrLo s L r x.1 x.2 [] []
def SrLb (s : Sto) (L : List En) (r i : Nat) (l : List Ue) (k : List UInt8) (j : Nat) : St :=
 SrLo s L r i l [(10, true, .d (.ptr 3 0)), (11, true, .d (.int .i64 j))] [.row [.d (.int .i64 (rSo k j)), .d (.int .i64 0), .d .nilsl, .d .nilsl]]
theorem q9g {r : Nat} {l : List En} {i : Nat} (hi : i < l.length) : rAll r (l.drop i) = (match rEn r l[i] with
  | none => none
  | some x => (rAll r (l.drop (i + 1))).map (x :: ·)) := by
 rw [List.drop_eq_getElem_cons hi]; rfl
theorem qw0 (n : Int) (r : Nat) : (qbl n r).1.length ≤ r := by
 unfold qbl
 split
 ·simp
 ·rw [zx]; exact Nat.le_refl _
set_option maxRecDepth 10000 in
theorem q4o (s : Sto) (r : Int) (hg : s.m.Good) :
  qg Tryz.prog 33 [.d (.agg (stR s)), .d (.int .i64 r)] [] (.tup [.d (.agg (qj (qaz s.m r).1)), .d (.int .i64 (qaz s.m r).2)]) [] := by
 have hin : ∀ e ∈ ji s.m, e.1.length ≤ 1000000 ∧ e.2.length ≤ 1000000 := fun e he => by
  obtain ⟨_, x, hx, rfl⟩ := qs8 he
  have h1 := (hg.small x hx).2.1
  have h2 := (hg.small x hx).2.2
  simp only [enOf]
  omega
 have hel : (ji s.m).length ≤ 400 := by rw [qei]; exact hg.few
 have kl := q8m s.file s.synced (ji s.m) uPfx (by omega) (by decide) fun e he => (hin e he).1
 rw [← q7m hg.ok] at kl
 have hv : ∀ e ∈ yi s.m uPfx, e.2.length ≤ 1000000 := fun e he => by
  obtain ⟨_, x, hx, rfl⟩ := qs8 he
  have h2 := (hg.small x hx).2.2
  simp only [enOf]
  omega
 by_cases hr : (decide (r < 1) || decide (r > 6)) = true
 ·have k0 := xch r
  have h0 : qjn r = (⟨0, []⟩, 2) := by unfold qjn; rw [if_pos hr]
  have hx : qaz s.m r = (⟨0, []⟩, 2) := by unfold qaz; rw [if_pos hr]
  rw [h0] at k0
  simp only [qj] at k0
  refine F33.goT ?_
  try (refine ev2 @stR.eq_1 @qev.eq_1 ?_; try exact True.intro)
  (repeat (with_reducible refine ob ?_)); first | refine cl F94 (k0) ?_ | refine clF F94 (k0) (fun _ => by (refine ev3 @qf.eq_1 @qj.eq_1 @qh.eq_1 ?_; try exact True.intro)) ?_
  try (refine ev ?_; try exact True.intro)
  (repeat (with_reducible refine ob ?_))
  try (refine ev1 @hx ?_; try exact True.intro)
  (repeat (with_reducible refine ob ?_)); refine qde ?_
  try (refine ev2 @qj.eq_1 @List.map_nil.{0,0} ?_; try exact True.intro)
 simp only [Bool.or_eq_true, decide_eq_true_eq, not_or] at hr
 obtain ⟨n, rfl⟩ : ∃ n : Nat, r = n := ⟨r.toNat, by omega⟩
 have hls : (yi s.m uPfx).length ≤ 400 := by
  have := qng s.m uPfx
  have := hg.few
  omega
 have hx : qaz s.m (n : Nat) = ldMg (n : Nat) (rAll n (yi s.m uPfx)) := by unfold qaz; rw [if_neg (by simp; omega), xiy]
 rw [hx]
 clear hx
 generalize yi s.m uPfx = L at kl hls hv ⊢
 generalize hR : ldMg (n : Nat) (rAll n L) = R
 have k0 := q9e n (by omega) (by omega)
 simp only [qev] at kl
 refine F33.goT ?_
 try (refine ev2 @stR.eq_1 @qev.eq_1 ?_; try exact True.intro)
 (repeat (with_reducible refine ob ?_)); first | refine cl F94 (k0) ?_ | refine clF F94 (k0) (fun _ => by (refine ev3 @qf.eq_1 @qj.eq_1 @qh.eq_1 ?_; try exact True.intro)) ?_
 try (refine ev ?_; try exact True.intro)
 (repeat (with_reducible refine ob ?_))
 try (refine ev ?_; try exact True.intro)
 (repeat (with_reducible refine ob ?_)); refine no_ ?_
 try (refine ev ?_; try exact True.intro)
 (repeat (with_reducible refine ob ?_)); first | refine cl F95 (kl) ?_ | refine clF F95 (kl) (fun _ => by (refine ev3 @qf.eq_1 @qj.eq_1 @qh.eq_1 ?_; try exact True.intro)) ?_
 try (refine ev ?_; try exact True.intro)
 refine qk (fun x : { x : Nat × List Ue // x.1 ≤ L.length ∧ x.2.length = x.1 ∧ (∀ y ∈ x.2, y.Sm) ∧ rAll n L = (rAll n (L.drop x.1)).map (x.2 ++ ·) } => SrLa s L n x.val) (fun x => L.length - x.val.1) ⟨(0, []), Nat.zero_le _, rfl, fun y hy => (by cases hy), by simp⟩ ?_ (fun x => ?_)
 ·try (refine ev4 @SrLa.eq_1 @SrLo.eq_1 @Int.ofNat_zero @List.map_nil.{0,0} ?_; try exact True.intro)
 obtain ⟨⟨i, l⟩, x1, x2, x3, x4⟩ := x
 simp only at x1 x2 x3 x4
 try (refine ev2 @SrLa.eq_1 @SrLo.eq_1 ?_; try exact True.intro)
 (repeat (with_reducible refine ob ?_)); refine xk _ (fun h => ?_) (fun h => ?_)
 ·have hil : i < L.length := by simpa using h
  rw [q9g hil] at x4
  have hvi := hv _ (List.getElem_mem hil)
  have hen : rEn n L[i] = rVal n (qfv (L[i]).1 : Nat) (L[i]).2 := rfl
  rw [hen] at x4
  try (refine ev ?_; try exact True.intro)
  refine qk (fun j : { j : Nat // 1 ≤ j ∧ j ≤ 33 } => SrLb s L n i l (L[i]).1 j.val) (fun j => 33 - j.val) ⟨1, Nat.le_refl _, by omega⟩ ?_ (fun j => ?_)
  ·try (refine ev4 @SrLb.eq_1 @SrLo.eq_1 @xgk @Int.ofNat_one ?_; try exact True.intro)
  obtain ⟨j, j1, j2⟩ := j
  try (refine ev2 @SrLb.eq_1 @SrLo.eq_1 ?_; try exact True.intro)
  refine xk _ (fun hc => ?_) (fun hc => ?_)
  ·have hj : j ≤ 32 := by simp at hc; omega
   have hw := qd (show j < 9223372036854775807 by omega)
   try (refine ev ?_; try exact True.intro)
   (repeat (with_reducible refine ob ?_)); first | refine cl F84 (qge (j : Int) (by omega) (by omega)) ?_ | refine clF F84 (qge (j : Int) (by omega) (by omega)) (fun _ => by (refine ev3 @qf.eq_1 @qj.eq_1 @qh.eq_1 ?_; try exact True.intro)) ?_
   try (refine ev ?_; try exact True.intro)
   (refine ev2 (qi qs L hil) @qs.eq_1 ?_; try exact True.intro)
   (repeat (with_reducible refine ob ?_))
   refine xk _ (fun hd => ?_) (fun hd => ?_)
   ·try (refine ev ?_; try exact True.intro)
    refine ⟨⟨j + 1, by omega, by omega⟩, ?_, by dsimp only; omega⟩
    try (refine ev4 @SrLb.eq_1 @SrLo.eq_1 (xgm hj (by simpa using hd)) @hw ?_; try exact True.intro)
   ·try (refine ev ?_; try exact True.intro)
    refine ⟨⟨j + 1, by omega, by omega⟩, ?_, by dsimp only; omega⟩
    try (refine ev4 @SrLb.eq_1 @SrLo.eq_1 (xi1 j1 (by simpa using hd)) @hw ?_; try exact True.intro)
  have hj : j = 33 := by simp at hc; omega
  subst hj
  have hr0 : (⟨(L[i]).2, 0, false⟩ : Rd).Ok := ⟨by simp only; omega, Nat.zero_le _⟩
  have i1 := qln ⟨(L[i]).2, 0, false⟩ hr0
  have r1 := (qip hr0).1
  change qg _ _ _ _ (.d (.int .i64 (rv1 (L[i]).2).1)) [rdO (rv1 (L[i]).2).2] at i1
  change (rv1 (L[i]).2).2.Ok at r1
  have i2 := qln _ r1
  have r2 := (qip r1).1
  have b2 := qwk (rv1 (L[i]).2).2
  change qg _ _ _ _ (.d (.int .i64 (rv2 (L[i]).2).1)) [rdO (rv2 (L[i]).2).2] at i2
  change (rv2 (L[i]).2).2.Ok at r2
  change I64 (rv2 (L[i]).2).1 at b2
  have i3 := qln _ r2
  have r3 := (qip r2).1
  have b3 := qwk (rv2 (L[i]).2).2
  change qg _ _ _ _ (.d (.int .i64 (rv3 (L[i]).2).1)) [rdO (rv3 (L[i]).2).2] at i3
  change (rv3 (L[i]).2).2.Ok at r3
  change I64 (rv3 (L[i]).2).1 at b3
  have i4 := q03 (rv3 (L[i]).2).2 r3
  have q2 := qwz _ b2 n (by omega)
  have q3 := qwz _ b3 n (by omega)
  have hwi := qd (show i < 9223372036854775807 by omega)
  have l2 := qw0 (rv2 (L[i]).2).1 n
  have l3 := qw0 (rv3 (L[i]).2).1 n
  have hrv : rVal n (qfv (L[i]).1 : Nat) (L[i]).2 = if (rEnd (rv3 (L[i]).2).2 != 0 || !(qbl (rv2 (L[i]).2).1 n).2 || !(qbl (rv3 (L[i]).2).1 n).2) = true then none else some ⟨(qfv (L[i]).1 : Nat), (rv1 (L[i]).2).1, (qbl (rv2 (L[i]).2).1 n).1, (qbl (rv3 (L[i]).2).1 n).1⟩ := rfl
  rw [hrv] at x4
  have hso := xgl (L[i]).1
  simp only [rdO] at i1 i2 i3 i4
  try (refine ev1 @hso ?_; try exact True.intro)
  (refine ev2 (qi qs L hil) @qs.eq_1 ?_; try exact True.intro)
  (repeat (with_reducible refine ob ?_))
  try (refine ev ?_; try exact True.intro)
  (repeat (with_reducible refine ob ?_)); refine clO [4] F96 (i1) ?_ (hfit := by first | exact ⟨qc, trivial⟩ | exact ⟨qc, qc, trivial⟩ | (refine ev3 @qf.eq_1 @qj.eq_1 @qh.eq_1 ?_; try exact True.intro))
  try (refine ev ?_; try exact True.intro)
  (repeat (with_reducible refine ob ?_)); refine clO [4] F96 (i2) ?_ (hfit := by first | exact ⟨qc, trivial⟩ | exact ⟨qc, qc, trivial⟩ | (refine ev3 @qf.eq_1 @qj.eq_1 @qh.eq_1 ?_; try exact True.intro))
  try (refine ev ?_; try exact True.intro)
  (repeat (with_reducible refine ob ?_)); first | refine cl F97m (q2) ?_ | refine clF F97m (q2) (fun _ => by (refine ev3 @qf.eq_1 @qj.eq_1 @qh.eq_1 ?_; try exact True.intro)) ?_
  try (refine ev ?_; try exact True.intro)
  (repeat (with_reducible refine ob ?_)); refine clO [4] F96 (i3) ?_ (hfit := by first | exact ⟨qc, trivial⟩ | exact ⟨qc, qc, trivial⟩ | (refine ev3 @qf.eq_1 @qj.eq_1 @qh.eq_1 ?_; try exact True.intro))
  try (refine ev ?_; try exact True.intro)
  (repeat (with_reducible refine ob ?_)); first | refine cl F97m (q3) ?_ | refine clF F97m (q3) (fun _ => by (refine ev3 @qf.eq_1 @qj.eq_1 @qh.eq_1 ?_; try exact True.intro)) ?_
  try (refine ev ?_; try exact True.intro)
  (repeat (with_reducible refine ob ?_)); refine clO [4] F98 (i4) ?_ (hfit := by first | exact ⟨qc, trivial⟩ | exact ⟨qc, qc, trivial⟩ | (refine ev3 @qf.eq_1 @qj.eq_1 @qh.eq_1 ?_; try exact True.intro))
  try (refine ev ?_; try exact True.intro)
  (repeat (with_reducible refine ob ?_))
  try (refine ev ?_; try exact True.intro)
  refine xk _ (fun h2 => ?_) (fun h2 => ?_)
  ·rw [if_pos h2] at x4
   simp only [Option.map_none] at x4
   rw [x4] at hR
   have hR2 : R = (⟨0, []⟩, 4) := hR.symm
   try (refine ev3 @hR2 @qj.eq_1 @List.map_nil.{0,0} ?_; try exact True.intro)
  ·rw [if_neg (by rw [h2]; simp)] at x4
   simp only [Option.map_map] at x4
   try (refine ev ?_; try exact True.intro)
   (repeat (with_reducible refine ob ?_))
   refine ⟨⟨(i + 1, l ++ [⟨(qfv (L[i]).1 : Nat), (rv1 (L[i]).2).1, (qbl (rv2 (L[i]).2).1 n).1, (qbl (rv3 (L[i]).2).1 n).1⟩]), hil, by simp [x2], fun z hz => ?_, ?_⟩, ?_, by dsimp only; omega⟩
   ·rcases List.mem_append.1 hz with hz | hz
    ·exact x3 z hz
    ·simp at hz; subst hz; exact ⟨by simp only; omega, by simp only; omega⟩
   ·rw [x4]
    congr 1
    funext z; simp
   ·try (refine ev7 @SrLa.eq_1 @SrLo.eq_1 @List.map_append.{0,0} @List.map_cons.{0,0} @List.map_nil.{0,0} @qf.eq_1 @hwi ?_; try exact True.intro)
 ·have hie : i = L.length := by
   have : L.length ≤ i := by simpa using h
   omega
  subst hie
  rw [List.drop_length, show rAll n [] = some [] from rfl, Option.map_some, List.append_nil] at x4
  rw [x4] at hR
  have kv := qa7 ⟨(n : Nat), l⟩ ⟨by simp only; omega, x3⟩
  simp only [qj] at kv
  try (refine ev ?_; try exact True.intro)
  (repeat (with_reducible refine ob ?_)); first | refine cl F81 (kv) ?_ | refine clF F81 (kv) (fun _ => by (refine ev3 @qf.eq_1 @qj.eq_1 @qh.eq_1 ?_; try exact True.intro)) ?_
  try (refine ev ?_; try exact True.intro)
  refine xk _ (fun h2 => ?_) (fun h2 => ?_)
  ·have hm2 : R = (⟨0, []⟩, 4) := by rw [← hR]; unfold ldMg; exact if_neg (by simpa using h2)
   try (refine ev3 @qj.eq_1 @hm2 @List.map_nil.{0,0} ?_; try exact True.intro)
  ·have hm2 : R = (⟨(n : Nat), l⟩, 0) := by rw [← hR]; unfold ldMg; exact if_pos (by simpa using h2)
   try (refine ev2 @qj.eq_1 @hm2 ?_; try exact True.intro)
end Go.Proofs.YtkcdbcbpbolgkaaGreatDoor
namespace Go.Proofs.YtkcdbcbpbolgkaaGreatDoor
open Go.Abs
set_option linter.unusedSimpArgs false
set_option linter.unusedVariables false
noncomputable section
set_option maxRecDepth 100000
set_option linter.defProp false
def d4 := cut Tryz.prog Tryz.f4 news
@[go_sem] def E4 := qm d4
def F4 := fnC d4 follows Tryz.func4
end
theorem xgn (r : Int) (o : Option (List Ue)) : (ldMg r o).1.Sm := by
 unfold ldMg
 cases o with
 | none => exact ⟨by simp, fun x hx => (by cases hx)⟩
 | some l =>
  by_cases h : x9 ⟨r, l⟩ = true
  ·simp only [if_pos h]; exact (kg.1 h).sm
  ·simp only [if_neg h]; exact ⟨by simp, fun x hx => (by cases hx)⟩
theorem q9h (m : Cont) (r : Int) : (qaz m r).1.Sm := by
 unfold qaz
 split
 ·exact ⟨by simp, fun x hx => (by cases hx)⟩
 ·exact xgn _ _
theorem q9i (a b : Mg) : (zf a b).1.length ≤ b.ents.length := by
 unfold zf
 split
 ·simp
 ·split
  ·simp
  ·exact q87 a b.ents
def SuC (a b : Mg) (l : List OpS) (r : Int) (c : List OpS) (i : Nat) : St :=
 ⟨[(1, true, .d (.sl 3 (l.map qh))), (2, true, .d (.int .i64 r)), (3, true, .d (.ptr 0 0)), (7, true, .d (.sl 3 (c.map qh))), (9, true, .d (.sl 3 (c.map qh))), (11, true, .d (.int .i64 (i : Nat)))],
  [.row ((qj a ++ qj b).map .d)], [], 1⟩
set_option maxRecDepth 10000 in
set_option maxHeartbeats 2000000 in
theorem qj2 (a b : Mg) (l : List OpS) (r : Int) (la : a.ents.length ≤ maxLen) (lb : b.ents.length ≤ maxLen) (hl : l.length ≤ maxLen) :
  qg Tryz.prog 4 [.d (.agg (qj a ++ qj b)), .d (.sl 3 (l.map qh)), .d (.int .i64 r)] [] (.d (.bool true)) [] := by
 have k0 := q7a
 simp only [stoO, mapO] at k0
 have q1 := q7e a la
 have q2 := q7e b lb
 simp only [qj] at q1 q2
 refine F4.go ?_
 try (refine ev1 @qj.eq_1 ?_; try exact True.intro)
 (repeat (with_reducible refine ob ?_)); first | refine cl F22 (qqq) ?_ | refine clF F22 (qqq) (fun _ => by (refine ev4 @qf.eq_1 @qj.eq_1 @qh.eq_1 @qs.eq_1 ?_; try exact True.intro)) ?_
 try (refine ev ?_; try exact True.intro)
 (repeat (with_reducible refine ob ?_)); refine no_ ?_
 try (refine ev ?_; try exact True.intro)
 (repeat (with_reducible refine ob ?_)); first | refine cl F23 (q1) ?_ | refine clF F23 (q1) (fun _ => by (refine ev4 @qf.eq_1 @qj.eq_1 @qh.eq_1 @qs.eq_1 ?_; try exact True.intro)) ?_
 try (refine ev ?_; try exact True.intro)
 (repeat (with_reducible refine ob ?_)); first | refine cl F23 (q2) ?_ | refine clF F23 (q2) (fun _ => by (refine ev4 @qf.eq_1 @qj.eq_1 @qh.eq_1 @qs.eq_1 ?_; try exact True.intro)) ?_
 try (refine ev ?_; try exact True.intro)
 (repeat (with_reducible refine ob ?_)); first | refine cl F24 (xd3 l hl) ?_ | refine clF F24 (xd3 l hl) (fun _ => by (refine ev4 @qf.eq_1 @qj.eq_1 @qh.eq_1 @qs.eq_1 ?_; try exact True.intro)) ?_
 try (refine ev ?_; try exact True.intro)
 (repeat (with_reducible refine ob ?_))
 refine xk _ (fun h => ?_) (fun h => ?_)
 ·try (refine ev ?_; try exact True.intro)
 have hv : fewM a = true ∧ fewM b = true ∧ sFew l = true := by
  simp only [Bool.or_eq_false_iff, Bool.not_eq_false'] at h
  exact ⟨h.1.1, h.1.2, h.2⟩
 obtain ⟨fa, fb, fl⟩ := hv
 have sa := q8v fa
 have sb := q8v fb
 obtain ⟨l30, lv⟩ := xb5 fl
 have t1 := q7i a sa.1
 have t2 := q7i b sb.1
 have c1 := q4m a b sa sb
 have c2 := qs9 a b sa sb
 have hcl := q9i a b
 have hbl := sb.1
 simp only [qj] at c1 c2 t1 t2
 try (refine ev ?_; try exact True.intro)
 (repeat (with_reducible refine ob ?_)); first | refine cl F26 (t1) ?_ | refine clF F26 (t1) (fun _ => by (refine ev4 @qf.eq_1 @qj.eq_1 @qh.eq_1 @qs.eq_1 ?_; try exact True.intro)) ?_
 try (refine ev ?_; try exact True.intro)
 (repeat (with_reducible refine ob ?_)); first | refine cl F26 (t2) ?_ | refine clF F26 (t2) (fun _ => by (refine ev4 @qf.eq_1 @qj.eq_1 @qh.eq_1 @qs.eq_1 ?_; try exact True.intro)) ?_
 try (refine ev ?_; try exact True.intro)
 (repeat (with_reducible refine ob ?_)); first | refine cl F25 (c1) ?_ | refine clF F25 (c1) (fun _ => by (refine ev4 @qf.eq_1 @qj.eq_1 @qh.eq_1 @qs.eq_1 ?_; try exact True.intro)) ?_
 try (refine ev ?_; try exact True.intro)
 (repeat (with_reducible refine ob ?_)); first | refine cl F27 (c2) ?_ | refine clF F27 (c2) (fun _ => by (refine ev4 @qf.eq_1 @qj.eq_1 @qh.eq_1 @qs.eq_1 ?_; try exact True.intro)) ?_
 try (refine ev ?_; try exact True.intro)
 generalize zf a b = ch at hcl ⊢
 obtain ⟨ops, e⟩ := ch
 simp only at hcl
 (repeat (with_reducible refine ob ?_))
 (repeat (with_reducible refine ob ?_)); refine no_ ?_
 try (refine ev ?_; try exact True.intro)
 refine qk (fun i : { i : Nat // i ≤ ops.length } => SuC a b l r ops i.val) (fun i => ops.length - i.val) ⟨0, Nat.zero_le _⟩ ?_ (fun i => ?_)
 ·try (refine ev3 @SuC.eq_1 @qj.eq_1 @Int.ofNat_zero ?_; try exact True.intro)
 obtain ⟨i, hi⟩ := i
 try (refine ev2 @SuC.eq_1 @qj.eq_1 ?_; try exact True.intro)
 refine xk _ (fun h => ?_) (fun h => ?_)
 ·have hil : i < ops.length := by simpa using h
  try (refine ev2 (qi qh ops hil) @qh.eq_1 ?_; try exact True.intro)
  (repeat (with_reducible refine ob ?_))
  (repeat (with_reducible refine ob ?_)); refine no_ ?_
  try (refine ev ?_; try exact True.intro)
  refine ⟨⟨i + 1, hil⟩, ?_, by dsimp only; omega⟩
  try (refine ev3 @SuC.eq_1 @qj.eq_1 (qd (show i < 9223372036854775807 by omega)) ?_; try exact True.intro)
 have kt := xjw l (by omega) (fun o ho => by have := (lv o ho).2; omega)
 have kr := qze newS l (qyn 0).good (by omega) (fun o ho => by have := (lv o ho).2; omega) qwf (by simp [newS])
 have hs' := (qnf (qyn 0) l).good
 have hq := q9c (xh newS l).1 r hs'.ok (by have := hs'.few; omega) (fun x hx => by have h1 := (hs'.small x hx).2.1; have h2 := (hs'.small x hx).2.2; omega)
 have hr := q4o (xh newS l).1 r hs'
 have hE : ji newS.m = [] := List.eq_nil_of_length_eq_zero (by rw [qei]; rfl)
 have e0 : stR newS = [.sl 1 [], .int .i64 0, .sl 2 []] := by simp only [stR, qev, hE]; rfl
 rw [e0] at kr
 have hsm := q9h (xh newS l).1.m r
 have he := q3r _ (qaz (xh newS l).1.m r).1 hsm
 have hfr := q7j (qaz (xh newS l).1.m r).1 hsm.1
 rw [decide_eq_true rfl] at he
 try (refine ev ?_; try exact True.intro)
 refine clO [1, 2] F28 k0 ?_
 try (refine ev ?_; try exact True.intro)
 (repeat (with_reducible refine ob ?_)); first | refine cl F30 (kt) ?_ | refine clF F30 (kt) (fun _ => by (refine ev4 @qf.eq_1 @qj.eq_1 @qh.eq_1 @qs.eq_1 ?_; try exact True.intro)) ?_
 try (refine ev ?_; try exact True.intro)
 rcases qec newS l with ⟨c1, c2⟩ | ⟨c1, _, _, _⟩
 ·have kc := q67 (s := newS) (l := l) (by omega) (by simp [newS]) c1
  simp only [stoO, mapO] at kc
  rw [c2] at kr hq hr he hfr
  simp only [stR, qev, qj] at kr hr
  simp only [stoO, mapO, qj] at hq hfr he
  refine clO [2, 1, 3] F29 kc ?_
  try (refine ev ?_; try exact True.intro)
  (repeat (with_reducible refine ob ?_)); first | refine cl F31 (kr) ?_ | refine clF F31 (kr) (fun _ => by (refine ev4 @qf.eq_1 @qj.eq_1 @qh.eq_1 @qs.eq_1 ?_; try exact True.intro)) ?_
  try (refine ev ?_; try exact True.intro)
  refine clO [2, 1] F32 hq ?_
  try (refine ev ?_; try exact True.intro)
  (repeat (with_reducible refine ob ?_)); first | refine cl F33 (hr) ?_ | refine clF F33 (hr) (fun _ => by (refine ev4 @qf.eq_1 @qj.eq_1 @qh.eq_1 @qs.eq_1 ?_; try exact True.intro)) ?_
  try (refine ev1 @beq_self_eq_true.{0} ?_; try exact True.intro)
  (repeat (with_reducible refine ob ?_)); first | refine cl F35 (hfr) ?_ | refine clF F35 (hfr) (fun _ => by (refine ev4 @qf.eq_1 @qj.eq_1 @qh.eq_1 @qs.eq_1 ?_; try exact True.intro)) ?_
  try (refine ev ?_; try exact True.intro)
  (repeat (with_reducible refine ob ?_)); first | refine cl F34 (he) ?_ | refine clF F34 (he) (fun _ => by (refine ev4 @qf.eq_1 @qj.eq_1 @qh.eq_1 @qs.eq_1 ?_; try exact True.intro)) ?_
  try (refine ev ?_; try exact True.intro)
 ·have kc := q3m (s := newS) (l := l) (by omega) (by simp [newS]) c1
  simp only [stoO, mapO] at kc
  simp only [stR, qev, qj] at kr hr
  simp only [stoO, mapO, qj] at hq hfr he
  refine clO [2, 1, 3] F29 kc ?_
  try (refine ev ?_; try exact True.intro)
  (repeat (with_reducible refine ob ?_)); first | refine cl F31 (kr) ?_ | refine clF F31 (kr) (fun _ => by (refine ev4 @qf.eq_1 @qj.eq_1 @qh.eq_1 @qs.eq_1 ?_; try exact True.intro)) ?_
  try (refine ev ?_; try exact True.intro)
  refine clO [2, 3] F32 hq ?_
  try (refine ev ?_; try exact True.intro)
  (repeat (with_reducible refine ob ?_)); first | refine cl F33 (hr) ?_ | refine clF F33 (hr) (fun _ => by (refine ev4 @qf.eq_1 @qj.eq_1 @qh.eq_1 @qs.eq_1 ?_; try exact True.intro)) ?_
  try (refine ev1 @beq_self_eq_true.{0} ?_; try exact True.intro)
  (repeat (with_reducible refine ob ?_)); first | refine cl F35 (hfr) ?_ | refine clF F35 (hfr) (fun _ => by (refine ev4 @qf.eq_1 @qj.eq_1 @qh.eq_1 @qs.eq_1 ?_; try exact True.intro)) ?_
  try (refine ev ?_; try exact True.intro)
  (repeat (with_reducible refine ob ?_)); first | refine cl F34 (he) ?_ | refine clF F34 (he) (fun _ => by (refine ev4 @qf.eq_1 @qj.eq_1 @qh.eq_1 @qs.eq_1 ?_; try exact True.intro)) ?_
  try (refine ev ?_; try exact True.intro)
end Go.Proofs.YtkcdbcbpbolgkaaGreatDoor
