/- Texts Kw, La, Lg, Lc, Lh, Km, Ku, Li. -/
import Derived.Test.YtkcdbcbpbolgkaaGreatDoorMqr
set_option linter.unusedSimpArgs false
set_option linter.unusedVariables false
namespace Go.Proofs.YtkcdbcbpbolgkaaGreatDoor
open Go.Abs
set_option maxRecDepth 100000
structure Pk.I (p : Pk) : Prop where
 h : ∀ x ∈ kx p, I64 x
 v : ∀ x ∈ p.values, I64 x.kind ∧ I64 x.n
 c : ∀ x ∈ p.clock, I64 x
theorem xtm {p : Pk} (hi : p.I) (h : qoc p = true) : p.W := by
 unfold qoc at h
 simp only [Bool.and_eq_true, List.all_eq_true] at h
 refine ⟨hi.h, fun x hx => ⟨(hi.v x hx).1, (hi.v x hx).2, ?_⟩, hi.c⟩
 have := h.1 x hx
 simp only [qht, Bool.not_eq_true', decide_eq_false_iff_not] at this
 omega
theorem xr1 {p : Pk} (h : qoc p = true) : p.Sm := by
 unfold qoc at h
 simp only [Bool.and_eq_true, decide_eq_true_eq] at h
 exact ⟨by omega, by omega⟩
theorem xf2 {n : Nat} {ds : List D} (h : Shp Tryz.prog (n + 1) 3 ds) : ∃ x, ds = encI x ∧ I64 x := xrk h
theorem xtn {n : Nat} {ds : List D} (h : Shp Tryz.prog (n + 2) 158 ds) : ∃ v : AV, ds = xr v ∧ I64 v.kind ∧ I64 v.n := by
 simp only [Shp, Tryz.underlying158, qzf, Tryz.underlying3, Tryz.underlying9] at h
 obtain ⟨_, _, rfl, ⟨a, rfl, ha⟩, _, _, rfl, ⟨b, rfl, hb⟩, _, _, rfl, ⟨c, rfl, hc⟩, rfl⟩ := h
 exact ⟨⟨a, b, c⟩, rfl, xev ha, xev hb⟩
theorem xkx : Tryz.prog.cellsOf 158 = 3 := by kernel_rfl
theorem xfv : Tryz.prog.cellsOf 3 = 1 := by kernel_rfl
theorem xow {n : Nat} {ds : List D} (h : Shp Tryz.prog (n + 4) 90 ds) : ∃ p : Pk, ds = qe p ∧ p.I ∧ p.values.length ≤ maxLen := by
 rw [Shp] at h
 simp only [Tryz.underlying90, qzf] at h
 obtain ⟨_, _, rfl, h1, _, _, rfl, h2, _, _, rfl, h3, _, _, rfl, h4, _, _, rfl, h5, _, _, rfl, h6, _, _, rfl, h7, _, _, rfl, h8, _, _, rfl, h9, rfl⟩ := h
 obtain ⟨a1, rfl, i1⟩ := xf2 h1
 obtain ⟨a2, rfl, i2⟩ := xf2 h2
 obtain ⟨a3, rfl, i3⟩ := xf2 h3
 obtain ⟨a4, rfl, i4⟩ := xf2 h4
 obtain ⟨a5, rfl, i5⟩ := xf2 h5
 obtain ⟨a6, rfl, i6⟩ := xf2 h6
 obtain ⟨a7, rfl, i7⟩ := xf2 h7
 rw [Shp] at h8 h9
 simp only [Tryz.underlying30, Tryz.underlying31] at h8 h9
 obtain ⟨r8, rfl, l8, h8⟩ := h8
 obtain ⟨r9, rfl, l9, h9⟩ := h9
 obtain ⟨vs, rfl, iv⟩ := qms fun r hr => xtn (h8 r hr)
 obtain ⟨ns, rfl, ic⟩ := qms fun r hr => xf2 (h9 r hr)
 refine ⟨⟨a1, a2, a3, a4, a5, a6, a7, vs, ns⟩, by rw [xkx, xfv]; rfl, ⟨fun x hx => ?_, iv, ic⟩, by simpa using l8⟩
 simp only [kx, List.mem_cons, List.not_mem_nil, or_false] at hx
 rcases hx with rfl | rfl | rfl | rfl | rfl | rfl | rfl <;> assumption
theorem xao : Tryz.prog.cellsOf 127 = 11 := by kernel_rfl
theorem xox {n : Nat} {ds : List D} (h : Shp Tryz.prog (n + 5) 127 ds) : ∃ x : Bst, ds = qag x ∧ x.p.I ∧ x.p.values.length ≤ maxLen := by
 rw [Shp] at h
 simp only [Tryz.underlying127, qzf] at h
 obtain ⟨_, _, rfl, h1, _, _, rfl, h2, _, _, rfl, h3, rfl⟩ := h
 obtain ⟨a1, rfl, _⟩ := xf2 h1
 obtain ⟨p, rfl, hp⟩ := xow h2
 obtain ⟨a3, rfl, _⟩ := xf2 h3
 exact ⟨⟨a1, p, a3⟩, rfl, hp⟩
theorem xky {n : Nat} {ds : List D} (h : Shp Tryz.prog (n + 7) 24 ds) : ∃ l : List Bst, ds = [.sl 11 (l.map qag)] ∧ l.length ≤ maxLen ∧ ∀ x ∈ l, x.p.I ∧ x.p.values.length ≤ maxLen := by
 rw [Shp] at h
 simp only [Tryz.underlying24] at h
 obtain ⟨r, rfl, hl, h⟩ := h
 obtain ⟨l, rfl, hx⟩ := qms fun r hr => xox (h r hr)
 exact ⟨l, by rw [xao], by simpa using hl, hx⟩
theorem xkz (l : List Bst) : argS Tryz.prog 24 [.sl 11 (l.map qag)] = .d (.sl 11 (l.map qag)) := by simp only [argS, Tryz.underlying24]; rfl
def xr2 (a c : Nat) : List D := [.int .u8 (a : Nat), .int .u8 (c : Nat)]
theorem xoy {n : Nat} {ds : List D} (h : Shp Tryz.prog (n + 2) 23 ds) : ∃ a c : Nat, ds = xr2 a c ∧ a < 256 ∧ c < 256 := by
 rw [Shp] at h
 simp only [Tryz.underlying23, qzf] at h
 obtain ⟨_, _, rfl, h1, _, _, rfl, h2, rfl⟩ := h
 obtain ⟨a1, rfl, i1⟩ := xj6 h1
 obtain ⟨a2, rfl, i2⟩ := xj6 h2
 exact ⟨a1, a2, rfl, i1, i2⟩
theorem xoz (a c : Nat) : argS Tryz.prog 23 (xr2 a c) = .d (.agg [.int .u8 (a : Nat), .int .u8 (c : Nat)]) := by simp only [argS, Tryz.underlying23]; rfl
end Go.Proofs.YtkcdbcbpbolgkaaGreatDoor
namespace Go.Proofs.YtkcdbcbpbolgkaaGreatDoor
open Go.Abs
attribute [-go_sem] qgf
noncomputable section
set_option maxRecDepth 100000
set_option linter.defProp false
def d13d := cut Tryz.prog Tryz.f13 news [20, 42, 54, 63] [14, 15] true
@[go_sem] def E13d := ql d13d
def F13d := fnC d13d follows Tryz.func13
end
theorem xk0 {n ss k j : Nat} {b : Brk} (hn : NS n ss) (H : BI n ss k j b) (hk70 : k ≤ 70) (s : Int) :
  qg Tryz.prog 41 [.d (.ptr 0 0), .d (.int .i64 s)] (brO b) (.d (.int .i64 (qbn b s).2.1)) (afB b (qbn b s).1 (qbn b s).2.2) := by
 have hF : b.s.file.length ≤ 100000000 := by
  have h1 := H.st.file
  exact Nat.le_trans h1 (Nat.le_trans (Nat.mul_le_mul_right 70000 (show k + 401 ≤ 471 by omega)) (by decide))
 by_cases ho : (zx b.m s).2 = 0
 ·have hon := q1v H.mw ho
  refine quz b s H.mw.sm hon.mw.sm hF ?_
  obtain ⟨y, _, h1⟩ := hon.one
  rw [hon.changes H.mw, h1]; simp
 ·have h0 : (zx b.m s).1 = ⟨0, []⟩ := by
   revert ho
   unfold zx
   split
   ·intro _; rfl
   split
   ·intro _; rfl
   split
   ·intro _; rfl
   ·intro h; exact absurd rfl h
  refine quz b s H.mw.sm (by rw [h0]; exact ⟨by simp, by simp⟩) hF ?_
  rw [h0]
  unfold zy
  split
  ·simp
  split
  ·simp
  ·simp [qrz]
def qxu (n ss : Nat) (x : Brk × Int) (s : Bst) : Brk × Int :=
 if s.kind = 0 then ((zg x.1 s.p).1, x.2) else if s.kind = 1 then (wz x.1 (x.2 + s.n) n ss, x.2 + s.n) else if s.kind = 2 then ((qbn x.1 s.n).1, x.2) else x
def qco (n ss : Nat) (l : List Bst) : Brk × Int := l.foldl (qxu n ss) (j0 n ss, 0)
structure BstOk (x : Bst) : Prop where
 w : x.p.W
 sm : x.p.Sm
 n0 : 0 ≤ x.n
 n1 : x.n ≤ 1000
theorem qr8 (n ss : Nat) {l : List Bst} {i : Nat} (h : i < l.length) : qco n ss (l.take (i + 1)) = qxu n ss (qco n ss (l.take i)) l[i] := by
 rw [List.take_succ_eq_append_getElem h, qco, List.foldl_append]; rfl
theorem xr3 {n ss k : Nat} {x : Brk × Int} (hn : NS n ss) (H : BI n ss k k x.1) (hk : k ≤ 60) {s : Bst} (hs : BstOk s) : BI n ss (k + 1) (k + 1) (qxu n ss x s).1 := by
 unfold qxu
 split
 ·exact (H.recv hn (by omega) s.p hs.w).mono (Nat.le_refl _) (by omega)
 split
 ·exact (H.tick _).mono (by omega) (Nat.le_refl _)
 split
 ·exact (H.begin hn (by omega) s.n).mono (Nat.le_refl _) (by omega)
 ·exact H.mono (by omega) (by omega)
theorem xo0 {n ss : Nat} {x : Brk × Int} {s : Bst} (hs : BstOk s) : x.2 ≤ (qxu n ss x s).2 ∧ (qxu n ss x s).2 ≤ x.2 + 1000 := by
 have h0 := hs.n0
 have h1 := hs.n1
 unfold qxu
 split
 ·simp only; omega
 split
 ·simp only; omega
 split
 ·simp only; omega
 ·omega
theorem qxv {n ss : Nat} (hn : NS n ss) {l : List Bst} (hl : l.length ≤ 60) (hx : ∀ x ∈ l, BstOk x) : ∀ i, i ≤ l.length → BI n ss i i (qco n ss (l.take i)).1 ∧ 0 ≤ (qco n ss (l.take i)).2 ∧ (qco n ss (l.take i)).2 ≤ 1000 * (i : Int)
 | 0, _ => ⟨q7e hn, by simp [qco], by simp [qco]⟩
 | i + 1, h => by
  obtain ⟨h1, h2, h3⟩ := qxv hn hl hx i (by omega)
  have hs := hx _ (List.getElem_mem (show i < l.length by omega))
  rw [qr8 n ss (show i < l.length by omega)]
  have hnow := xo0 (n := n) (ss := ss) (x := qco n ss (l.take i)) hs
  exact ⟨xr3 hn h1 (by omega) hs, by omega, by push_cast; omega⟩
def qxw (l : List Bst) (b : Brk) (now : Int) (i : Nat) : St :=
 ⟨[(1, true, .d (.sl 11 (l.map qag))), (8, true, .d (.ptr 0 0)), (10, true, .d (.int .i64 now)), (11, true, .d (.int .i64 (i : Nat)))], [.row (qm b), stoO b.s 2, mapO b.s.m, qmO b.q, tmO b.t], [0], 1⟩
set_option maxRecDepth 10000 in
set_option maxHeartbeats 1000000 in
theorem xo1 (a c : Nat) (ha : a < 256) (hc : c < 256) (l : List Bst) (hl : l.length ≤ 40) (hx : ∀ x ∈ l, BstOk x) (n ss : Nat) (en : n = qdn a) (es : ss = qdn c) :
  qg Tryz.prog 13 [.d (.agg [.int .u8 (a : Nat), .int .u8 (c : Nat)]), .d (.sl 11 (l.map qag))] [] (.tup [.d (.ptr 0 0), .d (.int .i64 (qco n ss l).2)]) (brO (qco n ss l).1) := by
 have hn : NS n ss := by
  subst en; subst es
  unfold qdn
  exact ⟨by omega, by omega, by omega, by omega⟩
 have kn := xam a c ha hc
 rw [← en, ← es] at kn
 have hpos : posB (n : Int) (ss : Int) = true := by
  have h1 : n ≤ 4 := by rw [en]; unfold qdn; omega
  have h2 : ss ≤ 4 := by rw [es]; unfold qdn; omega
  have h3 := hn.n1
  have h4 := hn.s1
  have key : ∀ x y : Fin 5, 1 ≤ x.val → 1 ≤ y.val → posB (x.val : Int) (y.val : Int) = true := by decide
  exact key ⟨n, by omega⟩ ⟨ss, by omega⟩ h3 h4
 have k0 := xfn n ss hpos
 simp only [brO, qm, stoO, mapO, qmO, tmO] at k0
 refine F13d.goT ?_
 try (refine ev ?_; try exact True.intro)
 (repeat (with_reducible refine ob ?_)); first | refine cl F37 (kn) ?_ | refine clF F37 (kn) (fun _ => by (refine ev2 @qe.eq_1 @xe.eq_1 ?_; try exact True.intro)) ?_
 try (refine ev ?_; try exact True.intro)
 refine clT [1, 2, 3, 4, 5] F45n k0 ?_
 try (refine ev ?_; try exact True.intro)
 refine qbc [5, 0, 1, 2, 3, 4] [.row (xn (j0 n ss) 208), stoO (j0 n ss).s 2, mapO (j0 n ss).s.m, qmO (j0 n ss).q, tmO (j0 n ss).t, .row [.d (.int .u8 (a : Nat)), .d (.int .u8 (c : Nat))]] ?_ (by try (refine ev5 @xn.eq_1 @mapO.eq_1 @stoO.eq_1 @qmO.eq_1 @tmO.eq_1 ?_; try exact True.intro)) (hp := rfl)
 refine pu ?_
 refine qk (fun i : { i : Nat // i ≤ l.length } => qxw l (qco n ss (l.take i.val)).1 (qco n ss (l.take i.val)).2 i.val) (fun i => l.length - i.val) ⟨0, Nat.zero_le _⟩ ?_ (fun i => ?_)
 ·try simp only [qxw, qco, List.take_zero, List.foldl_nil, qm, xn, mapO, stoO, qmO, tmO, Int.ofNat_zero, go_sem, Nat.reduceAdd, Nat.reduceMul, Nat.reduceSub, Nat.reduceEqDiff, Nat.reduceLT, Nat.reduceLeDiff, Nat.reduceBEq, reduceIte, reduceCtorEq, Int.reduceAdd, Int.reduceLT, Int.reduceLE, Int.reduceGT, Int.reduceGE, Int.reduceEq, Int.reduceNe, Int.reduceBEq, Int.reduceBNe, Int.reduceToNat, Int.reduceNeg]
 obtain ⟨i, hi⟩ := i
 obtain ⟨HI, hn0, hn1⟩ := qxv hn (by omega) hx i hi
 have hsuc := fun h => qr8 n ss (l := l) (i := i) h
 dsimp only
 generalize hX : qco n ss (l.take i) = X at HI hn0 hn1 hsuc ⊢
 obtain ⟨b, now⟩ := X
 simp only at HI hn0 hn1
 try (refine ev6 @qxw.eq_1 @qm.eq_1 @stoO.eq_1 @mapO.eq_1 @qmO.eq_1 @tmO.eq_1 ?_; try exact True.intro)
 refine xq _ (fun h => ?_) (fun h => ?_)
 ·have hil : i < l.length := by simpa using h
  have hs := hx _ (List.getElem_mem hil)
  have hsu := hsuc hil
  have hs0 := hs.n0
  have hs1 := hs.n1
  have kr := qlo hn HI (by omega) l[i].p hs.sm hs.w
  have kt := qjw hn HI (by omega) (by omega) (now + l[i].n)
  have kb := xk0 hn HI (by omega) l[i].n
  have hw : IntKind.i64.wrap (now + l[i].n) = now + l[i].n := wrap_i64 (by omega) (by omega)
  unfold qxu at hsu
  try simp only [qi qag l hil, qag, go_sem, Nat.reduceAdd, Nat.reduceMul, Nat.reduceSub, Nat.reduceEqDiff, Nat.reduceLT, Nat.reduceLeDiff, Nat.reduceBEq, reduceIte, reduceCtorEq, Int.reduceAdd, Int.reduceLT, Int.reduceLE, Int.reduceGT, Int.reduceGE, Int.reduceEq, Int.reduceNe, Int.reduceBEq, Int.reduceBNe, Int.reduceToNat, Int.reduceNeg]
  (repeat (with_reducible refine ob ?_))
  refine xq _ (fun h0 => ?_) (fun h0 => ?_)
  ·rw [if_pos (by simpa using h0)] at hsu
   try simp only [qi qag l hil, qag, go_sem, Nat.reduceAdd, Nat.reduceMul, Nat.reduceSub, Nat.reduceEqDiff, Nat.reduceLT, Nat.reduceLeDiff, Nat.reduceBEq, reduceIte, reduceCtorEq, Int.reduceAdd, Int.reduceLT, Int.reduceLE, Int.reduceGT, Int.reduceGE, Int.reduceEq, Int.reduceNe, Int.reduceBEq, Int.reduceBNe, Int.reduceToNat, Int.reduceNeg]
   (repeat (with_reducible refine ob ?_))
   simp only [brO, qm, stoO, mapO, qmO, tmO, qe] at kr
   generalize zg b l[i].p = R at kr hsu
   obtain ⟨b1, e1, cc⟩ := R
   simp only [afB, qm, stoO, mapO, qmO, tmO] at kr hsu
   cases cc
   ·refine clT [0, 1, 2, 3, 4, 5] F21d kr ?_
    try (refine ev ?_; try exact True.intro)
    refine pu ?_
    try (refine ev ?_; try exact True.intro)
    refine ⟨⟨i + 1, hil⟩, ?_, by dsimp only; omega⟩
    simp only [hsu]
    try simp only [qxw, qm, xn, qdo, stoO, mapO, qmO, tmO, qf (show i < 9223372036854775807 by omega), go_sem, Nat.reduceAdd, Nat.reduceMul, Nat.reduceSub, Nat.reduceEqDiff, Nat.reduceLT, Nat.reduceLeDiff, Nat.reduceBEq, reduceIte, reduceCtorEq, Int.reduceAdd, Int.reduceLT, Int.reduceLE, Int.reduceGT, Int.reduceGE, Int.reduceEq, Int.reduceNe, Int.reduceBEq, Int.reduceBNe, Int.reduceToNat, Int.reduceNeg]
   ·refine clT [0, 1, 2, 3, 4, 5] F21d kr ?_
    try (refine ev ?_; try exact True.intro)
    refine qbc [0, 1, 5, 3, 4, 2] [.row (xn b1 288), stoO b1.s 2, mapO b1.s.m, qmO b1.q, tmO b1.t, mapO b.s.m] ?_ (by try (refine ev5 @xn.eq_1 @mapO.eq_1 @stoO.eq_1 @qmO.eq_1 @tmO.eq_1 ?_; try exact True.intro)) (hp := rfl)
    refine pu ?_
    try (refine ev ?_; try exact True.intro)
    refine ⟨⟨i + 1, hil⟩, ?_, by dsimp only; omega⟩
    simp only [hsu]
    try simp only [qxw, qm, xn, qdo, stoO, mapO, qmO, tmO, qf (show i < 9223372036854775807 by omega), go_sem, Nat.reduceAdd, Nat.reduceMul, Nat.reduceSub, Nat.reduceEqDiff, Nat.reduceLT, Nat.reduceLeDiff, Nat.reduceBEq, reduceIte, reduceCtorEq, Int.reduceAdd, Int.reduceLT, Int.reduceLE, Int.reduceGT, Int.reduceGE, Int.reduceEq, Int.reduceNe, Int.reduceBEq, Int.reduceBNe, Int.reduceToNat, Int.reduceNeg]
  rw [if_neg (by simpa using h0)] at hsu
  try (refine ev ?_; try exact True.intro)
  refine xq _ (fun h1 => ?_) (fun h1 => ?_)
  ·rw [if_pos (by simpa using h1)] at hsu
   try simp only [qi qag l hil, qag, hw, go_sem, Nat.reduceAdd, Nat.reduceMul, Nat.reduceSub, Nat.reduceEqDiff, Nat.reduceLT, Nat.reduceLeDiff, Nat.reduceBEq, reduceIte, reduceCtorEq, Int.reduceAdd, Int.reduceLT, Int.reduceLE, Int.reduceGT, Int.reduceGE, Int.reduceEq, Int.reduceNe, Int.reduceBEq, Int.reduceBNe, Int.reduceToNat, Int.reduceNeg]
   (repeat (with_reducible refine ob ?_))
   simp only [brO, tkO, qm, qdo, stoO, mapO, qmO, tmO] at kt
   generalize qad b (now + l[i].n) n ss = O at kt
   generalize wz b (now + l[i].n) n ss = b1 at kt hsu
   refine clT [0, 1, 2, 3, 4, 5] F14t kt ?_
   try (refine ev ?_; try exact True.intro)
   refine qbc [0, 1, 2, 3, 5, 4] [.row (xn b1 (384 + List.idxOf 0 [1, 0])), stoO b1.s 2, mapO b1.s.m, qmO b1.q, tmO b1.t, tmO b.t] ?_ (by try (refine ev5 @xn.eq_1 @mapO.eq_1 @stoO.eq_1 @qmO.eq_1 @tmO.eq_1 ?_; try exact True.intro)) (hp := rfl)
   refine pu ?_
   try (refine ev ?_; try exact True.intro)
   refine ⟨⟨i + 1, hil⟩, ?_, by dsimp only; omega⟩
   simp only [hsu]
   try simp only [qxw, qm, xn, qdo, stoO, mapO, qmO, tmO, qf (show i < 9223372036854775807 by omega), go_sem, Nat.reduceAdd, Nat.reduceMul, Nat.reduceSub, Nat.reduceEqDiff, Nat.reduceLT, Nat.reduceLeDiff, Nat.reduceBEq, reduceIte, reduceCtorEq, Int.reduceAdd, Int.reduceLT, Int.reduceLE, Int.reduceGT, Int.reduceGE, Int.reduceEq, Int.reduceNe, Int.reduceBEq, Int.reduceBNe, Int.reduceToNat, Int.reduceNeg]
  rw [if_neg (by simpa using h1)] at hsu
  try (refine ev ?_; try exact True.intro)
  refine xq _ (fun h2 => ?_) (fun h2 => ?_)
  ·rw [if_pos (by simpa using h2)] at hsu
   try simp only [qi qag l hil, qag, go_sem, Nat.reduceAdd, Nat.reduceMul, Nat.reduceSub, Nat.reduceEqDiff, Nat.reduceLT, Nat.reduceLeDiff, Nat.reduceBEq, reduceIte, reduceCtorEq, Int.reduceAdd, Int.reduceLT, Int.reduceLE, Int.reduceGT, Int.reduceGE, Int.reduceEq, Int.reduceNe, Int.reduceBEq, Int.reduceBNe, Int.reduceToNat, Int.reduceNeg]
   (repeat (with_reducible refine ob ?_))
   simp only [brO, qm, stoO, mapO, qmO, tmO, qe] at kb
   generalize qbn b l[i].n = R at kb hsu
   obtain ⟨b1, e1, cc⟩ := R
   simp only [afB, qm, stoO, mapO, qmO, tmO] at kb hsu
   cases cc
   ·refine clT [0, 1, 2, 3, 4, 5] F41d kb ?_
    try (refine ev ?_; try exact True.intro)
    refine pu ?_
    try (refine ev ?_; try exact True.intro)
    refine ⟨⟨i + 1, hil⟩, ?_, by dsimp only; omega⟩
    simp only [hsu]
    try simp only [qxw, qm, xn, qdo, stoO, mapO, qmO, tmO, qf (show i < 9223372036854775807 by omega), go_sem, Nat.reduceAdd, Nat.reduceMul, Nat.reduceSub, Nat.reduceEqDiff, Nat.reduceLT, Nat.reduceLeDiff, Nat.reduceBEq, reduceIte, reduceCtorEq, Int.reduceAdd, Int.reduceLT, Int.reduceLE, Int.reduceGT, Int.reduceGE, Int.reduceEq, Int.reduceNe, Int.reduceBEq, Int.reduceBNe, Int.reduceToNat, Int.reduceNeg]
   ·refine clT [0, 1, 2, 3, 4, 5] F41d kb ?_
    try (refine ev ?_; try exact True.intro)
    refine qbc [0, 1, 5, 3, 4, 2] [.row (xn b1 352), stoO b1.s 2, mapO b1.s.m, qmO b1.q, tmO b1.t, mapO b.s.m] ?_ (by try (refine ev5 @xn.eq_1 @mapO.eq_1 @stoO.eq_1 @qmO.eq_1 @tmO.eq_1 ?_; try exact True.intro)) (hp := rfl)
    refine pu ?_
    try (refine ev ?_; try exact True.intro)
    refine ⟨⟨i + 1, hil⟩, ?_, by dsimp only; omega⟩
    simp only [hsu]
    try simp only [qxw, qm, xn, qdo, stoO, mapO, qmO, tmO, qf (show i < 9223372036854775807 by omega), go_sem, Nat.reduceAdd, Nat.reduceMul, Nat.reduceSub, Nat.reduceEqDiff, Nat.reduceLT, Nat.reduceLeDiff, Nat.reduceBEq, reduceIte, reduceCtorEq, Int.reduceAdd, Int.reduceLT, Int.reduceLE, Int.reduceGT, Int.reduceGE, Int.reduceEq, Int.reduceNe, Int.reduceBEq, Int.reduceBNe, Int.reduceToNat, Int.reduceNeg]
  rw [if_neg (by simpa using h2)] at hsu
  try (refine ev ?_; try exact True.intro)
  refine pu ?_
  try (refine ev ?_; try exact True.intro)
  refine ⟨⟨i + 1, hil⟩, ?_, by dsimp only; omega⟩
  simp only [hsu]
  try simp only [qxw, qm, xn, qdo, stoO, mapO, qmO, tmO, qf (show i < 9223372036854775807 by omega), go_sem, Nat.reduceAdd, Nat.reduceMul, Nat.reduceSub, Nat.reduceEqDiff, Nat.reduceLT, Nat.reduceLeDiff, Nat.reduceBEq, reduceIte, reduceCtorEq, Int.reduceAdd, Int.reduceLT, Int.reduceLE, Int.reduceGT, Int.reduceGE, Int.reduceEq, Int.reduceNe, Int.reduceBEq, Int.reduceBNe, Int.reduceToNat, Int.reduceNeg]
 ·have hie : i = l.length := by simp at h; omega
  subst hie
  rw [List.take_length] at hX
  try (refine ev1 @hX ?_; try exact True.intro)
  refine pu ?_
  try (refine ev6 @brO.eq_1 @qm.eq_1 @stoO.eq_1 @mapO.eq_1 @qmO.eq_1 @tmO.eq_1 ?_; try exact True.intro)
end Go.Proofs.YtkcdbcbpbolgkaaGreatDoor
namespace Go.Proofs.YtkcdbcbpbolgkaaGreatDoor
open Go.Abs
section
variable {n ss k j : Nat} {b : Brk}
def prOf (x : Nat × Nat × Nat) : Pr := ⟨x.1, x.2.1, x.2.2⟩
def itP (b : Brk) (x : Nat × Nat × Nat) : List (Tk × OutM) := if (x9 (b.queue (prOf x))).2 = true then [(⟨prOf x, (x9 (b.queue (prOf x))).1.seq⟩, ⟨x.2.2, (x9 (b.queue (prOf x))).1⟩)] else []
def itO (y : Pk) : Tk × OutM := (⟨⟨y.sess, y.from_, -1⟩, y.label⟩, ⟨y.from_, y⟩)
def items (b : Brk) (n ss : Nat) : List (Tk × OutM) := (x6 n ss).flatMap (itP b) ++ (xj b.m).map itO
def valT (b : Brk) (t : Tk) (now : Int) : TryM := if qm1 b t now = true then qr7 (qcj b t) now else qcj b t
def q14 (b : Brk) (now : Int) (a : MapM Tk TryM × List OutM) (i : Tk × OutM) : MapM Tk TryM × List OutM := (a.1.put i.1 (valT b i.1 now), if qm1 b i.1 now = true then a.2 ++ [i.2] else a.2)
theorem q15 (a : MapM Tk TryM × List OutM) (t : Tk) (now : Int) (x : OutM) : qfs b a.1 t now a.2 x = q14 b now a (t, x) := by
 unfold qfs q14 valT
 split <;> rfl
theorem qu5 {α β γ : Type} (f : γ → β → γ) (g : α → List β) (h : γ → α → γ) (hh : ∀ a x, h a x = (g x).foldl f a) : ∀ (l : List α) (a : γ), l.foldl h a = (l.flatMap g).foldl f a
 | [], _ => rfl
 | x :: l, a => by rw [List.foldl_cons, List.flatMap_cons, List.foldl_append, hh, qu5 f g h hh l]
theorem qu6 (now : Int) : accO b now (accT b now (x6 n ss)) (xj b.m) = (items b n ss).foldl (q14 b now) (⟨[], 0⟩, b.p) := by
 unfold items
 rw [List.foldl_append, List.foldl_map]
 have h1 : accT b now (x6 n ss) = ((x6 n ss).flatMap (itP b)).foldl (q14 b now) (⟨[], 0⟩, b.p) := by
  unfold accT
  refine qu5 _ _ _ (fun a x => ?_) _ _
  unfold q11 itP
  show (if (x9 (b.queue (prOf x))).2 = true then _ else a) = _
  split
  ·rw [List.foldl_cons, List.foldl_nil, ← q15]; rfl
  ·rfl
 rw [h1]
 unfold accO
 congr 1
 funext a y
 exact q15 a _ now _
theorem q16 (now : Int) : ∀ (l : List (Tk × OutM)) (a : MapM Tk TryM × List OutM), (l.foldl (q14 b now) a).2 = a.2 ++ (l.filter fun i => qm1 b i.1 now).map (·.2)
 | [], a => by simp
 | i :: l, a => by
  rw [List.foldl_cons, q16 now l, List.filter_cons]
  unfold q14
  split <;> simp_all
theorem q17 (now : Int) (t : Tk) : ∀ (l : List (Tk × OutM)) (a : MapM Tk TryM × List OutM), (l.foldl (q14 b now) a).1.get t = if t ∈ l.map (·.1) then some (valT b t now) else a.1.get t
 | [], a => by simp
 | i :: l, a => by
  rw [List.foldl_cons, q17 now t l]
  simp only [q14, MapM.get_put, List.map_cons, List.mem_cons]
  by_cases h : t ∈ l.map (·.1)
  ·simp [h]
  ·simp only [h, if_false, or_false]
   by_cases h2 : t = i.1
   ·subst h2; simp
   ·simp [h2]
theorem q7g (b : Brk) (now : Int) (n ss : Nat) : qad b now n ss = b.p ++ ((items b n ss).filter fun i => qm1 b i.1 now).map (·.2) := by
 unfold qad
 rw [qu6, q16]
theorem xfw (b : Brk) (now : Int) (n ss : Nat) (t : Tk) : (wz b now n ss).t.get t = if t ∈ (items b n ss).map (·.1) then some (valT b t now) else none := by
 unfold wz
 simp only
 rw [qu6, q17]
 rfl
theorem qr9 {i : Tk × OutM} : i ∈ items b n ss ↔ (∃ x ∈ x6 n ss, (x9 (b.queue (prOf x))).2 = true ∧ i = (⟨prOf x, (x9 (b.queue (prOf x))).1.seq⟩, ⟨x.2.2, (x9 (b.queue (prOf x))).1⟩)) ∨ ∃ y ∈ xj b.m, i = itO y := by
 unfold items
 rw [List.mem_append, List.mem_flatMap, List.mem_map]
 constructor
 ·rintro (⟨x, hx, hi⟩ | ⟨y, hy, rfl⟩)
  ·unfold itP at hi
   split at hi
   ·rename_i h
    exact .inl ⟨x, hx, h, by simpa using hi⟩
   ·cases hi
  ·exact .inr ⟨y, hy, rfl⟩
 ·rintro (⟨x, hx, h, rfl⟩ | ⟨y, hy, rfl⟩)
  ·exact .inl ⟨x, hx, by unfold itP; rw [if_pos h]; simp⟩
  ·exact .inr ⟨y, hy, rfl⟩
theorem q47 {m : Mg} {y : Pk} (h : y ∈ xj m) : y.kind = 3 := by
 unfold xj at h
 split at h
 ·unfold ws at h
  rw [List.mem_flatMap] at h
  obtain ⟨i, _, h⟩ := h
  unfold qq7 qmf at h
  rw [List.mem_flatMap] at h
  obtain ⟨r, _, h⟩ := h
  unfold qjl at h
  split at h
  ·cases h
  ·simp only [List.mem_cons, List.not_mem_nil, or_false] at h
   subst h; rfl
 ·cases h
theorem q18 {q : Qu} (h : (x9 q).2 = true) : ∃ p l, q.items = p :: l ∧ x9 q = (p, true) := by
 unfold x9 at h ⊢
 split at h
 ·cases h
 ·rename_i p l hi
  exact ⟨p, l, hi, rfl⟩
theorem qo0 (H : BI n ss k j b) {x : Pr} (h : (x9 (b.queue x)).2 = true) : vt (x9 (b.queue x)).1 = true ∧ (x9 (b.queue x)).1.key = x ∧ (x9 (b.queue x)).1.seq = (b.queue x).cons + 1 ∧ PrOk n ss x := by
 obtain ⟨p, l, hi, hq⟩ := q18 h
 have hv := (y7 _).1 (H.qv x)
 have h0 : 0 < (b.queue x).items.length := by rw [hi]; simp
 have hit := hv.item 0 h0
 have he : (b.queue x).items[0] = p := by simp [hi]
 rw [he] at hit
 have ha := H.qa x p (by rw [hi]; simp)
 rw [hq]
 refine ⟨hit.1, by unfold Pk.key; rw [ha.1, ha.2.1, ha.2.2], by have := hit.2.2; simp only; omega, ?_⟩
 refine Classical.byContradiction fun hno => ?_
 have := H.kq x hno
 unfold Brk.queue at hi
 rw [this] at hi
 simp [noQ] at hi
structure BD (now : Int) (b : Brk) : Prop where
 pk : ∀ o ∈ b.p, o.p.kind ≠ 1
 nx : ∀ t y, b.t.get t = some y → y.next ≤ now + 64
theorem q48 (c : Int) : 0 ≤ qd4 c ∧ qd4 c ≤ 64 := by
 unfold qd4
 repeat' split
 all_goals omega
theorem qsa {p : Pk} (hk : p.kind = 1) (hv : qj p = true) : qha p = (vl p, 0) := by
 unfold qha
 rw [if_neg]
 simp [hk, hv]
theorem xr4 (r s : Int) : BD 0 (j0 r s) := ⟨fun o ho => by simp [j0] at ho, fun t y h => by simp [j0, MapM.get] at h⟩
theorem BD.recv {now : Int} (hn : NS n ss) (H : BI n ss k j b) (hk : k ≤ 70) (h : BD now b) (p : Pk) (hw : p.W) : BD now (zg b p).1 := by
 have hr := qgd hn H hk p hw
 have add : qj p = true → p.kind = 1 → ∀ o ∈ b.p ++ [(⟨p.from_, (qha p).1⟩ : OutM)], o.p.kind ≠ 1 := fun hv hk o ho => by
  rcases List.mem_append.1 ho with ho | ho
  ·exact h.pk o ho
  ·simp only [List.mem_cons, List.not_mem_nil, or_false] at ho
   subst ho
   rw [qsa hk hv]
   show (2 : Int) ≠ 1
   decide
 generalize zg b p = R at hr
 cases hr with
 | no e _ _ => exact h
 | dup hk _ _ hv _ => exact ⟨add hv hk, h.nx⟩
 | data _ _ hk _ _ hv _ => exact ⟨add hv hk, h.nx⟩
 | ack _ _ _ _ _ _ => exact ⟨h.pk, h.nx⟩
 | rep _ _ _ _ => exact ⟨h.pk, h.nx⟩
theorem BD.begin {now : Int} (hn : NS n ss) (H : BI n ss k j b) (hk : k ≤ 70) (h : BD now b) (s : Int) : BD now (qbn b s).1 := by
 rcases qln hn H hk s with ⟨e, _, he⟩ | ⟨s', _, _, _, he, _⟩
 ·rw [he]; exact h
 ·rw [he]; exact ⟨h.pk, h.nx⟩
theorem xk1 {now now' : Int} (h : BD now b) (h0 : 0 ≤ now') (h1 : now' ≤ 1000000000) (hle : now ≤ now') (t : Tk) : (valT b t now').next ≤ now' + 64 := by
 unfold valT
 have hi := q48 ((qcj b t).count + 1)
 split
 ·simp only [qr7]
  rw [wrap_i64 (by omega) (by omega)]; omega
 ·rename_i hd
  unfold qm1 at hd
  cases hg : b.t.get t with
  | none => rw [hg] at hd; simp at hd
  | some y =>
   have := h.nx t y hg
   unfold qcj
   rw [hg]
   simp only [Option.getD_some]; omega
theorem BD.tick {now now' : Int} (h : BD now b) (h0 : 0 ≤ now') (h1 : now' ≤ 1000000000) (hle : now ≤ now') : BD now' (wz b now' n ss) := by
 refine ⟨fun o ho => by simp [wz] at ho, fun t y hy => ?_⟩
 rw [xfw] at hy
 split at hy
 ·cases hy; exact xk1 h h0 h1 hle t
 ·cases hy
theorem BD.mono {now now' : Int} (h : BD now b) (hle : now ≤ now') : BD now' b := ⟨h.pk, fun t y hy => by have := h.nx t y hy; omega⟩
end
end Go.Proofs.YtkcdbcbpbolgkaaGreatDoor
namespace Go.Proofs.YtkcdbcbpbolgkaaGreatDoor
open Go.Abs
section
variable {n ss k j : Nat} {b : Brk} {p : Pk}
end
end Go.Proofs.YtkcdbcbpbolgkaaGreatDoor
namespace Go.Proofs.YtkcdbcbpbolgkaaGreatDoor
open Go.Abs
section
variable {n ss k j : Nat} {b : Brk}
theorem q7h (H : BI n ss k j b) (hp : ∀ o ∈ b.p, o.p.kind ≠ 1) {now : Int} {o : OutM} (ho : o ∈ qad b now n ss) (h1 : o.p.kind = 1) : x9 (b.queue o.p.key) = (o.p, true) ∧ o.to = o.p.to ∧ PrOk n ss o.p.key ∧ vt o.p = true := by
 rw [q7g] at ho
 rcases List.mem_append.1 ho with ho | ho
 ·exact absurd h1 (hp o ho)
 ·obtain ⟨i, hi, rfl⟩ := List.mem_map.1 ho
  rcases qr9.1 (List.mem_filter.1 hi).1 with ⟨x, hx, hf, rfl⟩ | ⟨y, hy, rfl⟩
  ·obtain ⟨f1, f2, f3, f4⟩ := qo0 H hf
   simp only
   refine ⟨?_, ?_, ?_, f1⟩
   ·rw [f2, ← hf]
   ·have := congrArg Pr.t f2
    simp only [Pk.key, prOf] at this
    exact this.symm
   ·rw [f2]; exact f4
  ·have := q47 hy
   simp only [itO] at h1
   omega
structure Qui (n ss : Nat) (now0 : Int) (t : Nat) (b : Brk) : Prop where
 q1 : t = 0 ∨ b.p = []
 q2 : ∀ x ∈ x6 n ss, (x9 (b.queue (prOf x))).2 = true → ∀ y, b.t.get ⟨prOf x, (x9 (b.queue (prOf x))).1.seq⟩ = some y → y.next ≤ now0 + 64
 q3 : t = 0 ∨ ∀ x ∈ x6 n ss, (x9 (b.queue (prOf x))).2 = true → ∃ y, b.t.get ⟨prOf x, (x9 (b.queue (prOf x))).1.seq⟩ = some y ∧ now0 + (t : Int) < y.next
theorem xk2 {now0 : Int} (h : BD now0 b) : Qui n ss now0 0 b := ⟨.inl rfl, fun x hx hf y hy => h.nx _ y hy, .inl rfl⟩
theorem xk3 (H : BI n ss k j b) {now0 : Int} {t : Nat} (h : Qui n ss now0 t b) (hno : ∀ o ∈ qad b (now0 + (t : Int) + 1) n ss, o.p.kind ≠ 1) : Qui n ss now0 (t + 1) (wz b (now0 + (t : Int) + 1) n ss) := by
 have key : ∀ x ∈ x6 n ss, (x9 (b.queue (prOf x))).2 = true → ∃ y, b.t.get ⟨prOf x, (x9 (b.queue (prOf x))).1.seq⟩ = some y ∧ (wz b (now0 + (t : Int) + 1) n ss).t.get ⟨prOf x, (x9 (b.queue (prOf x))).1.seq⟩ = some y ∧ now0 + (t : Int) + 1 < y.next := by
  intro x hx hf
  have hit : ((⟨prOf x, (x9 (b.queue (prOf x))).1.seq⟩, ⟨x.2.2, (x9 (b.queue (prOf x))).1⟩) : Tk × OutM) ∈ items b n ss := qr9.2 (.inl ⟨x, hx, hf, rfl⟩)
  have hdue : qm1 b ⟨prOf x, (x9 (b.queue (prOf x))).1.seq⟩ (now0 + (t : Int) + 1) = false := by
   cases hd : qm1 b ⟨prOf x, (x9 (b.queue (prOf x))).1.seq⟩ (now0 + (t : Int) + 1) with
   | false => rfl
   | true =>
    refine absurd ?_ (hno ⟨x.2.2, (x9 (b.queue (prOf x))).1⟩ ?_)
    ·exact (jp (qo0 H hf).1).1
    ·rw [q7g]
     exact List.mem_append_right _ (List.mem_map.2 ⟨_, List.mem_filter.2 ⟨hit, hd⟩, rfl⟩)
  have hd2 := hdue
  unfold qm1 at hd2
  cases hg : b.t.get ⟨prOf x, (x9 (b.queue (prOf x))).1.seq⟩ with
  | none => rw [hg] at hd2; simp at hd2
  | some y =>
   have hy : qcj b ⟨prOf x, (x9 (b.queue (prOf x))).1.seq⟩ = y := by unfold qcj; rw [hg]; rfl
   rw [hg, hy] at hd2
   simp only [Option.isSome_some, Bool.not_true, Bool.false_or, decide_eq_false_iff_not] at hd2
   refine ⟨y, rfl, ?_, by omega⟩
   rw [xfw, if_pos (List.mem_map.2 ⟨_, hit, rfl⟩)]
   unfold valT
   rw [hdue, hy]; simp
 refine ⟨.inr rfl, fun x hx hf y hy => ?_, .inr fun x hx hf => ?_⟩
 ·obtain ⟨y', h1, h2, h3⟩ := key x hx hf
  have e : y' = y := by
   have : (wz b (now0 + (t : Int) + 1) n ss).t.get ⟨prOf x, (x9 (b.queue (prOf x))).1.seq⟩ = some y := hy
   rw [h2] at this; exact Option.some.inj this
  subst e
  exact h.q2 x hx hf y' h1
 ·obtain ⟨y', h1, h2, h3⟩ := key x hx hf
  exact ⟨y', h2, by push_cast; omega⟩
theorem xo2 {now0 : Int} (h : Qui n ss now0 65 b) : b.p = [] ∧ ∀ x ∈ x6 n ss, (x9 (b.queue (prOf x))).2 = false := by
 refine ⟨h.q1.resolve_left (by decide), fun x hx => ?_⟩
 cases hf : (x9 (b.queue (prOf x))).2 with
 | false => rfl
 | true =>
  obtain ⟨y, h1, h2⟩ := (h.q3.resolve_left (by decide)) x hx hf
  have := h.q2 x hx hf y h1
  omega
theorem xk4 (hp : b.p = []) (hq : ∀ x ∈ x6 n ss, (x9 (b.queue (prOf x))).2 = false) {now : Int} (h : BD now b) : (qad b (now + 65) n ss).length = (xj b.m).length := by
 have hi : items b n ss = (xj b.m).map itO := by
  unfold items
  rw [List.flatMap_eq_nil_iff.2 fun x hx => by unfold itP; rw [if_neg (by rw [hq x hx]; exact Bool.false_ne_true)], List.nil_append]
 rw [q7g, hp, List.nil_append, hi, List.length_map, List.filter_eq_self.2, List.length_map]
 intro i hi'
 unfold qm1
 cases hg : b.t.get i.1 with
 | none => rfl
 | some y =>
  have := h.nx _ y hg
  have hy : qcj b i.1 = y := by unfold qcj; rw [hg]; rfl
  rw [hy]
  simp only [Option.isSome_some, Bool.not_true, Bool.false_or, decide_eq_true_eq]
  omega
theorem xtr {p : Pk} (h : vt p = true) : (vl p).W ∧ (vl p).Sm := by
 have hv := jp h
 refine ⟨⟨fun x hx => ?_, fun x hx => by simp [vl] at hx, fun x hx => by simp [vl] at hx⟩, by simp [vl], by simp [vl]⟩
 simp only [vl, kx, List.mem_cons, List.not_mem_nil, or_false] at hx
 unfold I64
 omega
theorem q7i {p : Pk} (H : BI n ss k j b) (h : vt p = true) (hx : PrOk n ss p.key) : qbw b (vl p) = true := by
 obtain ⟨v1, v2, v3, v4, v5, v6, v7, v8, v9, v10, v11⟩ := jp h
 have h1 := H.ro
 have h2 := H.se
 have b2 := hx.s2
 have b3 := hx.f1
 have b4 := hx.t1
 simp only [Pk.key] at b2 b3 b4
 simp [qbw, qbj, qj, qep, vl, ack, qcx, role, bare]
 exact ⟨⟨⟨⟨⟨v5, decide_eq_true v6⟩, ⟨⟨⟨⟨v7, decide_eq_true v8⟩, v9, decide_eq_true v10⟩, v11⟩, v3⟩, decide_eq_true v4⟩, by omega⟩, by omega⟩, by omega⟩
theorem xfx (hn : NS n ss) (H : BI n ss k j b) (hk : k ≤ 70) {p : Pk} (hf : x9 (b.queue p.key) = (p, true)) (hm : vt p = true) (hx : PrOk n ss p.key) (hb : b.p = []) :
  (zg b (vl p)).2.1 = 0 ∧ zg (zg b (vl p)).1 (vl p) = ((zg b (vl p)).1, 21, false) ∧ BI n ss (k + 1) j (zg b (vl p)).1 ∧ (zg b (vl p)).1.p = [] ∧ (zg b (vl p)).1.t = b.t ∧
   ((zg b (vl p)).1.queue p.key).cons = p.seq := by
 have hok := q7i H hm hx
 have hq := (y7 _).1 (H.qv p.key)
 obtain ⟨p', l, hi, hq'⟩ := q18 (q := b.queue p.key) (by rw [hf])
 rw [hf] at hq'
 have hpp : p = p' := congrArg Prod.fst hq'
 subst hpp
 have h0 : 0 < (b.queue p.key).items.length := by rw [hi]; simp
 have hseq : p.seq = (b.queue p.key).cons + 1 := by
  have := (hq.item 0 h0).2.2
  simp only [hi, List.getElem_cons_zero] at this
  omega
 have hlo := hq.lo
 have hc : xo (b.queue p.key) p.seq = (⟨(b.queue p.key).acc, p.seq, (b.queue p.key).items.drop 1⟩, 0) := by
  unfold xo
  rw [if_neg (by simp [H.qv]), if_neg (by simp; omega), if_neg (by rw [hi]; simp; omega)]
 have hkey : (vl p).key = p.key := rfl
 have hs : (vl p).seq = p.seq := rfl
 have e2 : ¬ (vl p).kind = 1 := by show ¬ ((2 : Int) = 1); decide
 have e3 : (vl p).kind = 2 := rfl
 obtain ⟨s', c, e, H'⟩ := H.change hn hk hx (qd5 _ p.seq) (qr6 (H.qw _)) (qlm H)
 have hr : zg b (vl p) = ({ b with s := s', q := b.q.put p.key (xo (b.queue p.key) p.seq).1 }, 0, c) := by
  unfold zg
  rw [if_neg (by simp [hok]), if_neg e2, if_pos e3]
  unfold qs4
  rw [hkey, hs, if_neg (by rw [hc]; simp)]
  exact e
 have hqk : ({ b with s := s', q := b.q.put p.key (xo (b.queue p.key) p.seq).1 } : Brk).queue p.key = ⟨(b.queue p.key).acc, p.seq, (b.queue p.key).items.drop 1⟩ := by
  rw [qbf, if_pos rfl, hc]
 rw [hr]
 refine ⟨rfl, ?_, H', hb, rfl, by rw [hqk]⟩
 have hok2 : qbw ({ b with s := s', q := b.q.put p.key (xo (b.queue p.key) p.seq).1 }) (vl p) = true := q7i H' hm hx
 unfold zg
 rw [if_neg (by simp [hok2]), if_neg e2, if_pos e3]
 unfold qs4
 have hc2 : xo ⟨(b.queue p.key).acc, p.seq, (b.queue p.key).items.drop 1⟩ p.seq = (ja, 21) := by
  have hv2 := H'.qv p.key
  rw [hqk] at hv2
  unfold xo
  rw [if_neg (by rw [hv2]; exact Bool.false_ne_true), if_pos (by simp; omega)]
 rw [hkey, hs, hqk, hc2]
 simp
theorem xfy (H : BI n ss k j b) (hb : b.p = []) {p : Pk} (hm : vt p = true) (hc : (b.queue p.key).cons = p.seq) {now : Int} : ∀ o ∈ qad b now n ss, o.p ≠ p := by
 intro o ho he
 have h1 : o.p.kind = 1 := by rw [he]; exact (jp hm).1
 obtain ⟨f1, _, _, _⟩ := q7h H (by rw [hb]; simp) ho h1
 rw [he] at f1
 have := (qo0 H (x := p.key) (by rw [f1])).2.2.1
 rw [f1, hc] at this
 simp only at this
 omega
end
end Go.Proofs.YtkcdbcbpbolgkaaGreatDoor
namespace Go.Proofs.YtkcdbcbpbolgkaaGreatDoor
open Go.Abs
attribute [-go_sem] qgf
noncomputable section
set_option maxRecDepth 100000
set_option linter.defProp false
def d16d := cut Tryz.prog Tryz.f16 news [] [] true
@[go_sem] def E16d := ql d16d
def F16d := fnC d16d follows Tryz.func16
def d19d := cut Tryz.prog Tryz.f19 news [] [] true
@[go_sem] def E19d := ql d19d
def F19d := fnC d19d follows Tryz.func19
end
def SqB (b : Brk) (q : Qu) (i : { i : Nat // i ≤ q.items.length }) : St :=
 ⟨[(8, true, .d (.ptr 5 0)), (9, true, .d (.ptr 6 0)), (34, true, .d (.sl 9 (q.items.map qe))), (35, true, .d (.int .i64 q.items.length)), (36, true, .d (.int .i64 (i.val : Nat)))],
  [.row (qm b), stoO b.s 2, mapO b.s.m, qmO b.q, tmO b.t, .row [.d (.int .i64 0), .d (.int .i64 0), .d .nilsl], .row [.d (.int .i64 q.acc), .d (.int .i64 q.cons), .own 1 9 ((q.items.take i.val).map qe)]], [0, 1], 1⟩
set_option maxRecDepth 10000 in
theorem xap (b : Brk) (s f t : Int) (hq : (b.queue ⟨s, f, t⟩).Sm) :
  qg Tryz.prog 16 [.d (.ptr 0 0), .d (.int .i64 s), .d (.int .i64 f), .d (.int .i64 t)] (brO b) (.d (.agg (encQ (b.queue ⟨s, f, t⟩)))) (brO b) := by
 have hl := hq.1
 have hg : b.queue ⟨s, f, t⟩ = (b.q.get ⟨s, f, t⟩).getD noQ := rfl
 generalize b.queue ⟨s, f, t⟩ = q at hq hl hg ⊢
 refine F16d.go ?_
 try (refine ev6 @brO.eq_1 @qm.eq_1 @stoO.eq_1 @mapO.eq_1 @qmO.eq_1 @tmO.eq_1 ?_; try exact True.intro)
 (repeat (with_reducible refine ob ?_)); refine no_ ?_
 try (refine ev ?_; try exact True.intro)
 cases hc : b.q.get ⟨s, f, t⟩ with
 | none =>
  rw [hc] at hg
  subst hg
  try simp only [hc, lkQ, qmy, encQ, noQ, go_sem, Nat.reduceAdd, Nat.reduceMul, Nat.reduceSub, Nat.reduceEqDiff, Nat.reduceLT, Nat.reduceLeDiff, Nat.reduceBEq, reduceIte, reduceCtorEq, Int.reduceAdd, Int.reduceLT, Int.reduceLE, Int.reduceGT, Int.reduceGE, Int.reduceEq, Int.reduceNe, Int.reduceBEq, Int.reduceBNe, Int.reduceToNat, Int.reduceNeg]
  refine qk (fun _ : Unit => SqB b noQ ⟨0, Nat.zero_le _⟩) (fun _ => 0) () ?_ (fun _ => ?_)
  ·try simp only [SqB, noQ, qm, stoO, mapO, qmO, tmO, List.map_nil, List.take_nil, List.length_nil, Int.ofNat_zero, go_sem, Nat.reduceAdd, Nat.reduceMul, Nat.reduceSub, Nat.reduceEqDiff, Nat.reduceLT, Nat.reduceLeDiff, Nat.reduceBEq, reduceIte, reduceCtorEq, Int.reduceAdd, Int.reduceLT, Int.reduceLE, Int.reduceGT, Int.reduceGE, Int.reduceEq, Int.reduceNe, Int.reduceBEq, Int.reduceBNe, Int.reduceToNat, Int.reduceNeg]
  try simp only [SqB, noQ, qm, stoO, mapO, qmO, tmO, List.map_nil, List.take_nil, List.length_nil, Int.ofNat_zero, go_sem, Nat.reduceAdd, Nat.reduceMul, Nat.reduceSub, Nat.reduceEqDiff, Nat.reduceLT, Nat.reduceLeDiff, Nat.reduceBEq, reduceIte, reduceCtorEq, Int.reduceAdd, Int.reduceLT, Int.reduceLE, Int.reduceGT, Int.reduceGE, Int.reduceEq, Int.reduceNe, Int.reduceBEq, Int.reduceBNe, Int.reduceToNat, Int.reduceNeg]
  (repeat (with_reducible refine ob ?_)); refine no_ ?_
  try (refine ev ?_; try exact True.intro)
  refine pu ?_
  try simp only [encQ, noQ, Option.getD_none, List.map_nil, qm, stoO, mapO, qmO, tmO, go_sem, Nat.reduceAdd, Nat.reduceMul, Nat.reduceSub, Nat.reduceEqDiff, Nat.reduceLT, Nat.reduceLeDiff, Nat.reduceBEq, reduceIte, reduceCtorEq, Int.reduceAdd, Int.reduceLT, Int.reduceLE, Int.reduceGT, Int.reduceGE, Int.reduceEq, Int.reduceNe, Int.reduceBEq, Int.reduceBNe, Int.reduceToNat, Int.reduceNeg]
 | some q' =>
  rw [hc] at hg
  simp only [Option.getD_some] at hg
  subst hg
  try simp only [hc, lkQ, qmy, encQ, encQ, go_sem, Nat.reduceAdd, Nat.reduceMul, Nat.reduceSub, Nat.reduceEqDiff, Nat.reduceLT, Nat.reduceLeDiff, Nat.reduceBEq, reduceIte, reduceCtorEq, Int.reduceAdd, Int.reduceLT, Int.reduceLE, Int.reduceGT, Int.reduceGE, Int.reduceEq, Int.reduceNe, Int.reduceBEq, Int.reduceBNe, Int.reduceToNat, Int.reduceNeg]
  refine qk (SqB b q) (fun i => (q).items.length - i.val) ⟨0, Nat.zero_le _⟩ ?_ (fun i => ?_)
  ·try (refine ev7 @SqB.eq_1 @encQ.eq_1 @qm.eq_1 @stoO.eq_1 @mapO.eq_1 @qmO.eq_1 @tmO.eq_1 ?_; try exact True.intro)
  ·obtain ⟨i, hi⟩ := i
   try (refine ev6 @SqB.eq_1 @qm.eq_1 @stoO.eq_1 @mapO.eq_1 @qmO.eq_1 @tmO.eq_1 ?_; try exact True.intro)
   (repeat (with_reducible refine ob ?_)); refine xq _ (fun h => ?_) (fun h => ?_)
   ·have hil : i < (q).items.length := by simpa using h
    have hp := hq.2 _ (List.getElem_mem hil)
    have hp1 := hp.1
    have hp2 := hp.2
    try simp only [qi qe (q).items hil, qe, go_sem, Nat.reduceAdd, Nat.reduceMul, Nat.reduceSub, Nat.reduceEqDiff, Nat.reduceLT, Nat.reduceLeDiff, Nat.reduceBEq, reduceIte, reduceCtorEq, Int.reduceAdd, Int.reduceLT, Int.reduceLE, Int.reduceGT, Int.reduceGE, Int.reduceEq, Int.reduceNe, Int.reduceBEq, Int.reduceBNe, Int.reduceToNat, Int.reduceNeg]
    (repeat (with_reducible refine ob ?_))
    refine ⟨⟨i + 1, hil⟩, ?_, by dsimp only; omega⟩
    try simp only [SqB, qax qe (q).items hil, qe, qf (show i < 9223372036854775807 by omega), qm, stoO, mapO, qmO, tmO, go_sem, Nat.reduceAdd, Nat.reduceMul, Nat.reduceSub, Nat.reduceEqDiff, Nat.reduceLT, Nat.reduceLeDiff, Nat.reduceBEq, reduceIte, reduceCtorEq, Int.reduceAdd, Int.reduceLT, Int.reduceLE, Int.reduceGT, Int.reduceGE, Int.reduceEq, Int.reduceNe, Int.reduceBEq, Int.reduceBNe, Int.reduceToNat, Int.reduceNeg]
   ·have hil : i = (q).items.length := by simp at h; omega
    subst hil
    try (refine ev1 @List.take_length.{0} ?_; try exact True.intro)
    refine pu ?_
    try (refine ev6 @encQ.eq_1 @qm.eq_1 @stoO.eq_1 @mapO.eq_1 @qmO.eq_1 @tmO.eq_1 ?_; try exact True.intro)
def SmB (b : Brk) (i : { i : Nat // i ≤ b.m.ents.length }) : St :=
 ⟨[(2, true, .d (.ptr 5 0)), (3, true, .d (.ptr 6 0)), (19, true, .d (.sl 4 (b.m.ents.map qq))), (20, true, .d (.int .i64 b.m.ents.length)), (21, true, .d (.int .i64 (i.val : Nat)))],
  [.row (qm b), stoO b.s 2, mapO b.s.m, qmO b.q, tmO b.t, .row [.d (.int .i64 0), .d .nilsl], .row [.d (.int .i64 b.m.roles), .own 1 4 ((b.m.ents.take i.val).map qq)]], [0, 1], 1⟩
set_option maxRecDepth 10000 in
theorem q2a (b : Brk) (hm : b.m.Sm) : qg Tryz.prog 19 [.d (.ptr 0 0)] (brO b) (.d (.agg (qx b.m))) (brO b) := by
 have hl := hm.1
 refine F19d.go ?_
 try (refine ev6 @brO.eq_1 @qm.eq_1 @stoO.eq_1 @mapO.eq_1 @qmO.eq_1 @tmO.eq_1 ?_; try exact True.intro)
 (repeat (with_reducible refine ob ?_)); refine no_ ?_
 try (refine ev ?_; try exact True.intro)
 refine qk (SmB b) (fun i => b.m.ents.length - i.val) ⟨0, Nat.zero_le _⟩ ?_ (fun i => ?_)
 ·try (refine ev6 @SmB.eq_1 @qm.eq_1 @stoO.eq_1 @mapO.eq_1 @qmO.eq_1 @tmO.eq_1 ?_; try exact True.intro)
 ·obtain ⟨i, hi⟩ := i
  try (refine ev6 @SmB.eq_1 @qm.eq_1 @stoO.eq_1 @mapO.eq_1 @qmO.eq_1 @tmO.eq_1 ?_; try exact True.intro)
  (repeat (with_reducible refine ob ?_)); refine xq _ (fun h => ?_) (fun h => ?_)
  ·have hil : i < b.m.ents.length := by simpa using h
   have hp := hm.2 _ (List.getElem_mem hil)
   have hp1 := hp.1
   have hp2 := hp.2
   try simp only [qi qq b.m.ents hil, qq, go_sem, Nat.reduceAdd, Nat.reduceMul, Nat.reduceSub, Nat.reduceEqDiff, Nat.reduceLT, Nat.reduceLeDiff, Nat.reduceBEq, reduceIte, reduceCtorEq, Int.reduceAdd, Int.reduceLT, Int.reduceLE, Int.reduceGT, Int.reduceGE, Int.reduceEq, Int.reduceNe, Int.reduceBEq, Int.reduceBNe, Int.reduceToNat, Int.reduceNeg]
   (repeat (with_reducible refine ob ?_))
   refine ⟨⟨i + 1, hil⟩, ?_, by dsimp only; omega⟩
   try simp only [SmB, qax qq b.m.ents hil, qq, qf (show i < 9223372036854775807 by omega), qm, stoO, mapO, qmO, tmO, go_sem, Nat.reduceAdd, Nat.reduceMul, Nat.reduceSub, Nat.reduceEqDiff, Nat.reduceLT, Nat.reduceLeDiff, Nat.reduceBEq, reduceIte, reduceCtorEq, Int.reduceAdd, Int.reduceLT, Int.reduceLE, Int.reduceGT, Int.reduceGE, Int.reduceEq, Int.reduceNe, Int.reduceBEq, Int.reduceBNe, Int.reduceToNat, Int.reduceNeg]
  ·have hil : i = b.m.ents.length := by simp at h; omega
   subst hil
   try (refine ev1 @List.take_length.{0} ?_; try exact True.intro)
   refine pu ?_
   try (refine ev6 @qx.eq_1 @qm.eq_1 @stoO.eq_1 @mapO.eq_1 @qmO.eq_1 @tmO.eq_1 ?_; try exact True.intro)
end Go.Proofs.YtkcdbcbpbolgkaaGreatDoor
namespace Go.Proofs.YtkcdbcbpbolgkaaGreatDoor
open Go.Abs
attribute [-go_sem] qgf
noncomputable section
set_option maxRecDepth 100000
set_option linter.defProp false
def d11d := cut Tryz.prog Tryz.f11 news [8, 19, 21, 23, 25]
@[go_sem] def E11d := ql d11d
def F11d := fnC d11d follows Tryz.func11
end
set_option maxRecDepth 10000 in
theorem qu7 : qg Tryz.prog 11 [] [] (.d (.bool true)) [] := by
 obtain ⟨s', c, hr, H1⟩ := xan
 have H2 := H1.tick 0
 have H3 := H2.tick 7
 have k0 := xfn 2 1 (by decide)
 have kr := qlo xkw (q7e xkw) (by decide) (wl 1) xft xov
 have hb : j0 ((2 : Nat) : Int) ((1 : Nat) : Int) = j0 2 1 := rfl
 rw [hb, hr] at kr
 have k1 := qjw xkw H1 (by decide) (by decide) 0
 have k2 := qjw xkw H2 (by decide) (by decide) 7
 have k3 := qjw xkw H3 (by decide) (by decide) 8
 have km := q13
 have ke := qea (wl 1) (wl 1) xft.v xft.c
 simp only [qe, wl, decide_true] at ke
 have e1 : qad (awB s') 0 2 1 = [⟨0, vl (wl 1)⟩, ⟨1, wl 1⟩] := congrArg Prod.snd (xrz s')
 have e2 : qad (aw1 s') 7 2 1 = [] := congrArg Prod.snd (xr0 s')
 have e3 : qad (aw2 s') 8 2 1 = [⟨1, wl 1⟩] := xtl s'
 rw [e1] at k1
 rw [show wz (awB s') 0 2 1 = aw1 s' from rfl] at k1 k2
 rw [e2] at k2
 rw [show wz (aw1 s') 7 2 1 = aw2 s' from rfl] at k2
 rw [show wz (wz (awB s') 0 2 1) 7 2 1 = aw2 s' from rfl, e3] at k3
 generalize wz (aw2 s') 8 2 1 = b3 at k3
 clear H1 H2 H3 e1 e2 e3 hr hb
 generalize awB s' = b0 at kr k1
 generalize aw1 s' = b1 at k1 k2
 generalize aw2 s' = b2 at k2 k3
 simp only [brO, tkO, qm, qdo, stoO, mapO, qmO, tmO, List.map_cons, List.map_nil] at k0 kr k1 k2 k3
 refine F11d.go ?_
 try (refine ev ?_; try exact True.intro)
 refine clT [0, 1, 2, 3, 4] F45n k0 ?_
 try (refine ev ?_; try exact True.intro)
 (repeat (with_reducible refine ob ?_)); refine no_ ?_
 try (refine ev ?_; try exact True.intro)
 (repeat (with_reducible refine ob ?_)); first | refine cl F60 (km) ?_ | refine clF F60 (km) (fun _ => by (refine ev2 @qe.eq_1 @xe.eq_1 ?_; try exact True.intro)) ?_
 try (refine ev ?_; try exact True.intro)
 cases c
 ·simp only [afB, qm, stoO, mapO, qmO, tmO] at kr
  refine clT [0, 1, 2, 3, 4, 5] F21d kr ?_
  try (refine ev ?_; try exact True.intro)
  refine clT [0, 1, 2, 3, 4, 6] F14t k1 ?_
  try (refine ev ?_; try exact True.intro)
  refine clT [0, 1, 2, 3, 6, 7] F14t k2 ?_
  try (refine ev ?_; try exact True.intro)
  refine clT [0, 1, 2, 3, 7, 8] F14t k3 ?_
  try (refine ev5 @List.map_nil.{0,0} @xe.eq_1 @vl.eq_1 @qe.eq_1 @wl.eq_1 ?_; try exact True.intro)
  (repeat (with_reducible refine ob ?_)); first | refine cl F60 (km) ?_ | refine clF F60 (km) (fun _ => by (refine ev2 @qe.eq_1 @xe.eq_1 ?_; try exact True.intro)) ?_
  try (refine ev2 @qe.eq_1 @wl.eq_1 ?_; try exact True.intro)
  (repeat (with_reducible refine ob ?_)); first | refine cl F17 (ke) ?_ | refine clF F17 (ke) (fun _ => by (refine ev2 @qe.eq_1 @xe.eq_1 ?_; try exact True.intro)) ?_
  try (refine ev1 @List.map_nil.{0,0} ?_; try exact True.intro)
 ·simp only [afB, qm, stoO, mapO, qmO, tmO] at kr
  refine clT [0, 1, 2, 3, 4, 5] F21d kr ?_
  try (refine ev ?_; try exact True.intro)
  refine clT [0, 1, 5, 3, 4, 6] F14t k1 ?_
  try (refine ev ?_; try exact True.intro)
  refine clT [0, 1, 5, 3, 6, 7] F14t k2 ?_
  try (refine ev ?_; try exact True.intro)
  refine clT [0, 1, 5, 3, 7, 8] F14t k3 ?_
  try (refine ev5 @List.map_nil.{0,0} @xe.eq_1 @vl.eq_1 @qe.eq_1 @wl.eq_1 ?_; try exact True.intro)
  (repeat (with_reducible refine ob ?_)); first | refine cl F60 (km) ?_ | refine clF F60 (km) (fun _ => by (refine ev2 @qe.eq_1 @xe.eq_1 ?_; try exact True.intro)) ?_
  try (refine ev2 @qe.eq_1 @wl.eq_1 ?_; try exact True.intro)
  (repeat (with_reducible refine ob ?_)); first | refine cl F17 (ke) ?_ | refine clF F17 (ke) (fun _ => by (refine ev2 @qe.eq_1 @xe.eq_1 ?_; try exact True.intro)) ?_
  try (refine ev1 @List.map_nil.{0,0} ?_; try exact True.intro)
end Go.Proofs.YtkcdbcbpbolgkaaGreatDoor
namespace Go.Proofs.YtkcdbcbpbolgkaaGreatDoor
open Go.Abs
attribute [-go_sem] qgf
noncomputable section
set_option maxRecDepth 100000
set_option linter.defProp false
def d3r := cut Tryz.prog Tryz.f3 news [30, 54, 77, 111, 114, 125, 130, 136] [6, 22, 24, 31, 38, 40]
@[go_sem] def E3r := ql d3r
def F3r := fnC d3r follows Tryz.func3
end
def wk (o : OutM) : AObj := .row [.d (.int .i64 o.to), .d (.int .i64 o.p.kind), .d (.int .i64 o.p.sess), .d (.int .i64 o.p.epoch), .d (.int .i64 o.p.from_), .d (.int .i64 o.p.to), .d (.int .i64 o.p.seq), .d (.int .i64 o.p.label), .d (.sl 3 (o.p.values.map xr)), .d (.sl 1 (o.p.clock.map encI))]
def qs5 (f : OutM) (l : List OutM) : OutM := l.foldl (fun f o => if o.p.kind = 1 then o else f) f
theorem xaq (f : OutM) {l : List OutM} {i : Nat} (h : i < l.length) : qs5 f (l.take (i + 1)) = if l[i].p.kind = 1 then l[i] else qs5 f (l.take i) := by
 rw [List.take_succ_eq_append_getElem h, qs5, List.foldl_append]; rfl
theorem q49 (f : OutM) : ∀ l : List OutM, (qs5 f l = f ∧ ∀ o ∈ l, o.p.kind ≠ 1) ∨ ∃ o ∈ l, o.p.kind = 1 ∧ qs5 f l = o := by
 intro l
 induction l generalizing f with
 | nil => exact .inl ⟨rfl, by simp⟩
 | cons x l ih =>
  have e : qs5 f (x :: l) = qs5 (if x.p.kind = 1 then x else f) l := rfl
  rw [e]
  by_cases hx : x.p.kind = 1
  ·rw [if_pos hx]
   rcases ih x with ⟨h1, h2⟩ | ⟨o, ho, h1, h2⟩
   ·exact .inr ⟨x, by simp, hx, h1⟩
   ·exact .inr ⟨o, by simp [ho], h1, h2⟩
  ·rw [if_neg hx]
   rcases ih f with ⟨h1, h2⟩ | ⟨o, ho, h1, h2⟩
   ·exact .inl ⟨h1, by intro o ho; rcases List.mem_cons.1 ho with rfl | ho; exact hx; exact h2 o ho⟩
   ·exact .inr ⟨o, by simp [ho], h1, h2⟩
theorem q7j {n ss k j : Nat} {b : Brk} (hn : NS n ss) (H : BI n ss k j b) (hk : k ≤ 70) (now : Int) : (qad b now n ss).length ≤ 2000 := by
 have h1 := q7d b now (accT b now (x6 n ss)) (xj b.m)
 have h2 := q7c b now (x6 n ss)
 have hp := qu1 n ss
 have hq : ss * (n * n) ≤ 32 * (6 * 6) := Nat.mul_le_mul hn.s32 (Nat.mul_le_mul hn.n6 hn.n6)
 have ho := qu2 H.mw
 have hpl := H.pl
 unfold qad
 omega
theorem xr7 {n ss k j : Nat} {b : Brk} (H : BI n ss k j b) (hp : b.p = []) {now : Int} : ∀ o ∈ qad b now n ss, o.p.Sm := by
 intro o ho
 rw [q7g, hp, List.nil_append] at ho
 obtain ⟨i, hi, rfl⟩ := List.mem_map.1 ho
 rcases qr9.1 (List.mem_filter.1 hi).1 with ⟨x, hx, hf, rfl⟩ | ⟨y, hy, rfl⟩
 ·obtain ⟨f1, _, _, _⟩ := qo0 H hf
  have := qer (jp f1).2.1
  exact ⟨by simp only; omega, by simp only; omega⟩
 ·unfold xj at hy
  split at hy
  ·unfold ws at hy
   rw [List.mem_flatMap] at hy
   obtain ⟨i, _, hy⟩ := hy
   unfold qq7 qmf at hy
   rw [List.mem_flatMap] at hy
   obtain ⟨r, _, hy⟩ := hy
   unfold qjl at hy
   split at hy
   ·cases hy
   ·simp only [List.mem_cons, List.not_mem_nil, or_false] at hy
    subst hy
    exact ⟨by simp [itO, qgu], by simp [itO, qgu]⟩
  ·cases hy
theorem xf0 {n ss : Nat} (hn : NS n ss) {l : List Bst} (hl : l.length ≤ 60) (hx : ∀ x ∈ l, BstOk x) : ∀ i, i ≤ l.length → BD (qco n ss (l.take i)).2 (qco n ss (l.take i)).1
 | 0, _ => xr4 n ss
 | i + 1, h => by
  have hil : i < l.length := by omega
  have ih := xf0 hn hl hx i (by omega)
  obtain ⟨h1, h2, h3⟩ := qxv hn hl hx i (by omega)
  have hs := hx _ (List.getElem_mem hil)
  have hs0 := hs.n0
  have hs1 := hs.n1
  rw [qr8 n ss hil]
  unfold qxu
  split
  ·exact ih.recv hn h1 (by omega) _ hs.w
  split
  ·exact ih.tick (by omega) (by omega) (by omega)
  split
  ·exact ih.begin hn h1 (by omega) _
  ·exact ih
structure DlO (n ss : Nat) where
 i : Nat
 b : Brk
 now : Int
 hi : i ≤ 5
 H : BI n ss (40 + i) (40 + 70 * i) b
 D : BD now b
 h0 : 0 ≤ now
 h1 : now ≤ 40000 + 200 * i
structure DlI (n ss k j : Nat) (now0 : Int) where
 t : Nat
 b : Brk
 o : OutM
 ht : t ≤ 65
 H : BI n ss k (j + t) b
 D : BD (now0 + t) b
 F : (o = ⟨0, noPk⟩ ∧ Qui n ss now0 t b) ∨ (x9 (b.queue o.p.key) = (o.p, true) ∧ vt o.p = true ∧ PrOk n ss o.p.key ∧ b.p = [])
def SdO (cnt : Nat) (i : Nat) (b : Brk) (now : Int) : St :=
 ⟨[(2, true, .d (.int .u8 (cnt : Nat))), (7, true, .d (.ptr 0 0)), (8, true, .d (.int .i64 now)), (9, true, .d (.int .i64 (i : Nat)))], [.row (qm b), stoO b.s 2, mapO b.s.m, qmO b.q, tmO b.t], [0], 1⟩
def SdI (cnt i t : Nat) (b : Brk) (now : Int) (o : OutM) : St :=
 ⟨[(2, true, .d (.int .u8 (cnt : Nat))), (7, true, .d (.ptr 0 0)), (8, true, .d (.int .i64 now)), (9, true, .d (.int .i64 (i : Nat))), (10, true, .d (.ptr 5 0)), (11, true, .d (.int .i64 (t : Nat)))], [.row (qm b), stoO b.s 2, mapO b.s.m, qmO b.q, tmO b.t, wk o], [0], 1⟩
def SdX (cnt i t : Nat) (b : Brk) (now : Int) (o : OutM) (l : List OutM) (m : Nat) : St :=
 ⟨[(2, true, .d (.int .u8 (cnt : Nat))), (7, true, .d (.ptr 0 0)), (8, true, .d (.int .i64 now)), (9, true, .d (.int .i64 (i : Nat))), (10, true, .d (.ptr 5 0)), (11, true, .d (.int .i64 (t : Nat))), (12, true, .own 1 10 (l.map xe)), (13, true, .d (.int .i64 (m : Nat)))], [.row (qm b), stoO b.s 2, mapO b.s.m, qmO b.q, tmO b.t, wk o], [0, 1], 1⟩
def SdY (cnt i : Nat) (b : Brk) (now : Int) (p : Pk) (l : List OutM) (m : Nat) : St :=
 ⟨[(2, true, .d (.int .u8 (cnt : Nat))), (7, true, .d (.ptr 0 0)), (8, true, .d (.int .i64 now)), (9, true, .d (.int .i64 (i : Nat))), (17, true, .d (.ptr 6 0)), (20, true, .own 1 10 (l.map xe)), (21, true, .d (.int .i64 (m : Nat)))], [.row (qm b), stoO b.s 2, mapO b.s.m, qmO b.q, tmO b.t, .none, .row ((qe p).map .d)], [0, 1], 1⟩
set_option maxRecDepth 10000 in
set_option maxHeartbeats 1000000 in
theorem qm3 (a c cnt : Nat) (ha : a < 256) (hc : c < 256) (hcnt : cnt < 256) (l : List Bst) (hl : l.length ≤ maxLen) (hx : ∀ x ∈ l, x.p.I ∧ x.p.values.length ≤ maxLen) :
  qg Tryz.prog 3 [.d (.agg [.int .u8 (a : Nat), .int .u8 (c : Nat)]), .d (.sl 11 (l.map qag)), .d (.int .u8 (cnt : Nat))] [] (.d (.bool true)) [] := by
 have kf := xou l hl fun x hx' => (hx x hx').2
 refine F3r.go ?_
 try (refine ev ?_; try exact True.intro)
 (repeat (with_reducible refine ob ?_)); first | refine cl F11d (qu7) ?_ | refine clF F11d (qu7) (fun _ => by (refine ev4 @qe.eq_1 @xe.eq_1 @encQ.eq_1 @qx.eq_1 ?_; try exact True.intro)) ?_
 try (refine ev ?_; try exact True.intro)
 (repeat (with_reducible refine ob ?_)); refine no_ ?_
 try (refine ev ?_; try exact True.intro)
 (repeat (with_reducible refine ob ?_)); first | refine cl F12 (kf) ?_ | refine clF F12 (kf) (fun _ => by (refine ev4 @qe.eq_1 @xe.eq_1 @encQ.eq_1 @qx.eq_1 ?_; try exact True.intro)) ?_
 try (refine ev ?_; try exact True.intro)
 refine xq _ (fun h => ?_) (fun h => ?_)
 ·try (refine ev ?_; try exact True.intro)
 have hfl : fewB l = true := by simpa using h
 have hl40 : l.length ≤ 40 := by
  simp only [fewB, Bool.and_eq_true, decide_eq_true_eq] at hfl; omega
 have hbst : ∀ x ∈ l, BstOk x := fun x hx' => by
  simp only [fewB, Bool.and_eq_true, List.all_eq_true] at hfl
  have := hfl.1 x hx'
  simp only [qu4, Bool.not_eq_true', Bool.or_eq_false_iff, Bool.not_eq_false', decide_eq_false_iff_not] at this
  exact ⟨xtm (hx x hx').1 this.1.1, xr1 this.1.1, by omega, by omega⟩
 generalize en : qdn a = n
 generalize es : qdn c = ss
 have hn : NS n ss := by
  subst en; subst es
  unfold qdn
  exact ⟨by omega, by omega, by omega, by omega⟩
 have hn6 := hn.n6
 have hs32 := hn.s32
 have kp := xo1 a c ha hc l hl40 hbst n ss en.symm es.symm
 obtain ⟨HB, hw0, hw1⟩ := qxv hn (by omega) hbst l.length (Nat.le_refl _)
 have HD := xf0 hn (by omega) hbst l.length (Nat.le_refl _)
 rw [List.take_length] at HB hw0 hw1 HD
 generalize qco n ss l = X at kp HB hw0 hw1 HD
 obtain ⟨b0, now⟩ := X
 simp only at HB kp hw0 hw1 HD
 simp only [brO, qm, stoO, mapO, qmO, tmO] at kp
 try (refine ev ?_; try exact True.intro)
 refine clT [1, 2, 3, 4, 5] F13d kp ?_
 try (refine ev ?_; try exact True.intro)
 refine qbc [5, 0, 1, 2, 3, 4] [.row (xn b0 160), stoO b0.s 2, mapO b0.s.m, qmO b0.q, tmO b0.t, .row [.d (.int .u8 (a : Nat)), .d (.int .u8 (c : Nat))]] ?_ (by try (refine ev5 @xn.eq_1 @mapO.eq_1 @stoO.eq_1 @qmO.eq_1 @tmO.eq_1 ?_; try exact True.intro)) (hp := rfl)
 refine pu ?_
 try (refine ev ?_; try exact True.intro)
 refine pu ?_
 refine qk (fun x : DlO n ss => SdO cnt x.i x.b x.now) (fun x => 5 - x.i) ⟨0, b0, now, by omega, HB.mono (by omega) (by omega), HD, hw0, by omega⟩ ?_ (fun x => ?_)
 ·try (refine ev8 @SdO.eq_1 @qm.eq_1 @xn.eq_1 @mapO.eq_1 @stoO.eq_1 @qmO.eq_1 @tmO.eq_1 @Int.ofNat_zero ?_; try exact True.intro)
 obtain ⟨i, b, now, hi, H, HD1, h0, h1⟩ := x
 have hmod : (IntKind.i64.wrap (cnt : Int)).tmod 6 = ((cnt % 6 : Nat) : Int) := by
  rw [wrap_i64 (n := (cnt : Int)) (by omega) (by omega), Int.tmod_eq_emod_of_nonneg (by omega)]; rfl
 try (refine ev7 @SdO.eq_1 @qm.eq_1 @mapO.eq_1 @stoO.eq_1 @qmO.eq_1 @tmO.eq_1 @hmod ?_; try exact True.intro)
 refine xq _ (fun hc1 => ?_) (fun hc1 => ?_)
 rotate_left
 ·try (refine ev ?_; try exact True.intro)
 have hi5 : i < 5 := by
  have : (i : Int) < ((cnt % 6 : Nat) : Int) := by simpa using hc1
  omega
 clear kp HB hw0 hw1 HD
 try (refine ev ?_; try exact True.intro)
 refine pu ?_
 refine qk (fun x : DlI n ss (40 + i) (40 + 70 * i) now => SdI cnt i x.t x.b (now + (x.t : Int)) x.o) (fun x => 65 - x.t) ⟨0, b, ⟨0, noPk⟩, by omega, H, by simpa using HD1, .inl ⟨rfl, xk2 HD1⟩⟩ ?_ (fun x => ?_)
 ·try simp only [SdI, wk, noPk, qm, mapO, stoO, qmO, tmO, List.map_nil, Int.ofNat_zero, Int.add_zero, go_sem, Nat.reduceAdd, Nat.reduceMul, Nat.reduceSub, Nat.reduceEqDiff, Nat.reduceLT, Nat.reduceLeDiff, Nat.reduceBEq, reduceIte, reduceCtorEq, Int.reduceAdd, Int.reduceLT, Int.reduceLE, Int.reduceGT, Int.reduceGE, Int.reduceEq, Int.reduceNe, Int.reduceBEq, Int.reduceBNe, Int.reduceToNat, Int.reduceNeg]
 obtain ⟨t, b1, o, ht, H1, HD2, HF⟩ := x
 dsimp only
 try (refine ev7 @SdI.eq_1 @wk.eq_1 @qm.eq_1 @mapO.eq_1 @stoO.eq_1 @qmO.eq_1 @tmO.eq_1 ?_; try exact True.intro)
 (repeat (with_reducible refine ob ?_))
 refine xq _ (fun hc2 => ?_) (fun hc2 => ?_)
 ·have hc3 : t < 65 ∧ o.p.kind = 0 := by
   simp only [Bool.and_eq_true, decide_eq_true_eq, beq_iff_eq] at hc2
   exact ⟨by omega, hc2.2⟩
  have hw := wrap_i64 (n := now + (t : Int) + 1) (by omega) (by omega)
  have kt := qjw hn H1 (by omega) (by omega) (now + (t : Int) + 1)
  have H2 := H1.tick (now + (t : Int) + 1)
  have HD3 := HD2.tick (n := n) (ss := ss) (now' := now + (t : Int) + 1) (by omega) (by omega) (by omega)
  have hpk : ∀ o ∈ b1.p, o.p.kind ≠ 1 := HD2.pk
  have hout : ∀ x ∈ qad b1 (now + (t : Int) + 1) n ss, x.p.kind = 1 → x9 ((wz b1 (now + (t : Int) + 1) n ss).queue x.p.key) = (x.p, true) ∧ x.to = x.p.to ∧ PrOk n ss x.p.key ∧ vt x.p = true := fun x hx h1 => q7h H1 hpk hx h1
  have hz : o = ⟨0, noPk⟩ ∧ Qui n ss now t b1 := by
   rcases HF with h | h
   ·exact h
   ·have := (jp h.2.1).1
    omega
  have hqui := fun hno => xk3 H1 hz.2 hno
  have hb2 : (wz b1 (now + (t : Int) + 1) n ss).p = [] := rfl
  have hol := q7j hn H1 (by omega) (now + (t : Int) + 1)
  generalize qad b1 (now + (t : Int) + 1) n ss = out at kt hout hqui hol
  generalize wz b1 (now + (t : Int) + 1) n ss = b2 at kt H2 HD3 hout hqui hb2
  simp only [brO, tkO, qm, qdo, stoO, mapO, qmO, tmO] at kt
  try (refine ev1 @hw ?_; try exact True.intro)
  refine clT [0, 1, 2, 3, 4, 6] F14t kt ?_
  try (refine ev ?_; try exact True.intro)
  refine qbc [0, 1, 2, 3, 6, 5, 4] [.row (xn b2 (224 + List.idxOf 0 [1, 0])), stoO b2.s 2, mapO b2.s.m, qmO b2.q, tmO b2.t, wk o, tmO b1.t] ?_ (by try (refine ev6 @xn.eq_1 @mapO.eq_1 @stoO.eq_1 @qmO.eq_1 @tmO.eq_1 @wk.eq_1 ?_; try exact True.intro)) (hp := rfl)
  refine pu ?_
  refine qk (fun m : { m : Nat // m ≤ out.length } => SdX cnt i t b2 (now + (t : Int) + 1) (qs5 o (out.take m.val)) out m.val) (fun m => out.length - m.val) ⟨0, Nat.zero_le _⟩ ?_ (fun m => ?_)
  ·try simp only [SdX, qm, xn, mapO, stoO, qmO, tmO, wk, qs5, List.take_zero, List.foldl_nil, Int.ofNat_zero, go_sem, Nat.reduceAdd, Nat.reduceMul, Nat.reduceSub, Nat.reduceEqDiff, Nat.reduceLT, Nat.reduceLeDiff, Nat.reduceBEq, reduceIte, reduceCtorEq, Int.reduceAdd, Int.reduceLT, Int.reduceLE, Int.reduceGT, Int.reduceGE, Int.reduceEq, Int.reduceNe, Int.reduceBEq, Int.reduceBNe, Int.reduceToNat, Int.reduceNeg]
   decide
  obtain ⟨m, hm⟩ := m
  dsimp only
  have hls := fun h => xaq o (l := out) (i := m) h
  generalize hlo : qs5 o (out.take m) = o1 at hls
  try (refine ev8 @SdX.eq_1 @hlo @qm.eq_1 @mapO.eq_1 @stoO.eq_1 @qmO.eq_1 @tmO.eq_1 @wk.eq_1 ?_; try exact True.intro)
  refine xq _ (fun hc4 => ?_) (fun hc4 => ?_)
  ·have hml : m < out.length := by simpa using hc4
   have hls := hls hml
   try simp only [qi xe out hml, xe, qe, go_sem, Nat.reduceAdd, Nat.reduceMul, Nat.reduceSub, Nat.reduceEqDiff, Nat.reduceLT, Nat.reduceLeDiff, Nat.reduceBEq, reduceIte, reduceCtorEq, Int.reduceAdd, Int.reduceLT, Int.reduceLE, Int.reduceGT, Int.reduceGE, Int.reduceEq, Int.reduceNe, Int.reduceBEq, Int.reduceBNe, Int.reduceToNat, Int.reduceNeg]
   (repeat (with_reducible refine ob ?_))
   refine xq _ (fun hk => ?_) (fun hk => ?_)
   ·have hk' : ¬ out[m].p.kind = 1 := by simpa using hk
    rw [if_neg hk'] at hls
    try (refine ev ?_; try exact True.intro)
    refine ⟨⟨m + 1, hml⟩, ?_, by dsimp only; omega⟩
    dsimp only
    simp only [hls]
    try (refine ev1 (qf (show m < 9223372036854775807 by omega)) ?_; try exact True.intro)
   ·have hk' : out[m].p.kind = 1 := by simpa using hk
    rw [if_pos hk'] at hls
    obtain ⟨f1, f2, f3, f4⟩ := hout out[m] (List.getElem_mem hml) hk'
    have hvf := qer (jp f4).2.1
    have hsm : out[m].p.Sm := ⟨by omega, by omega⟩
    have kq := xap b2 out[m].p.sess out[m].p.from_ out[m].p.to (H2.qsm _)
    have kf1 := qzu (b2.queue out[m].p.key) (H2.qsm _)
    have ke := qea out[m].p out[m].p hsm.v hsm.c
    rw [f1] at kf1
    simp only [brO, qm, stoO, mapO, qmO, tmO, encQ, Pk.key, qe, decide_true] at kq kf1 ke
    try (refine ev ?_; try exact True.intro)
    refine clT [0, 1, 2, 3, 4] F16d kq ?_
    try (refine ev ?_; try exact True.intro)
    (repeat (with_reducible refine ob ?_)); first | refine cl F15 (kf1) ?_ | refine clF F15 (kf1) (fun _ => by (refine ev4 @qe.eq_1 @xe.eq_1 @encQ.eq_1 @qx.eq_1 ?_; try exact True.intro)) ?_
    try (refine ev ?_; try exact True.intro)
    (repeat (with_reducible refine ob ?_)); first | refine cl F17 (ke) ?_ | refine clF F17 (ke) (fun _ => by (refine ev4 @qe.eq_1 @xe.eq_1 @encQ.eq_1 @qx.eq_1 ?_; try exact True.intro)) ?_
    have f2b : (out[m].to == out[m].p.to) = true := by rw [f2]; exact beq_self_eq_true _
    have f2c : (out[m].to != out[m].p.to) = false := by rw [f2]; exact bne_self_eq_false _
    try simp only [qi xe out hml, xe, qe, f2b, f2c, go_sem, Nat.reduceAdd, Nat.reduceMul, Nat.reduceSub, Nat.reduceEqDiff, Nat.reduceLT, Nat.reduceLeDiff, Nat.reduceBEq, reduceIte, reduceCtorEq, Int.reduceAdd, Int.reduceLT, Int.reduceLE, Int.reduceGT, Int.reduceGE, Int.reduceEq, Int.reduceNe, Int.reduceBEq, Int.reduceBNe, Int.reduceToNat, Int.reduceNeg]
    (repeat (with_reducible refine ob ?_))
    try (try simp only [qi xe out hml, xe, qe, f2b, f2c, go_sem, Nat.reduceAdd, Nat.reduceMul, Nat.reduceSub, Nat.reduceEqDiff, Nat.reduceLT, Nat.reduceLeDiff, Nat.reduceBEq, reduceIte, reduceCtorEq, Int.reduceAdd, Int.reduceLT, Int.reduceLE, Int.reduceGT, Int.reduceGE, Int.reduceEq, Int.reduceNe, Int.reduceBEq, Int.reduceBNe, Int.reduceToNat, Int.reduceNeg])
    (repeat (with_reducible refine ob ?_)); refine no_ ?_
    try simp only [qi xe out hml, xe, qe, go_sem, Nat.reduceAdd, Nat.reduceMul, Nat.reduceSub, Nat.reduceEqDiff, Nat.reduceLT, Nat.reduceLeDiff, Nat.reduceBEq, reduceIte, reduceCtorEq, Int.reduceAdd, Int.reduceLT, Int.reduceLE, Int.reduceGT, Int.reduceGE, Int.reduceEq, Int.reduceNe, Int.reduceBEq, Int.reduceBNe, Int.reduceToNat, Int.reduceNeg]
    (repeat (with_reducible refine ob ?_))
    refine ⟨⟨m + 1, hml⟩, ?_, by dsimp only; omega⟩
    dsimp only
    simp only [hls]
    try (refine ev1 (qf (show m < 9223372036854775807 by omega)) ?_; try exact True.intro)
  ·have hme : m = out.length := by simp at hc4; omega
   subst hme
   rw [List.take_length] at hlo
   have e1 : now + (t : Int) + 1 = now + ((t + 1 : Nat) : Int) := by push_cast; omega
   rw [e1] at HD3
   have hF2 : (o1 = ⟨0, noPk⟩ ∧ Qui n ss now (t + 1) b2) ∨ (x9 (b2.queue o1.p.key) = (o1.p, true) ∧ vt o1.p = true ∧ PrOk n ss o1.p.key ∧ b2.p = []) := by
    rcases q49 o out with ⟨q1, q2⟩ | ⟨x, q1, q2, q3⟩
    ·exact .inl ⟨by rw [← hlo, q1]; exact hz.1, hqui q2⟩
    ·obtain ⟨f1, f2, f3, f4⟩ := hout x q1 q2
     have : o1 = x := by rw [← hlo, q3]
     subst this
     exact .inr ⟨f1, f4, f3, hb2⟩
   try (refine ev ?_; try exact True.intro)
   refine ⟨⟨t + 1, b2, o1, hc3.1, H2, HD3, hF2⟩, ?_, by dsimp only; omega⟩
   dsimp only
   rw [← e1]
   try (refine ev1 (qf (show t < 9223372036854775807 by omega)) ?_; try exact True.intro)
 try (refine ev ?_; try exact True.intro)
 (repeat (with_reducible refine ob ?_))
 refine xq _ (fun hk0 => ?_) (fun hk0 => ?_)
 ·have hk0' : o.p.kind = 0 := by simpa using hk0
  have ht65 : t = 65 := by
   simp only [hk0', beq_self_eq_true, Bool.and_true, decide_eq_false_iff_not] at hc2
   omega
  subst ht65
  have hQ : Qui n ss now 65 b1 := by
   rcases HF with h | h
   ·exact h.2
   ·have := (jp h.2.1).1
    omega
  obtain ⟨hp0, hq0⟩ := xo2 hQ
  have HD65 : BD (now + 65) b1 := HD2
  have hlen := xk4 hp0 hq0 HD65
  have kt := qjw hn H1 (by omega) (by omega) (now + 65 + 65)
  have km := q2a (wz b1 (now + 65 + 65) n ss) H1.mw.sm
  have ko := qev b1.m H1.mw.sm
  have hw := wrap_i64 (n := now + 65 + 65) (by omega) (by omega)
  have hm : (wz b1 (now + 65 + 65) n ss).m = b1.m := rfl
  generalize qad b1 (now + 65 + 65) n ss = out at kt hlen
  generalize wz b1 (now + 65 + 65) n ss = b2 at kt km hm
  simp only [brO, tkO, qm, qdo, stoO, mapO, qmO, tmO, qx] at kt km ko
  rw [← hm] at ko hlen
  try (refine ev1 @hw ?_; try exact True.intro)
  refine clT [0, 1, 2, 3, 4, 7] F14t kt ?_
  try (refine ev ?_; try exact True.intro)
  refine clT [0, 1, 2, 3, 7] F19d km ?_
  try (refine ev ?_; try exact True.intro)
  (repeat (with_reducible refine ob ?_)); first | refine cl F18 (ko) ?_ | refine clF F18 (ko) (fun _ => by (refine ev4 @qe.eq_1 @xe.eq_1 @encQ.eq_1 @qx.eq_1 ?_; try exact True.intro)) ?_
  try (refine ev2 @List.length_map.{0,0} @hlen ?_; try exact True.intro)
 have hm1 : x9 (b1.queue o.p.key) = (o.p, true) ∧ vt o.p = true ∧ PrOk n ss o.p.key ∧ b1.p = [] := by
  rcases HF with h | h
  ·rw [h.1] at hk0; simp [noPk] at hk0
  ·exact h
 obtain ⟨m1, m2, m3, m4⟩ := hm1
 have hvm := jp m2
 have hvf := qer hvm.2.1
 have hsm : o.p.Sm := ⟨by omega, by omega⟩
 have hpw : (vl o.p).W ∧ (vl o.p).Sm := xtr m2
 have ka := q69 o.p hsm
 rw [qsa hvm.1 hvm.2.1] at ka
 obtain ⟨r1, r2, H3, r4, r5, r6⟩ := xfx hn H1 (by omega) m1 m2 m3 m4
 have kr1 := qlo hn H1 (by omega) (vl o.p) hpw.2 hpw.1
 have kr2 := qlo hn H3 (by omega) (vl o.p) hpw.2 hpw.1
 rw [r2] at kr2
 have HD4 : BD (now + (t : Int)) (zg b1 (vl o.p)).1 := ⟨by rw [r4]; simp, by rw [r5]; exact HD2.nx⟩
 generalize zg b1 (vl o.p) = R at kr1 kr2 r1 H3 r4 r5 r6 HD4
 obtain ⟨b3, e3, cc⟩ := R
 simp only at kr1 kr2 r1 H3 r4 r5 r6 HD4
 subst r1
 have kt := qjw hn H3 (by omega) (by omega) (now + (t : Int) + 65)
 have H5 := H3.tick (now + (t : Int) + 65)
 have HD6 := HD4.tick (n := n) (ss := ss) (now' := now + (t : Int) + 65) (by omega) (by omega) (by omega)
 have hno := xfy H3 r4 m2 r6 (now := now + (t : Int) + 65)
 have hos := xr7 H3 r4 (now := now + (t : Int) + 65)
 have hol := q7j hn H3 (by omega) (now + (t : Int) + 65)
 have hw := wrap_i64 (n := now + (t : Int) + 65) (by omega) (by omega)
 generalize qad b3 (now + (t : Int) + 65) n ss = out at kt hno hol hos
 generalize wz b3 (now + (t : Int) + 65) n ss = b4 at kt H5 HD6
 simp only [brO, tkO, afB, qm, qdo, stoO, mapO, qmO, tmO, qe, vl, List.map_nil] at kr1 kr2 kt ka
 try (refine ev ?_; try exact True.intro)
 (repeat (with_reducible refine ob ?_)); first | refine cl F20 (ka) ?_ | refine clF F20 (ka) (fun _ => by (refine ev4 @qe.eq_1 @xe.eq_1 @encQ.eq_1 @qx.eq_1 ?_; try exact True.intro)) ?_
 try (refine ev ?_; try exact True.intro)
 cases cc
 ·refine clT [0, 1, 2, 3, 4, 8] F21d kr1 ?_
  try (refine ev ?_; try exact True.intro)
  refine clT [0, 1, 2, 3, 4, 9] F21d kr2 ?_
  try (refine ev ?_; try exact True.intro)
  (repeat (with_reducible refine ob ?_)); refine no_ ?_
  try (refine ev ?_; try exact True.intro)
  refine pu ?_
  try simp only [hw, xn, mapO, stoO, qmO, tmO, wk, qe, vl, go_sem, Nat.reduceAdd, Nat.reduceMul, Nat.reduceSub, Nat.reduceEqDiff, Nat.reduceLT, Nat.reduceLeDiff, Nat.reduceBEq, reduceIte, reduceCtorEq, Int.reduceAdd, Int.reduceLT, Int.reduceLE, Int.reduceGT, Int.reduceGE, Int.reduceEq, Int.reduceNe, Int.reduceBEq, Int.reduceBNe, Int.reduceToNat, Int.reduceNeg]
  refine clT [0, 1, 2, 3, 4, 10] F14t kt ?_
  try (refine ev1 @hw ?_; try exact True.intro)
  refine qbc [0, 1, 2, 3, 10, 5, 6, 7, 8, 9, 4] [.row (xn b4 (592 + List.idxOf 0 [1, 0])), stoO b4.s 2, mapO b4.s.m, qmO b4.q, tmO b4.t, wk o, .row ((qe o.p).map .d), .row ((qe (vl o.p)).map .d), .none, .none, tmO b3.t] ?_ (by try simp only [xn, mapO, stoO, qmO, tmO, wk, qe, vl, List.map_nil, go_sem, Nat.reduceAdd, Nat.reduceMul, Nat.reduceSub, Nat.reduceEqDiff, Nat.reduceLT, Nat.reduceLeDiff, Nat.reduceBEq, reduceIte, reduceCtorEq, Int.reduceAdd, Int.reduceLT, Int.reduceLE, Int.reduceGT, Int.reduceGE, Int.reduceEq, Int.reduceNe, Int.reduceBEq, Int.reduceBNe, Int.reduceToNat, Int.reduceNeg]) (hp := rfl)
  refine pu ?_
  refine qk (fun m : { m : Nat // m ≤ out.length } => SdY cnt i b4 (now + (t : Int) + 65) o.p out m.val) (fun m => out.length - m.val) ⟨0, Nat.zero_le _⟩ ?_ (fun m => ?_)
  ·try simp only [SdY, qm, xn, mapO, stoO, qmO, tmO, wk, qe, vl, Int.ofNat_zero, go_sem, Nat.reduceAdd, Nat.reduceMul, Nat.reduceSub, Nat.reduceEqDiff, Nat.reduceLT, Nat.reduceLeDiff, Nat.reduceBEq, reduceIte, reduceCtorEq, Int.reduceAdd, Int.reduceLT, Int.reduceLE, Int.reduceGT, Int.reduceGE, Int.reduceEq, Int.reduceNe, Int.reduceBEq, Int.reduceBNe, Int.reduceToNat, Int.reduceNeg]
   decide
  obtain ⟨m, hm⟩ := m
  dsimp only
  try (refine ev7 @SdY.eq_1 @qm.eq_1 @mapO.eq_1 @stoO.eq_1 @qmO.eq_1 @tmO.eq_1 @qe.eq_1 ?_; try exact True.intro)
  refine xq _ (fun hc4 => ?_) (fun hc4 => ?_)
  ·have hml : m < out.length := by simpa using hc4
   have hsmm := hos out[m] (List.getElem_mem hml)
   have ke := qea out[m].p o.p hsmm.v hsmm.c
   rw [decide_eq_false (hno out[m] (List.getElem_mem hml))] at ke
   simp only [qe] at ke
   try simp only [qi xe out hml, xe, qe, go_sem, Nat.reduceAdd, Nat.reduceMul, Nat.reduceSub, Nat.reduceEqDiff, Nat.reduceLT, Nat.reduceLeDiff, Nat.reduceBEq, reduceIte, reduceCtorEq, Int.reduceAdd, Int.reduceLT, Int.reduceLE, Int.reduceGT, Int.reduceGE, Int.reduceEq, Int.reduceNe, Int.reduceBEq, Int.reduceBNe, Int.reduceToNat, Int.reduceNeg]
   (repeat (with_reducible refine ob ?_))
   try (try simp only [qi xe out hml, xe, qe, go_sem, Nat.reduceAdd, Nat.reduceMul, Nat.reduceSub, Nat.reduceEqDiff, Nat.reduceLT, Nat.reduceLeDiff, Nat.reduceBEq, reduceIte, reduceCtorEq, Int.reduceAdd, Int.reduceLT, Int.reduceLE, Int.reduceGT, Int.reduceGE, Int.reduceEq, Int.reduceNe, Int.reduceBEq, Int.reduceBNe, Int.reduceToNat, Int.reduceNeg])
   (repeat (with_reducible refine ob ?_)); first | refine cl F17 (ke) ?_ | refine clF F17 (ke) (fun _ => by (refine ev4 @qe.eq_1 @xe.eq_1 @encQ.eq_1 @qx.eq_1 ?_; try exact True.intro)) ?_
   try (refine ev ?_; try exact True.intro)
   (repeat (with_reducible refine ob ?_)); refine no_ ?_
   try (refine ev ?_; try exact True.intro)
   refine ⟨⟨m + 1, hml⟩, ?_, by dsimp only; omega⟩
   dsimp only
   try (refine ev1 (qf (show m < 9223372036854775807 by omega)) ?_; try exact True.intro)
  ·try (refine ev ?_; try exact True.intro)
   refine ⟨⟨i + 1, b4, now + (t : Int) + 65, by omega, H5.mono (by omega) (by omega), HD6, by omega, by push_cast; omega⟩, ?_, by dsimp only; omega⟩
   dsimp only
   try (refine ev1 (qf (show i < 9223372036854775807 by omega)) ?_; try exact True.intro)
 ·refine clT [0, 1, 2, 3, 4, 8] F21d kr1 ?_
  try (refine ev ?_; try exact True.intro)
  refine clT [0, 1, 8, 3, 4, 9] F21d kr2 ?_
  try (refine ev ?_; try exact True.intro)
  (repeat (with_reducible refine ob ?_)); refine no_ ?_
  try (refine ev ?_; try exact True.intro)
  refine qbc [0, 1, 8, 3, 4, 5, 6, 7, 2, 9] [.row (xn b3 496), stoO b3.s 2, mapO b3.s.m, qmO b3.q, tmO b3.t, wk o, .row ((qe o.p).map .d), .row ((qe (vl o.p)).map .d), mapO b1.s.m, .none] ?_ (by try simp only [xn, mapO, stoO, qmO, tmO, wk, qe, vl, List.map_nil, go_sem, Nat.reduceAdd, Nat.reduceMul, Nat.reduceSub, Nat.reduceEqDiff, Nat.reduceLT, Nat.reduceLeDiff, Nat.reduceBEq, reduceIte, reduceCtorEq, Int.reduceAdd, Int.reduceLT, Int.reduceLE, Int.reduceGT, Int.reduceGE, Int.reduceEq, Int.reduceNe, Int.reduceBEq, Int.reduceBNe, Int.reduceToNat, Int.reduceNeg]) (hp := rfl)
  refine pu ?_
  try simp only [hw, xn, mapO, stoO, qmO, tmO, wk, qe, vl, go_sem, Nat.reduceAdd, Nat.reduceMul, Nat.reduceSub, Nat.reduceEqDiff, Nat.reduceLT, Nat.reduceLeDiff, Nat.reduceBEq, reduceIte, reduceCtorEq, Int.reduceAdd, Int.reduceLT, Int.reduceLE, Int.reduceGT, Int.reduceGE, Int.reduceEq, Int.reduceNe, Int.reduceBEq, Int.reduceBNe, Int.reduceToNat, Int.reduceNeg]
  refine clT [0, 1, 2, 3, 4, 10] F14t kt ?_
  try (refine ev1 @hw ?_; try exact True.intro)
  refine qbc [0, 1, 2, 3, 10, 5, 6, 7, 8, 9, 4] [.row (xn b4 (592 + List.idxOf 0 [1, 0])), stoO b4.s 2, mapO b4.s.m, qmO b4.q, tmO b4.t, wk o, .row ((qe o.p).map .d), .row ((qe (vl o.p)).map .d), mapO b1.s.m, .none, tmO b3.t] ?_ (by try simp only [xn, mapO, stoO, qmO, tmO, wk, qe, vl, List.map_nil, go_sem, Nat.reduceAdd, Nat.reduceMul, Nat.reduceSub, Nat.reduceEqDiff, Nat.reduceLT, Nat.reduceLeDiff, Nat.reduceBEq, reduceIte, reduceCtorEq, Int.reduceAdd, Int.reduceLT, Int.reduceLE, Int.reduceGT, Int.reduceGE, Int.reduceEq, Int.reduceNe, Int.reduceBEq, Int.reduceBNe, Int.reduceToNat, Int.reduceNeg]) (hp := rfl)
  refine pu ?_
  refine qk (fun m : { m : Nat // m ≤ out.length } => SdY cnt i b4 (now + (t : Int) + 65) o.p out m.val) (fun m => out.length - m.val) ⟨0, Nat.zero_le _⟩ ?_ (fun m => ?_)
  ·try simp only [SdY, qm, xn, mapO, stoO, qmO, tmO, wk, qe, vl, Int.ofNat_zero, go_sem, Nat.reduceAdd, Nat.reduceMul, Nat.reduceSub, Nat.reduceEqDiff, Nat.reduceLT, Nat.reduceLeDiff, Nat.reduceBEq, reduceIte, reduceCtorEq, Int.reduceAdd, Int.reduceLT, Int.reduceLE, Int.reduceGT, Int.reduceGE, Int.reduceEq, Int.reduceNe, Int.reduceBEq, Int.reduceBNe, Int.reduceToNat, Int.reduceNeg]
   decide
  obtain ⟨m, hm⟩ := m
  dsimp only
  try (refine ev7 @SdY.eq_1 @qm.eq_1 @mapO.eq_1 @stoO.eq_1 @qmO.eq_1 @tmO.eq_1 @qe.eq_1 ?_; try exact True.intro)
  refine xq _ (fun hc4 => ?_) (fun hc4 => ?_)
  ·have hml : m < out.length := by simpa using hc4
   have hsmm := hos out[m] (List.getElem_mem hml)
   have ke := qea out[m].p o.p hsmm.v hsmm.c
   rw [decide_eq_false (hno out[m] (List.getElem_mem hml))] at ke
   simp only [qe] at ke
   try simp only [qi xe out hml, xe, qe, go_sem, Nat.reduceAdd, Nat.reduceMul, Nat.reduceSub, Nat.reduceEqDiff, Nat.reduceLT, Nat.reduceLeDiff, Nat.reduceBEq, reduceIte, reduceCtorEq, Int.reduceAdd, Int.reduceLT, Int.reduceLE, Int.reduceGT, Int.reduceGE, Int.reduceEq, Int.reduceNe, Int.reduceBEq, Int.reduceBNe, Int.reduceToNat, Int.reduceNeg]
   (repeat (with_reducible refine ob ?_))
   try (try simp only [qi xe out hml, xe, qe, go_sem, Nat.reduceAdd, Nat.reduceMul, Nat.reduceSub, Nat.reduceEqDiff, Nat.reduceLT, Nat.reduceLeDiff, Nat.reduceBEq, reduceIte, reduceCtorEq, Int.reduceAdd, Int.reduceLT, Int.reduceLE, Int.reduceGT, Int.reduceGE, Int.reduceEq, Int.reduceNe, Int.reduceBEq, Int.reduceBNe, Int.reduceToNat, Int.reduceNeg])
   (repeat (with_reducible refine ob ?_)); first | refine cl F17 (ke) ?_ | refine clF F17 (ke) (fun _ => by (refine ev4 @qe.eq_1 @xe.eq_1 @encQ.eq_1 @qx.eq_1 ?_; try exact True.intro)) ?_
   try (refine ev ?_; try exact True.intro)
   (repeat (with_reducible refine ob ?_)); refine no_ ?_
   try (refine ev ?_; try exact True.intro)
   refine ⟨⟨m + 1, hml⟩, ?_, by dsimp only; omega⟩
   dsimp only
   try (refine ev1 (qf (show m < 9223372036854775807 by omega)) ?_; try exact True.intro)
  ·try (refine ev ?_; try exact True.intro)
   refine ⟨⟨i + 1, b4, now + (t : Int) + 65, by omega, H5.mono (by omega) (by omega), HD6, by omega, by push_cast; omega⟩, ?_, by dsimp only; omega⟩
   dsimp only
   try (refine ev1 (qf (show i < 9223372036854775807 by omega)) ?_; try exact True.intro)
end Go.Proofs.YtkcdbcbpbolgkaaGreatDoor
