/- Texts Kw, La, Km, Lb, Lc, Ku, Ld. -/
import Derived.Test.YtkcdbcbpbolgkaaGreatDoorMor
set_option linter.unusedSimpArgs false
set_option linter.unusedVariables false
namespace Go.Proofs.YtkcdbcbpbolgkaaGreatDoor
open Go.Abs
set_option maxRecDepth 100000
structure Pk.I (p : Pk) : Prop where
 h : ∀ x ∈ k7 p, I64 x
 v : ∀ x ∈ p.values, I64 x.kind ∧ I64 x.n
 c : ∀ x ∈ p.clock, I64 x
theorem xrg {p : Pk} (hi : p.I) (h : qma p = true) : p.W := by
 unfold qma at h
 simp only [Bool.and_eq_true, List.all_eq_true] at h
 refine ⟨hi.h, fun x hx => ⟨(hi.v x hx).1, (hi.v x hx).2, ?_⟩, hi.c⟩
 have := h.1 x hx
 simp only [qho, Bool.not_eq_true', decide_eq_false_iff_not] at this
 omega
theorem xli {p : Pk} (h : qma p = true) : p.Sm := by
 unfold qma at h
 simp only [Bool.and_eq_true, decide_eq_true_eq] at h
 exact ⟨by omega, by omega⟩
theorem xfl {n : Nat} {ds : List D} (h : Shp Tryz.prog (n + 1) 3 ds) : ∃ x, ds = encI x ∧ I64 x := xqz h
theorem xsw {n : Nat} {ds : List D} (h : Shp Tryz.prog (n + 2) 158 ds) : ∃ v : AV, ds = xq v ∧ I64 v.kind ∧ I64 v.n := by
 simp only [Shp, Tryz.underlying158, qy5, Tryz.underlying3, Tryz.underlying9] at h
 obtain ⟨_, _, rfl, ⟨a, rfl, ha⟩, _, _, rfl, ⟨b, rfl, hb⟩, _, _, rfl, ⟨c, rfl, hc⟩, rfl⟩ := h
 exact ⟨⟨a, b, c⟩, rfl, xef ha, xef hb⟩
theorem xkg : Tryz.prog.cellsOf 158 = 3 := by kernel_rfl
theorem xff : Tryz.prog.cellsOf 3 = 1 := by kernel_rfl
theorem xfg {n : Nat} {ds : List D} (h : Shp Tryz.prog (n + 4) 90 ds) : ∃ p : Pk, ds = qe p ∧ p.I ∧ p.values.length ≤ maxLen := by
 rw [Shp] at h
 simp only [Tryz.underlying90, qy5] at h
 obtain ⟨_, _, rfl, h1, _, _, rfl, h2, _, _, rfl, h3, _, _, rfl, h4, _, _, rfl, h5, _, _, rfl, h6, _, _, rfl, h7, _, _, rfl, h8, _, _, rfl, h9, rfl⟩ := h
 obtain ⟨a1, rfl, i1⟩ := xfl h1
 obtain ⟨a2, rfl, i2⟩ := xfl h2
 obtain ⟨a3, rfl, i3⟩ := xfl h3
 obtain ⟨a4, rfl, i4⟩ := xfl h4
 obtain ⟨a5, rfl, i5⟩ := xfl h5
 obtain ⟨a6, rfl, i6⟩ := xfl h6
 obtain ⟨a7, rfl, i7⟩ := xfl h7
 rw [Shp] at h8 h9
 simp only [Tryz.underlying30, Tryz.underlying31] at h8 h9
 obtain ⟨r8, rfl, l8, h8⟩ := h8
 obtain ⟨r9, rfl, l9, h9⟩ := h9
 obtain ⟨vs, rfl, iv⟩ := qmr fun r hr => xsw (h8 r hr)
 obtain ⟨ns, rfl, ic⟩ := qmr fun r hr => xfl (h9 r hr)
 refine ⟨⟨a1, a2, a3, a4, a5, a6, a7, vs, ns⟩, by rw [xkg, xff]; rfl, ⟨fun x hx => ?_, iv, ic⟩, by simpa using l8⟩
 simp only [k7, List.mem_cons, List.not_mem_nil, or_false] at hx
 rcases hx with rfl | rfl | rfl | rfl | rfl | rfl | rfl <;> assumption
theorem xoc (q : Pk) : argS Tryz.prog 90 (qe q) = .d (.agg (qe q)) := by simp only [argS, Tryz.underlying90]
theorem q96 : Tryz.prog.cellsOf 127 = 11 := by kernel_rfl
theorem xod {n : Nat} {ds : List D} (h : Shp Tryz.prog (n + 5) 127 ds) : ∃ x : Bst, ds = qaa x ∧ x.p.I ∧ x.p.values.length ≤ maxLen := by
 rw [Shp] at h
 simp only [Tryz.underlying127, qy5] at h
 obtain ⟨_, _, rfl, h1, _, _, rfl, h2, _, _, rfl, h3, rfl⟩ := h
 obtain ⟨a1, rfl, _⟩ := xfl h1
 obtain ⟨p, rfl, hp⟩ := xfg h2
 obtain ⟨a3, rfl, _⟩ := xfl h3
 exact ⟨⟨a1, p, a3⟩, rfl, hp⟩
theorem xkh {n : Nat} {ds : List D} (h : Shp Tryz.prog (n + 7) 24 ds) : ∃ l : List Bst, ds = [.sl 11 (l.map qaa)] ∧ l.length ≤ maxLen ∧ ∀ x ∈ l, x.p.I ∧ x.p.values.length ≤ maxLen := by
 rw [Shp] at h
 simp only [Tryz.underlying24] at h
 obtain ⟨r, rfl, hl, h⟩ := h
 obtain ⟨l, rfl, hx⟩ := qmr fun r hr => xod (h r hr)
 exact ⟨l, by rw [q96], by simpa using hl, hx⟩
theorem xki (l : List Bst) : argS Tryz.prog 24 [.sl 11 (l.map qaa)] = .d (.sl 11 (l.map qaa)) := by simp only [argS, Tryz.underlying24]; rfl
def xrh (a c : Nat) : List D := [.int .u8 (a : Nat), .int .u8 (c : Nat)]
theorem xoe {n : Nat} {ds : List D} (h : Shp Tryz.prog (n + 2) 23 ds) : ∃ a c : Nat, ds = xrh a c ∧ a < 256 ∧ c < 256 := by
 rw [Shp] at h
 simp only [Tryz.underlying23, qy5] at h
 obtain ⟨_, _, rfl, h1, _, _, rfl, h2, rfl⟩ := h
 obtain ⟨a1, rfl, i1⟩ := xno h1
 obtain ⟨a2, rfl, i2⟩ := xno h2
 exact ⟨a1, a2, rfl, i1, i2⟩
theorem xof (a c : Nat) : argS Tryz.prog 23 (xrh a c) = .d (.agg [.int .u8 (a : Nat), .int .u8 (c : Nat)]) := by simp only [argS, Tryz.underlying23]; rfl
end Go.Proofs.YtkcdbcbpbolgkaaGreatDoor
namespace Go.Proofs.YtkcdbcbpbolgkaaGreatDoor
open Go.Abs
attribute [-go_sem] qfj
noncomputable section
set_option maxRecDepth 100000
set_option linter.defProp false
def d13d := cut Tryz.prog Tryz.f13 news [20, 42, 54, 63] [14, 15] true
@[go_sem] def E13d := ql d13d
def F13d := fnC d13d follows Tryz.func13
end
theorem xkj {n ss k j : Nat} {b : Brk} (hn : NS n ss) (H : BI n ss k j b) (hk70 : k ≤ 70) (s : Int) :
  qg Tryz.prog 41 [.d (.ptr 0 0), .d (.int .i64 s)] (brO b) (.d (.int .i64 (qb8 b s).2.1)) (afB b (qb8 b s).1 (qb8 b s).2.2) := by
 have hF : b.s.file.length ≤ 100000000 := by
  have h1 := H.st.file
  exact Nat.le_trans h1 (Nat.le_trans (Nat.mul_le_mul_right 70000 (show k + 401 ≤ 471 by omega)) (by decide))
 by_cases ho : (zt b.m s).2 = 0
 ·have hon := q1l H.mw ho
  refine quq b s H.mw.sm hon.mw.sm hF ?_
  obtain ⟨y, _, h1⟩ := hon.one
  rw [hon.changes H.mw, h1]; simp
 ·have h0 : (zt b.m s).1 = ⟨0, []⟩ := by
   revert ho
   unfold zt
   split
   ·intro _; rfl
   split
   ·intro _; rfl
   split
   ·intro _; rfl
   ·intro h; exact absurd rfl h
  refine quq b s H.mw.sm (by rw [h0]; exact ⟨by simp, by simp⟩) hF ?_
  rw [h0]
  unfold zu
  split
  ·simp
  split
  ·simp
  ·simp [qrv]
def q1u (n ss : Nat) (x : Brk × Int) (s : Bst) : Brk × Int :=
 if s.kind = 0 then ((zw x.1 s.p).1, x.2) else if s.kind = 1 then (qfb x.1 (x.2 + s.n) n ss, x.2 + s.n) else if s.kind = 2 then ((qb8 x.1 s.n).1, x.2) else x
def qdk (n ss : Nat) (l : List Bst) : Brk × Int := l.foldl (q1u n ss) (vg n ss, 0)
structure BstOk (x : Bst) : Prop where
 w : x.p.W
 sm : x.p.Sm
 n0 : 0 ≤ x.n
 n1 : x.n ≤ 1000
theorem q1v (n ss : Nat) {l : List Bst} {i : Nat} (h : i < l.length) : qdk n ss (l.take (i + 1)) = q1u n ss (qdk n ss (l.take i)) l[i] := by
 rw [List.take_succ_eq_append_getElem h, qdk, List.foldl_append]; rfl
theorem xri {n ss k : Nat} {x : Brk × Int} (hn : NS n ss) (H : BI n ss k k x.1) (hk : k ≤ 60) {s : Bst} (hs : BstOk s) : BI n ss (k + 1) (k + 1) (q1u n ss x s).1 := by
 unfold q1u
 split
 ·exact (H.recv hn (by omega) s.p hs.w).mono (Nat.le_refl _) (by omega)
 split
 ·exact (H.tick _).mono (by omega) (Nat.le_refl _)
 split
 ·exact (H.begin hn (by omega) s.n).mono (Nat.le_refl _) (by omega)
 ·exact H.mono (by omega) (by omega)
theorem xog {n ss : Nat} {x : Brk × Int} {s : Bst} (hs : BstOk s) : x.2 ≤ (q1u n ss x s).2 ∧ (q1u n ss x s).2 ≤ x.2 + 1000 := by
 have h0 := hs.n0
 have h1 := hs.n1
 unfold q1u
 split
 ·simp only; omega
 split
 ·simp only; omega
 split
 ·simp only; omega
 ·omega
theorem q4x {n ss : Nat} (hn : NS n ss) {l : List Bst} (hl : l.length ≤ 60) (hx : ∀ x ∈ l, BstOk x) : ∀ i, i ≤ l.length → BI n ss i i (qdk n ss (l.take i)).1 ∧ 0 ≤ (qdk n ss (l.take i)).2 ∧ (qdk n ss (l.take i)).2 ≤ 1000 * (i : Int)
 | 0, _ => ⟨q60 hn, by simp [qdk], by simp [qdk]⟩
 | i + 1, h => by
  obtain ⟨h1, h2, h3⟩ := q4x hn hl hx i (by omega)
  have hs := hx _ (List.getElem_mem (show i < l.length by omega))
  rw [q1v n ss (show i < l.length by omega)]
  have hnow := xog (n := n) (ss := ss) (x := qdk n ss (l.take i)) hs
  exact ⟨xri hn h1 (by omega) hs, by omega, by push_cast; omega⟩
def qxm (l : List Bst) (b : Brk) (now : Int) (i : Nat) : St :=
 ⟨[(1, true, .d (.sl 11 (l.map qaa))), (8, true, .d (.ptr 0 0)), (10, true, .d (.int .i64 now)), (11, true, .d (.int .i64 (i : Nat)))], [.row (qo b), stoO b.s 2, mapO b.s.m, qmO b.q, tmO b.t], [0], 1⟩
set_option maxRecDepth 10000 in
set_option maxHeartbeats 1000000 in
theorem xoh (a c : Nat) (ha : a < 256) (hc : c < 256) (l : List Bst) (hl : l.length ≤ 40) (hx : ∀ x ∈ l, BstOk x) (n ss : Nat) (en : n = qdd a) (es : ss = qdd c) :
  qg Tryz.prog 13 [.d (.agg [.int .u8 (a : Nat), .int .u8 (c : Nat)]), .d (.sl 11 (l.map qaa))] [] (.tup [.d (.ptr 0 0), .d (.int .i64 (qdk n ss l).2)]) (brO (qdk n ss l).1) := by
 have hn : NS n ss := by
  subst en; subst es
  unfold qdd
  exact ⟨by omega, by omega, by omega, by omega⟩
 have kn := quu a c ha hc
 rw [← en, ← es] at kn
 have hpos : posB (n : Int) (ss : Int) = true := by
  have h1 : n ≤ 4 := by rw [en]; unfold qdd; omega
  have h2 : ss ≤ 4 := by rw [es]; unfold qdd; omega
  have h3 := hn.n1
  have h4 := hn.s1
  have key : ∀ x y : Fin 5, 1 ≤ x.val → 1 ≤ y.val → posB (x.val : Int) (y.val : Int) = true := by decide
  exact key ⟨n, by omega⟩ ⟨ss, by omega⟩ h3 h4
 have k0 := xe7 n ss hpos
 simp only [brO, qo, stoO, mapO, qmO, tmO] at k0
 refine F13d.goT ?_
 try (refine ev ?_; try exact True.intro)
 (repeat (with_reducible refine ob ?_)); first | refine cl F37 (kn) ?_ | refine clF F37 (kn) (fun _ => by (refine ev2 @qe.eq_1 @xj.eq_1 ?_; try exact True.intro)) ?_
 try (refine ev ?_; try exact True.intro)
 refine clT [1, 2, 3, 4, 5] F45n k0 ?_
 try (refine ev ?_; try exact True.intro)
 refine qdg [5, 0, 1, 2, 3, 4] [.row (ze (vg n ss) 208), stoO (vg n ss).s 2, mapO (vg n ss).s.m, qmO (vg n ss).q, tmO (vg n ss).t, .row [.d (.int .u8 (a : Nat)), .d (.int .u8 (c : Nat))]] ?_ (by try (refine ev5 @ze.eq_1 @mapO.eq_1 @stoO.eq_1 @qmO.eq_1 @tmO.eq_1 ?_; try exact True.intro)) (hp := rfl)
 refine pu ?_
 refine qj (fun i : { i : Nat // i ≤ l.length } => qxm l (qdk n ss (l.take i.val)).1 (qdk n ss (l.take i.val)).2 i.val) (fun i => l.length - i.val) ⟨0, Nat.zero_le _⟩ ?_ (fun i => ?_)
 ·try simp only [qxm, qdk, List.take_zero, List.foldl_nil, qo, ze, mapO, stoO, qmO, tmO, Int.ofNat_zero, go_sem, Nat.reduceAdd, Nat.reduceMul, Nat.reduceSub, Nat.reduceEqDiff, Nat.reduceLT, Nat.reduceLeDiff, Nat.reduceBEq, reduceIte, reduceCtorEq, Int.reduceAdd, Int.reduceLT, Int.reduceLE, Int.reduceGT, Int.reduceGE, Int.reduceEq, Int.reduceNe, Int.reduceBEq, Int.reduceBNe, Int.reduceToNat, Int.reduceNeg]
 obtain ⟨i, hi⟩ := i
 obtain ⟨HI, hn0, hn1⟩ := q4x hn (by omega) hx i hi
 have hsuc := fun h => q1v n ss (l := l) (i := i) h
 dsimp only
 generalize hX : qdk n ss (l.take i) = X at HI hn0 hn1 hsuc ⊢
 obtain ⟨b, now⟩ := X
 simp only at HI hn0 hn1
 try (refine ev6 @qxm.eq_1 @qo.eq_1 @stoO.eq_1 @mapO.eq_1 @qmO.eq_1 @tmO.eq_1 ?_; try exact True.intro)
 refine xn _ (fun h => ?_) (fun h => ?_)
 ·have hil : i < l.length := by simpa using h
  have hs := hx _ (List.getElem_mem hil)
  have hsu := hsuc hil
  have hs0 := hs.n0
  have hs1 := hs.n1
  have kr := qlk hn HI (by omega) l[i].p hs.sm hs.w
  have kt := qxj hn HI (by omega) (by omega) (now + l[i].n)
  have kb := xkj hn HI (by omega) l[i].n
  have hw : IntKind.i64.wrap (now + l[i].n) = now + l[i].n := wrap_i64 (by omega) (by omega)
  unfold q1u at hsu
  try simp only [qi qaa l hil, qaa, go_sem, Nat.reduceAdd, Nat.reduceMul, Nat.reduceSub, Nat.reduceEqDiff, Nat.reduceLT, Nat.reduceLeDiff, Nat.reduceBEq, reduceIte, reduceCtorEq, Int.reduceAdd, Int.reduceLT, Int.reduceLE, Int.reduceGT, Int.reduceGE, Int.reduceEq, Int.reduceNe, Int.reduceBEq, Int.reduceBNe, Int.reduceToNat, Int.reduceNeg]
  (repeat (with_reducible refine ob ?_))
  refine xn _ (fun h0 => ?_) (fun h0 => ?_)
  ·rw [if_pos (by simpa using h0)] at hsu
   try simp only [qi qaa l hil, qaa, go_sem, Nat.reduceAdd, Nat.reduceMul, Nat.reduceSub, Nat.reduceEqDiff, Nat.reduceLT, Nat.reduceLeDiff, Nat.reduceBEq, reduceIte, reduceCtorEq, Int.reduceAdd, Int.reduceLT, Int.reduceLE, Int.reduceGT, Int.reduceGE, Int.reduceEq, Int.reduceNe, Int.reduceBEq, Int.reduceBNe, Int.reduceToNat, Int.reduceNeg]
   (repeat (with_reducible refine ob ?_))
   simp only [brO, qo, stoO, mapO, qmO, tmO, qe] at kr
   generalize zw b l[i].p = R at kr hsu
   obtain ⟨b1, e1, cc⟩ := R
   simp only [afB, qo, stoO, mapO, qmO, tmO] at kr hsu
   cases cc
   ·refine clT [0, 1, 2, 3, 4, 5] F21d kr ?_
    try (refine ev ?_; try exact True.intro)
    refine pu ?_
    try (refine ev ?_; try exact True.intro)
    refine ⟨⟨i + 1, hil⟩, ?_, by dsimp only; omega⟩
    simp only [hsu]
    try simp only [qxm, qo, ze, qgw, stoO, mapO, qmO, tmO, qf (show i < 9223372036854775807 by omega), go_sem, Nat.reduceAdd, Nat.reduceMul, Nat.reduceSub, Nat.reduceEqDiff, Nat.reduceLT, Nat.reduceLeDiff, Nat.reduceBEq, reduceIte, reduceCtorEq, Int.reduceAdd, Int.reduceLT, Int.reduceLE, Int.reduceGT, Int.reduceGE, Int.reduceEq, Int.reduceNe, Int.reduceBEq, Int.reduceBNe, Int.reduceToNat, Int.reduceNeg]
   ·refine clT [0, 1, 2, 3, 4, 5] F21d kr ?_
    try (refine ev ?_; try exact True.intro)
    refine qdg [0, 1, 5, 3, 4, 2] [.row (ze b1 288), stoO b1.s 2, mapO b1.s.m, qmO b1.q, tmO b1.t, mapO b.s.m] ?_ (by try (refine ev5 @ze.eq_1 @mapO.eq_1 @stoO.eq_1 @qmO.eq_1 @tmO.eq_1 ?_; try exact True.intro)) (hp := rfl)
    refine pu ?_
    try (refine ev ?_; try exact True.intro)
    refine ⟨⟨i + 1, hil⟩, ?_, by dsimp only; omega⟩
    simp only [hsu]
    try simp only [qxm, qo, ze, qgw, stoO, mapO, qmO, tmO, qf (show i < 9223372036854775807 by omega), go_sem, Nat.reduceAdd, Nat.reduceMul, Nat.reduceSub, Nat.reduceEqDiff, Nat.reduceLT, Nat.reduceLeDiff, Nat.reduceBEq, reduceIte, reduceCtorEq, Int.reduceAdd, Int.reduceLT, Int.reduceLE, Int.reduceGT, Int.reduceGE, Int.reduceEq, Int.reduceNe, Int.reduceBEq, Int.reduceBNe, Int.reduceToNat, Int.reduceNeg]
  rw [if_neg (by simpa using h0)] at hsu
  try (refine ev ?_; try exact True.intro)
  refine xn _ (fun h1 => ?_) (fun h1 => ?_)
  ·rw [if_pos (by simpa using h1)] at hsu
   try simp only [qi qaa l hil, qaa, hw, go_sem, Nat.reduceAdd, Nat.reduceMul, Nat.reduceSub, Nat.reduceEqDiff, Nat.reduceLT, Nat.reduceLeDiff, Nat.reduceBEq, reduceIte, reduceCtorEq, Int.reduceAdd, Int.reduceLT, Int.reduceLE, Int.reduceGT, Int.reduceGE, Int.reduceEq, Int.reduceNe, Int.reduceBEq, Int.reduceBNe, Int.reduceToNat, Int.reduceNeg]
   (repeat (with_reducible refine ob ?_))
   simp only [brO, tkO, qo, qgw, stoO, mapO, qmO, tmO] at kt
   generalize qr2 b (now + l[i].n) n ss = O at kt
   generalize qfb b (now + l[i].n) n ss = b1 at kt hsu
   refine clT [0, 1, 2, 3, 4, 5] F14t kt ?_
   try (refine ev ?_; try exact True.intro)
   refine qdg [0, 1, 2, 3, 5, 4] [.row (ze b1 (384 + List.idxOf 0 [1, 0])), stoO b1.s 2, mapO b1.s.m, qmO b1.q, tmO b1.t, tmO b.t] ?_ (by try (refine ev5 @ze.eq_1 @mapO.eq_1 @stoO.eq_1 @qmO.eq_1 @tmO.eq_1 ?_; try exact True.intro)) (hp := rfl)
   refine pu ?_
   try (refine ev ?_; try exact True.intro)
   refine ⟨⟨i + 1, hil⟩, ?_, by dsimp only; omega⟩
   simp only [hsu]
   try simp only [qxm, qo, ze, qgw, stoO, mapO, qmO, tmO, qf (show i < 9223372036854775807 by omega), go_sem, Nat.reduceAdd, Nat.reduceMul, Nat.reduceSub, Nat.reduceEqDiff, Nat.reduceLT, Nat.reduceLeDiff, Nat.reduceBEq, reduceIte, reduceCtorEq, Int.reduceAdd, Int.reduceLT, Int.reduceLE, Int.reduceGT, Int.reduceGE, Int.reduceEq, Int.reduceNe, Int.reduceBEq, Int.reduceBNe, Int.reduceToNat, Int.reduceNeg]
  rw [if_neg (by simpa using h1)] at hsu
  try (refine ev ?_; try exact True.intro)
  refine xn _ (fun h2 => ?_) (fun h2 => ?_)
  ·rw [if_pos (by simpa using h2)] at hsu
   try simp only [qi qaa l hil, qaa, go_sem, Nat.reduceAdd, Nat.reduceMul, Nat.reduceSub, Nat.reduceEqDiff, Nat.reduceLT, Nat.reduceLeDiff, Nat.reduceBEq, reduceIte, reduceCtorEq, Int.reduceAdd, Int.reduceLT, Int.reduceLE, Int.reduceGT, Int.reduceGE, Int.reduceEq, Int.reduceNe, Int.reduceBEq, Int.reduceBNe, Int.reduceToNat, Int.reduceNeg]
   (repeat (with_reducible refine ob ?_))
   simp only [brO, qo, stoO, mapO, qmO, tmO, qe] at kb
   generalize qb8 b l[i].n = R at kb hsu
   obtain ⟨b1, e1, cc⟩ := R
   simp only [afB, qo, stoO, mapO, qmO, tmO] at kb hsu
   cases cc
   ·refine clT [0, 1, 2, 3, 4, 5] F41d kb ?_
    try (refine ev ?_; try exact True.intro)
    refine pu ?_
    try (refine ev ?_; try exact True.intro)
    refine ⟨⟨i + 1, hil⟩, ?_, by dsimp only; omega⟩
    simp only [hsu]
    try simp only [qxm, qo, ze, qgw, stoO, mapO, qmO, tmO, qf (show i < 9223372036854775807 by omega), go_sem, Nat.reduceAdd, Nat.reduceMul, Nat.reduceSub, Nat.reduceEqDiff, Nat.reduceLT, Nat.reduceLeDiff, Nat.reduceBEq, reduceIte, reduceCtorEq, Int.reduceAdd, Int.reduceLT, Int.reduceLE, Int.reduceGT, Int.reduceGE, Int.reduceEq, Int.reduceNe, Int.reduceBEq, Int.reduceBNe, Int.reduceToNat, Int.reduceNeg]
   ·refine clT [0, 1, 2, 3, 4, 5] F41d kb ?_
    try (refine ev ?_; try exact True.intro)
    refine qdg [0, 1, 5, 3, 4, 2] [.row (ze b1 352), stoO b1.s 2, mapO b1.s.m, qmO b1.q, tmO b1.t, mapO b.s.m] ?_ (by try (refine ev5 @ze.eq_1 @mapO.eq_1 @stoO.eq_1 @qmO.eq_1 @tmO.eq_1 ?_; try exact True.intro)) (hp := rfl)
    refine pu ?_
    try (refine ev ?_; try exact True.intro)
    refine ⟨⟨i + 1, hil⟩, ?_, by dsimp only; omega⟩
    simp only [hsu]
    try simp only [qxm, qo, ze, qgw, stoO, mapO, qmO, tmO, qf (show i < 9223372036854775807 by omega), go_sem, Nat.reduceAdd, Nat.reduceMul, Nat.reduceSub, Nat.reduceEqDiff, Nat.reduceLT, Nat.reduceLeDiff, Nat.reduceBEq, reduceIte, reduceCtorEq, Int.reduceAdd, Int.reduceLT, Int.reduceLE, Int.reduceGT, Int.reduceGE, Int.reduceEq, Int.reduceNe, Int.reduceBEq, Int.reduceBNe, Int.reduceToNat, Int.reduceNeg]
  rw [if_neg (by simpa using h2)] at hsu
  try (refine ev ?_; try exact True.intro)
  refine pu ?_
  try (refine ev ?_; try exact True.intro)
  refine ⟨⟨i + 1, hil⟩, ?_, by dsimp only; omega⟩
  simp only [hsu]
  try simp only [qxm, qo, ze, qgw, stoO, mapO, qmO, tmO, qf (show i < 9223372036854775807 by omega), go_sem, Nat.reduceAdd, Nat.reduceMul, Nat.reduceSub, Nat.reduceEqDiff, Nat.reduceLT, Nat.reduceLeDiff, Nat.reduceBEq, reduceIte, reduceCtorEq, Int.reduceAdd, Int.reduceLT, Int.reduceLE, Int.reduceGT, Int.reduceGE, Int.reduceEq, Int.reduceNe, Int.reduceBEq, Int.reduceBNe, Int.reduceToNat, Int.reduceNeg]
 ·have hie : i = l.length := by simp at h; omega
  subst hie
  rw [List.take_length] at hX
  try (refine ev1 @hX ?_; try exact True.intro)
  refine pu ?_
  try (refine ev6 @brO.eq_1 @qo.eq_1 @stoO.eq_1 @mapO.eq_1 @qmO.eq_1 @tmO.eq_1 ?_; try exact True.intro)
end Go.Proofs.YtkcdbcbpbolgkaaGreatDoor
namespace Go.Proofs.YtkcdbcbpbolgkaaGreatDoor
open Go.Abs
attribute [-go_sem] qfj
noncomputable section
set_option maxRecDepth 100000
set_option linter.defProp false
def d16d := cut Tryz.prog Tryz.f16 news [] [] true
@[go_sem] def E16d := ql d16d
def F16d := fnC d16d follows Tryz.func16
def d19d := cut Tryz.prog Tryz.f19 news [] [] true
@[go_sem] def E19d := ql d19d
def F19d := fnC d19d follows Tryz.func19
end
end Go.Proofs.YtkcdbcbpbolgkaaGreatDoor
namespace Go.Proofs.YtkcdbcbpbolgkaaGreatDoor
open Go.Abs
attribute [-go_sem] qfj
def wg (b : Brk) : List ASlot := [.d (.int .i64 b.roles), .d (.int .i64 b.sess), .d (.ptr 1 0), .d (.map 3), .d (.int .i64 b.m.roles), .d (.sl 4 (b.m.ents.map qn)), .d (.sl 10 (b.p.map xj)), .d (.map 4)]
def brF (b : Brk) : List AObj := [.row (wg b), stoO b.s 2, mapO b.s.m, qmO b.q, tmO b.t]
def SqF (b : Brk) (q : Qu) (i : { i : Nat // i ≤ q.items.length }) : St :=
 ⟨[(8, true, .d (.ptr 5 0)), (9, true, .d (.ptr 6 0)), (34, true, .d (.sl 9 (q.items.map qe))), (35, true, .d (.int .i64 q.items.length)), (36, true, .d (.int .i64 (i.val : Nat)))],
  [.row (wg b), stoO b.s 2, mapO b.s.m, qmO b.q, tmO b.t, .row [.d (.int .i64 0), .d (.int .i64 0), .d .nilsl], .row [.d (.int .i64 q.acc), .d (.int .i64 q.cons), .own 0 9 ((q.items.take i.val).map qe)]], [0], 1⟩
set_option maxRecDepth 10000 in
theorem qll (b : Brk) (s f t : Int) (hq : (b.queue ⟨s, f, t⟩).Sm) :
  qg Tryz.prog 16 [.d (.ptr 0 0), .d (.int .i64 s), .d (.int .i64 f), .d (.int .i64 t)] (brF b) (.d (.agg (encQ (b.queue ⟨s, f, t⟩)))) (brF b) := by
 have hl := hq.1
 have hg : b.queue ⟨s, f, t⟩ = (b.q.get ⟨s, f, t⟩).getD noQ := rfl
 generalize b.queue ⟨s, f, t⟩ = q at hq hl hg ⊢
 refine F16d.go ?_
 try (refine ev6 @brF.eq_1 @wg.eq_1 @stoO.eq_1 @mapO.eq_1 @qmO.eq_1 @tmO.eq_1 ?_; try exact True.intro)
 (repeat (with_reducible refine ob ?_)); refine no_ ?_
 try (refine ev ?_; try exact True.intro)
 cases hc : b.q.get ⟨s, f, t⟩ with
 | none =>
  rw [hc] at hg
  subst hg
  try simp only [hc, lkQ, qjs, encQ, noQ, go_sem, Nat.reduceAdd, Nat.reduceMul, Nat.reduceSub, Nat.reduceEqDiff, Nat.reduceLT, Nat.reduceLeDiff, Nat.reduceBEq, reduceIte, reduceCtorEq, Int.reduceAdd, Int.reduceLT, Int.reduceLE, Int.reduceGT, Int.reduceGE, Int.reduceEq, Int.reduceNe, Int.reduceBEq, Int.reduceBNe, Int.reduceToNat, Int.reduceNeg]
  refine qj (fun _ : Unit => SqF b noQ ⟨0, Nat.zero_le _⟩) (fun _ => 0) () ?_ (fun _ => ?_)
  ·try simp only [SqF, noQ, wg, stoO, mapO, qmO, tmO, List.map_nil, List.take_nil, List.length_nil, Int.ofNat_zero, go_sem, Nat.reduceAdd, Nat.reduceMul, Nat.reduceSub, Nat.reduceEqDiff, Nat.reduceLT, Nat.reduceLeDiff, Nat.reduceBEq, reduceIte, reduceCtorEq, Int.reduceAdd, Int.reduceLT, Int.reduceLE, Int.reduceGT, Int.reduceGE, Int.reduceEq, Int.reduceNe, Int.reduceBEq, Int.reduceBNe, Int.reduceToNat, Int.reduceNeg]
  try simp only [SqF, noQ, wg, stoO, mapO, qmO, tmO, List.map_nil, List.take_nil, List.length_nil, Int.ofNat_zero, go_sem, Nat.reduceAdd, Nat.reduceMul, Nat.reduceSub, Nat.reduceEqDiff, Nat.reduceLT, Nat.reduceLeDiff, Nat.reduceBEq, reduceIte, reduceCtorEq, Int.reduceAdd, Int.reduceLT, Int.reduceLE, Int.reduceGT, Int.reduceGE, Int.reduceEq, Int.reduceNe, Int.reduceBEq, Int.reduceBNe, Int.reduceToNat, Int.reduceNeg]
  (repeat (with_reducible refine ob ?_)); refine no_ ?_
  try (refine ev ?_; try exact True.intro)
  refine pu ?_
  try simp only [encQ, noQ, Option.getD_none, List.map_nil, wg, stoO, mapO, qmO, tmO, go_sem, Nat.reduceAdd, Nat.reduceMul, Nat.reduceSub, Nat.reduceEqDiff, Nat.reduceLT, Nat.reduceLeDiff, Nat.reduceBEq, reduceIte, reduceCtorEq, Int.reduceAdd, Int.reduceLT, Int.reduceLE, Int.reduceGT, Int.reduceGE, Int.reduceEq, Int.reduceNe, Int.reduceBEq, Int.reduceBNe, Int.reduceToNat, Int.reduceNeg]
 | some q' =>
  rw [hc] at hg
  simp only [Option.getD_some] at hg
  subst hg
  try simp only [hc, lkQ, qjs, encQ, encQ, go_sem, Nat.reduceAdd, Nat.reduceMul, Nat.reduceSub, Nat.reduceEqDiff, Nat.reduceLT, Nat.reduceLeDiff, Nat.reduceBEq, reduceIte, reduceCtorEq, Int.reduceAdd, Int.reduceLT, Int.reduceLE, Int.reduceGT, Int.reduceGE, Int.reduceEq, Int.reduceNe, Int.reduceBEq, Int.reduceBNe, Int.reduceToNat, Int.reduceNeg]
  refine qj (SqF b q) (fun i => (q).items.length - i.val) ⟨0, Nat.zero_le _⟩ ?_ (fun i => ?_)
  ·try (refine ev7 @SqF.eq_1 @encQ.eq_1 @wg.eq_1 @stoO.eq_1 @mapO.eq_1 @qmO.eq_1 @tmO.eq_1 ?_; try exact True.intro)
  ·obtain ⟨i, hi⟩ := i
   try (refine ev6 @SqF.eq_1 @wg.eq_1 @stoO.eq_1 @mapO.eq_1 @qmO.eq_1 @tmO.eq_1 ?_; try exact True.intro)
   (repeat (with_reducible refine ob ?_)); refine xn _ (fun h => ?_) (fun h => ?_)
   ·have hil : i < (q).items.length := by simpa using h
    have hp := hq.2 _ (List.getElem_mem hil)
    have hp1 := hp.1
    have hp2 := hp.2
    try simp only [qi qe (q).items hil, qe, go_sem, Nat.reduceAdd, Nat.reduceMul, Nat.reduceSub, Nat.reduceEqDiff, Nat.reduceLT, Nat.reduceLeDiff, Nat.reduceBEq, reduceIte, reduceCtorEq, Int.reduceAdd, Int.reduceLT, Int.reduceLE, Int.reduceGT, Int.reduceGE, Int.reduceEq, Int.reduceNe, Int.reduceBEq, Int.reduceBNe, Int.reduceToNat, Int.reduceNeg]
    (repeat (with_reducible refine ob ?_))
    refine ⟨⟨i + 1, hil⟩, ?_, by dsimp only; omega⟩
    try simp only [SqF, wk qe (q).items hil, qe, qf (show i < 9223372036854775807 by omega), wg, stoO, mapO, qmO, tmO, go_sem, Nat.reduceAdd, Nat.reduceMul, Nat.reduceSub, Nat.reduceEqDiff, Nat.reduceLT, Nat.reduceLeDiff, Nat.reduceBEq, reduceIte, reduceCtorEq, Int.reduceAdd, Int.reduceLT, Int.reduceLE, Int.reduceGT, Int.reduceGE, Int.reduceEq, Int.reduceNe, Int.reduceBEq, Int.reduceBNe, Int.reduceToNat, Int.reduceNeg]
   ·have hil : i = (q).items.length := by simp at h; omega
    subst hil
    try (refine ev1 @List.take_length.{0} ?_; try exact True.intro)
    refine pu ?_
    try (refine ev6 @encQ.eq_1 @wg.eq_1 @stoO.eq_1 @mapO.eq_1 @qmO.eq_1 @tmO.eq_1 ?_; try exact True.intro)
def SmF (b : Brk) (i : { i : Nat // i ≤ b.m.ents.length }) : St :=
 ⟨[(2, true, .d (.ptr 5 0)), (3, true, .d (.ptr 6 0)), (19, true, .d (.sl 4 (b.m.ents.map qn))), (20, true, .d (.int .i64 b.m.ents.length)), (21, true, .d (.int .i64 (i.val : Nat)))],
  [.row (wg b), stoO b.s 2, mapO b.s.m, qmO b.q, tmO b.t, .row [.d (.int .i64 0), .d .nilsl], .row [.d (.int .i64 b.m.roles), .own 0 4 ((b.m.ents.take i.val).map qn)]], [0], 1⟩
set_option maxRecDepth 10000 in
theorem qgx (b : Brk) (hm : b.m.Sm) : qg Tryz.prog 19 [.d (.ptr 0 0)] (brF b) (.d (.agg (qu b.m))) (brF b) := by
 have hl := hm.1
 refine F19d.go ?_
 try (refine ev6 @brF.eq_1 @wg.eq_1 @stoO.eq_1 @mapO.eq_1 @qmO.eq_1 @tmO.eq_1 ?_; try exact True.intro)
 (repeat (with_reducible refine ob ?_)); refine no_ ?_
 try (refine ev ?_; try exact True.intro)
 refine qj (SmF b) (fun i => b.m.ents.length - i.val) ⟨0, Nat.zero_le _⟩ ?_ (fun i => ?_)
 ·try (refine ev6 @SmF.eq_1 @wg.eq_1 @stoO.eq_1 @mapO.eq_1 @qmO.eq_1 @tmO.eq_1 ?_; try exact True.intro)
 ·obtain ⟨i, hi⟩ := i
  try (refine ev6 @SmF.eq_1 @wg.eq_1 @stoO.eq_1 @mapO.eq_1 @qmO.eq_1 @tmO.eq_1 ?_; try exact True.intro)
  (repeat (with_reducible refine ob ?_)); refine xn _ (fun h => ?_) (fun h => ?_)
  ·have hil : i < b.m.ents.length := by simpa using h
   have hp := hm.2 _ (List.getElem_mem hil)
   have hp1 := hp.1
   have hp2 := hp.2
   try simp only [qi qn b.m.ents hil, qn, go_sem, Nat.reduceAdd, Nat.reduceMul, Nat.reduceSub, Nat.reduceEqDiff, Nat.reduceLT, Nat.reduceLeDiff, Nat.reduceBEq, reduceIte, reduceCtorEq, Int.reduceAdd, Int.reduceLT, Int.reduceLE, Int.reduceGT, Int.reduceGE, Int.reduceEq, Int.reduceNe, Int.reduceBEq, Int.reduceBNe, Int.reduceToNat, Int.reduceNeg]
   (repeat (with_reducible refine ob ?_))
   refine ⟨⟨i + 1, hil⟩, ?_, by dsimp only; omega⟩
   try simp only [SmF, wk qn b.m.ents hil, qn, qf (show i < 9223372036854775807 by omega), wg, stoO, mapO, qmO, tmO, go_sem, Nat.reduceAdd, Nat.reduceMul, Nat.reduceSub, Nat.reduceEqDiff, Nat.reduceLT, Nat.reduceLeDiff, Nat.reduceBEq, reduceIte, reduceCtorEq, Int.reduceAdd, Int.reduceLT, Int.reduceLE, Int.reduceGT, Int.reduceGE, Int.reduceEq, Int.reduceNe, Int.reduceBEq, Int.reduceBNe, Int.reduceToNat, Int.reduceNeg]
  ·have hil : i = b.m.ents.length := by simp at h; omega
   subst hil
   try (refine ev1 @List.take_length.{0} ?_; try exact True.intro)
   refine pu ?_
   try (refine ev6 @qu.eq_1 @wg.eq_1 @stoO.eq_1 @mapO.eq_1 @qmO.eq_1 @tmO.eq_1 ?_; try exact True.intro)
theorem q62 (b : Brk) (hf : b.s.file.length ≤ 1000000000) : qg Tryz.prog 38 [.d (.ptr 0 0)] (brF b) (.d (.agg (wz b.s.file b.s.synced))) (brF b) := by
 have kl := xcq b.s hf
 simp only [mapO, stoO] at kl
 refine F38.go ?_
 try (refine ev6 @brF.eq_1 @wg.eq_1 @stoO.eq_1 @mapO.eq_1 @qmO.eq_1 @tmO.eq_1 ?_; try exact True.intro)
 (repeat (with_reducible refine ob ?_)); refine no_ ?_
 try (refine ev ?_; try exact True.intro)
 simp only [wz] at kl
 (repeat (with_reducible refine ob ?_)); refine clO [1, 2] F62 (kl) ?_ (hfit := by first | exact ⟨qc, trivial⟩ | exact ⟨qc, qc, trivial⟩ | (refine ev5 @qe.eq_1 @encQ.eq_1 @qn.eq_1 @qu.eq_1 @xj.eq_1 ?_; try exact True.intro))
 try (refine ev1 @wz.eq_1 ?_; try exact True.intro)
end Go.Proofs.YtkcdbcbpbolgkaaGreatDoor
namespace Go.Proofs.YtkcdbcbpbolgkaaGreatDoor
open Go.Abs
section
variable {n ss k j : Nat} {b : Brk} {p : Pk}
theorem xfi {R : Brk × Int × Bool} (h : Rcv n ss k j b p R) (he : R.2.1 ≠ 0) : R.1.s = b.s ∧ R.1.m = b.m ∧ (∀ x, R.1.queue x = b.queue x) ∧ R.2.2 = false := by
 cases h with
 | no e _ _ => exact ⟨rfl, rfl, fun _ => rfl, rfl⟩
 | dup _ _ _ _ _ => exact ⟨rfl, rfl, fun _ => rfl, rfl⟩
 | data _ _ _ _ _ _ _ => exact absurd rfl he
 | ack _ _ _ _ _ _ => exact absurd rfl he
 | rep _ _ _ _ => exact absurd rfl he
theorem xfj {R : Brk × Int × Bool} (h : Rcv n ss k j b p R) {x : Pr} (hx : x ≠ p.key) : R.1.queue x = b.queue x := by
 cases h with
 | no e _ _ => rfl
 | dup _ _ _ _ _ => rfl
 | data s' _ _ _ _ _ _ =>
  show ({ b with s := s', q := b.q.put p.key (zb (b.queue p.key) p).1 } : Brk).queue x = _
  rw [qb9, if_neg hx]
 | ack s' _ _ _ _ _ => rw [qb9, if_neg hx]
 | rep _ _ _ _ => rfl
theorem xoi {R : Brk × Int × Bool} (h : Rcv n ss k j b p R) (hk : p.kind ≠ 4) : R.1.m = b.m := by
 cases h with
 | no e _ _ => rfl
 | dup _ _ _ _ _ => rfl
 | data s' _ _ _ _ _ _ => rfl
 | ack s' _ _ _ _ _ => rfl
 | rep _ h _ _ => exact absurd h hk
theorem xlk {R : Brk × Int × Bool} (h : Rcv n ss k j b p R) (H : BI n ss k j b) : BI n ss (k + 1) j R.1 := by
 cases h with
 | no e _ _ => exact H.mono (Nat.le_succ k) (Nat.le_refl j)
 | dup _ _ _ _ H' => exact H'
 | data _ _ _ _ _ _ H' => exact H'
 | ack _ _ _ _ _ H' => exact H'
 | rep _ _ _ H' => exact H'
theorem q1w {m : Mg} (hm : MW m) {p : Pk} (hk : p.kind = 4) (h : (xk m p).2 = 0) : (xk (xk m p).1 p).2 ≠ 0 := by
 have hg : (!zd m || p.kind != 4 || !qk p || decide (p.from_ ≥ m.roles)) = false := by
  cases hgg : (!zd m || p.kind != 4 || !qk p || decide (p.from_ ≥ m.roles)) with
  | false => rfl
  | true => unfold xk at h; rw [if_pos hgg] at h; cases h
 obtain ⟨_, _, hv, g4, g5⟩ := xns hg
 obtain ⟨hp, hl⟩ := xe8 hk hv
 have hs : 1 ≤ p.sess ∧ p.sess ≤ 32 := by
  simp only [qk, qez, Bool.and_eq_true, decide_eq_true_eq] at hv
  omega
 rw [hp] at h ⊢
 generalize p.sess = s at h hs ⊢
 generalize p.from_ = r at h g4 g5 ⊢
 generalize p.label = label at h hl ⊢
 rcases qe7 m s r label hm hs.1 hs.2 g5 g4 hl with e | ⟨k, hk', hks, _, hb, _, e, he, hw⟩
 ·exact absurd h e
 ·rw [e]
  intro h2
  rcases qe7 ⟨m.roles, m.ents.set k (ya (jt (k9 s r label) m.ents[k]))⟩ s r label hw hs.1 hs.2 g5 g4 hl with e2 | ⟨k2, hk2, hks2, _, hb2, _, _, _, _⟩
  ·exact absurd h2 e2
  ·have hkk : k2 = k := by
    have hlen : k2 < m.ents.length := by simpa using hk2
    by_cases hkk : k2 = k
    ·exact hkk
    ·have hne : ¬ k = k2 := fun h => hkk h.symm
     have hks3 : m.ents[k2].sess = s := by
      have := hks2
      simp only [List.getElem_set, if_neg hne] at this
      exact this
     exfalso
     have hp := hm.inc
     rcases Nat.lt_or_gt_of_ne hkk with hlt | hlt
     ·have := (List.pairwise_iff_getElem.1 hp) k2 k (by simpa using hlen) (by simpa using hk') hlt
      simp only [List.getElem_map] at this; omega
     ·have := (List.pairwise_iff_getElem.1 hp) k k2 (by simpa using hk') (by simpa using hlen) hlt
      simp only [List.getElem_map] at this; omega
   subst hkk
   simp only [List.getElem_set_self] at hb2
   have hx := hm.en _ (List.getElem_mem hk')
   have h1 := hx.ml
   have h3 := hx.ol
   have hr1 : r.toNat < m.ents[k2].moved.length := by omega
   have hr2 : r.toNat < m.ents[k2].opened.length := by omega
   rcases hl with rfl | rfl
   ·simp [qa8, jt, ya, k9, List.getD, hr1] at hb2
   ·simp [qa8, jt, ya, k9, List.getD, hr2] at hb2
theorem q97 (hn : NS n ss) (H : BI n ss k j b) (hk : k ≤ 60) (hw : p.W) : (zw (zw b p).1 p).2.1 ≠ 0 := by
 have h1 := qd6 hn H (by omega) p hw
 have H1 := xlk h1 H
 have h2 := qd6 hn H1 (by omega) p hw
 have hself : ∀ e, zw b p = (b, e, false) → e ≠ 0 → (zw (zw b p).1 p).2.1 ≠ 0 := fun e h he => by rw [h]; show (zw b p).2.1 ≠ 0; rw [h]; exact he
 generalize hR : zw b p = R at h1 H1 h2 hself ⊢
 cases h1 with
 | no e he _ => exact hself e rfl he
 | dup hk1 hx ho hv H' =>
  intro h0
  generalize zw (qfa b p) p = R2 at h2 h0
  cases h2 with
  | no e he _ => exact he h0
  | dup _ _ _ _ _ => cases h0
  | data _ _ _ _ ho2 _ _ =>
   have : (zb (b.queue p.key) p).2 = 0 := ho2
   rw [ho] at this; cases this
  | ack _ _ hk2 _ _ _ => omega
  | rep _ hk2 _ _ => omega
 | data s' c hk1 hx ho hv H' =>
  intro h0
  have hq : ({ b with s := s', q := b.q.put p.key (zb (b.queue p.key) p).1, p := b.p ++ [⟨p.from_, (qjt p).1⟩] } : Brk).queue p.key = (zb (b.queue p.key) p).1 := by
   show ({ b with s := s', q := b.q.put p.key (zb (b.queue p.key) p).1 } : Brk).queue p.key = _
   rw [qb9, if_pos rfl]
  have he := (qh0 ho).2.2.2.2.2
  generalize zw _ p = R2 at h2 h0
  cases h2 with
  | no e he _ => exact he h0
  | dup _ _ _ _ _ => cases h0
  | data _ _ _ _ ho2 _ _ =>
   rw [hq] at ho2
   have := (qh0 ho2).2.2.2.1
   rw [he] at this
   simp only at this; omega
  | ack _ _ hk2 _ _ _ => omega
  | rep _ hk2 _ _ => omega
 | ack s' c hk1 hx ho H' =>
  intro h0
  have hq : ({ b with s := s', q := b.q.put p.key (xt (b.queue p.key) p.seq).1 } : Brk).queue p.key = (xt (b.queue p.key) p.seq).1 := by
   rw [qb9, if_pos rfl]
  have he := (qgu ho).2.2.2
  generalize zw _ p = R2 at h2 h0
  cases h2 with
  | no e he _ => exact he h0
  | dup hk2 _ _ _ _ => omega
  | data _ _ hk2 _ _ _ _ => omega
  | ack _ _ _ _ ho2 _ =>
   rw [hq] at ho2
   have := (qgu ho2).2.2.1
   rw [he] at this
   simp only at this; omega
  | rep _ hk2 _ _ => omega
 | rep s' hk1 ho H' =>
  intro h0
  generalize zw _ p = R2 at h2 h0
  cases h2 with
  | no e he _ => exact he h0
  | dup hk2 _ _ _ _ => omega
  | data _ _ hk2 _ _ _ _ => omega
  | ack _ _ hk2 _ _ _ => omega
  | rep _ hk2 ho2 _ => exact q1w H.mw hk1 ho ho2
end
end Go.Proofs.YtkcdbcbpbolgkaaGreatDoor
namespace Go.Proofs.YtkcdbcbpbolgkaaGreatDoor
open Go.Abs
attribute [-go_sem] qfj
noncomputable section
set_option maxRecDepth 100000
set_option linter.defProp false
def d11d := cut Tryz.prog Tryz.f11 news [8, 19, 21, 23, 25]
@[go_sem] def E11d := ql d11d
def F11d := fnC d11d follows Tryz.func11
end
set_option maxRecDepth 10000 in
theorem quv : qg Tryz.prog 11 [] [] (.d (.bool true)) [] := by
 obtain ⟨s', c, hr, H1⟩ := q95
 have H2 := H1.tick 0
 have H3 := H2.tick 7
 have k0 := xe7 2 1 (by decide)
 have kr := qlk xkf (q60 xkf) (by decide) (wd 1) xfd xob
 have hb : vg ((2 : Nat) : Int) ((1 : Nat) : Int) = vg 2 1 := rfl
 rw [hb, hr] at kr
 have k1 := qxj xkf H1 (by decide) (by decide) 0
 have k2 := qxj xkf H2 (by decide) (by decide) 7
 have k3 := qxj xkf H3 (by decide) (by decide) 8
 have km := q1t
 have ke := ql6 (wd 1) (wd 1) xfd.v xfd.c
 simp only [qe, wd, decide_true] at ke
 have e1 : qr2 (awB s') 0 2 1 = [⟨0, qxa (wd 1)⟩, ⟨1, wd 1⟩] := congrArg Prod.snd (xre s')
 have e2 : qr2 (aw1 s') 7 2 1 = [] := congrArg Prod.snd (xrf s')
 have e3 : qr2 (aw2 s') 8 2 1 = [⟨1, wd 1⟩] := xsv s'
 rw [e1] at k1
 rw [show qfb (awB s') 0 2 1 = aw1 s' from rfl] at k1 k2
 rw [e2] at k2
 rw [show qfb (aw1 s') 7 2 1 = aw2 s' from rfl] at k2
 rw [show qfb (qfb (awB s') 0 2 1) 7 2 1 = aw2 s' from rfl, e3] at k3
 generalize qfb (aw2 s') 8 2 1 = b3 at k3
 clear H1 H2 H3 e1 e2 e3 hr hb
 generalize awB s' = b0 at kr k1
 generalize aw1 s' = b1 at k1 k2
 generalize aw2 s' = b2 at k2 k3
 simp only [brO, tkO, qo, qgw, stoO, mapO, qmO, tmO, List.map_cons, List.map_nil] at k0 kr k1 k2 k3
 refine F11d.go ?_
 try (refine ev ?_; try exact True.intro)
 refine clT [0, 1, 2, 3, 4] F45n k0 ?_
 try (refine ev ?_; try exact True.intro)
 (repeat (with_reducible refine ob ?_)); refine no_ ?_
 try (refine ev ?_; try exact True.intro)
 (repeat (with_reducible refine ob ?_)); first | refine cl F60 (km) ?_ | refine clF F60 (km) (fun _ => by (refine ev2 @qe.eq_1 @xj.eq_1 ?_; try exact True.intro)) ?_
 try (refine ev ?_; try exact True.intro)
 cases c
 ·simp only [afB, qo, stoO, mapO, qmO, tmO] at kr
  refine clT [0, 1, 2, 3, 4, 5] F21d kr ?_
  try (refine ev ?_; try exact True.intro)
  refine clT [0, 1, 2, 3, 4, 6] F14t k1 ?_
  try (refine ev ?_; try exact True.intro)
  refine clT [0, 1, 2, 3, 6, 7] F14t k2 ?_
  try (refine ev ?_; try exact True.intro)
  refine clT [0, 1, 2, 3, 7, 8] F14t k3 ?_
  try (refine ev5 @List.map_nil.{0,0} @xj.eq_1 @qxa.eq_1 @qe.eq_1 @wd.eq_1 ?_; try exact True.intro)
  (repeat (with_reducible refine ob ?_)); first | refine cl F60 (km) ?_ | refine clF F60 (km) (fun _ => by (refine ev2 @qe.eq_1 @xj.eq_1 ?_; try exact True.intro)) ?_
  try (refine ev2 @qe.eq_1 @wd.eq_1 ?_; try exact True.intro)
  (repeat (with_reducible refine ob ?_)); first | refine cl F17 (ke) ?_ | refine clF F17 (ke) (fun _ => by (refine ev2 @qe.eq_1 @xj.eq_1 ?_; try exact True.intro)) ?_
  try (refine ev1 @List.map_nil.{0,0} ?_; try exact True.intro)
 ·simp only [afB, qo, stoO, mapO, qmO, tmO] at kr
  refine clT [0, 1, 2, 3, 4, 5] F21d kr ?_
  try (refine ev ?_; try exact True.intro)
  refine clT [0, 1, 5, 3, 4, 6] F14t k1 ?_
  try (refine ev ?_; try exact True.intro)
  refine clT [0, 1, 5, 3, 6, 7] F14t k2 ?_
  try (refine ev ?_; try exact True.intro)
  refine clT [0, 1, 5, 3, 7, 8] F14t k3 ?_
  try (refine ev5 @List.map_nil.{0,0} @xj.eq_1 @qxa.eq_1 @qe.eq_1 @wd.eq_1 ?_; try exact True.intro)
  (repeat (with_reducible refine ob ?_)); first | refine cl F60 (km) ?_ | refine clF F60 (km) (fun _ => by (refine ev2 @qe.eq_1 @xj.eq_1 ?_; try exact True.intro)) ?_
  try (refine ev2 @qe.eq_1 @wd.eq_1 ?_; try exact True.intro)
  (repeat (with_reducible refine ob ?_)); first | refine cl F17 (ke) ?_ | refine clF F17 (ke) (fun _ => by (refine ev2 @qe.eq_1 @xj.eq_1 ?_; try exact True.intro)) ?_
  try (refine ev1 @List.map_nil.{0,0} ?_; try exact True.intro)
end Go.Proofs.YtkcdbcbpbolgkaaGreatDoor
namespace Go.Proofs.YtkcdbcbpbolgkaaGreatDoor
open Go.Abs
attribute [-go_sem] qfj
noncomputable section
set_option maxRecDepth 100000
set_option linter.defProp false
def d5r := cut Tryz.prog Tryz.f5 news [38, 44, 49, 51, 56] [8, 9, 11]
@[go_sem] def E5r := ql d5r
def F5r := fnC d5r follows Tryz.func5
end
theorem xrj {P : Program} {k0 : Nat} {c rest : SCode} {Q : SExit → St → Prop} {st : St} {α : Type} (S : α → St) (h1 : AWp P k0 c (qg2 (fun st => ∃ x, Turn k0 st (S x)) Q) st) (h2 : ∀ x, AWp P k0 rest Q (S x)) (hp : rest.opens = true := by rfl) :
  AWp P k0 c (qg2 (AWp P k0 rest Q) Q) st :=
 AWp.mono c (qdz (fun _ ⟨x, hx⟩ => qog rest hp hx (h2 x)) fun _ _ h => h) h1
theorem turn_ren {k0 : Nat} {st st2 : St} (ι : List Nat) (os' : List AObj) (h : Weak k0 (st.renN ι os') st2) (ho : q2l ι os' ι st.os) (hp : xaz k0 os'.length ι = true := by decide) (hn : ι.Nodup := by decide) (hl : ι ≠ [] := by simp) : Turn k0 st st2 := .ren ι os' hn hl hp ho (.weak h (.refl _))
def qh1 (b : Brk) (t x y z : Nat) : List ASlot := [.d (.int .i64 b.roles), .d (.int .i64 b.sess), .d (.ptr x 0), .d (.map y), .d (.int .i64 b.m.roles), .d (.sl 4 (b.m.ents.map qn)), .own t 10 (b.p.map xj), .d (.map z)]
def y7 (b : Brk) (x y z : Nat) : List ASlot := [.d (.int .i64 b.roles), .d (.int .i64 b.sess), .d (.ptr x 0), .d (.map y), .d (.int .i64 b.m.roles), .d (.sl 4 (b.m.ents.map qn)), .d (.sl 10 (b.p.map xj)), .d (.map z)]
def SrpA (p : Pk) (n ss : Nat) (e : Int) (b c : Brk) : St :=
 ⟨[(5, true, .d (.ptr 1 0)), (6, true, .d (.bool false)), (7, true, .d (.int .i64 n)), (8, true, .d (.int .i64 ss)), (9, true, .d (.ptr 2 0)), (11, true, .d (.ptr 7 0)), (13, true, .d (.int .i64 e))],
  [.none, .row ((qe p).map .d), .row (qh1 b 0 3 5 6), stoO b.s 4, mapO b.s.m, qmO b.q, tmO b.t, .row (qh1 c 1 8 10 11), stoO c.s 9, mapO c.s.m, qmO c.q, tmO c.t], [0, 1], 1⟩
def SrpB (p : Pk) (n ss : Nat) (e1 e2 : Int) (once : List UInt8) (b c : Brk) : St :=
 ⟨[(5, true, .d (.ptr 1 0)), (6, true, .d (.bool false)), (7, true, .d (.int .i64 n)), (8, true, .d (.int .i64 ss)), (9, true, .d (.ptr 2 0)), (11, true, .d (.ptr 7 0)), (13, true, .d (.int .i64 e1)), (14, true, .d (.str once)), (15, true, .d (.int .i64 e2))],
  [.none, .row ((qe p).map .d), .row (y7 b 3 5 6), stoO b.s 4, mapO b.s.m, qmO b.q, tmO b.t, .row (y7 c 8 10 11), stoO c.s 9, mapO c.s.m, qmO c.q, tmO c.t], [], 1⟩
def SrpC (p : Pk) (n ss : Nat) (b c : Brk) (s : Nat) (rest : Fr) : St :=
 ⟨rest ++ [(5, true, .d (.ptr 1 0)), (7, true, .d (.int .i64 n)), (8, true, .d (.int .i64 ss)), (9, true, .d (.ptr 2 0)), (11, true, .d (.ptr 7 0)), (16, true, .d (.int .i64 (s : Nat)))],
  [.none, .row ((qe p).map .d), .row (y7 b 3 5 6), stoO b.s 4, mapO b.s.m, qmO b.q, tmO b.t, .row (y7 c 8 10 11), stoO c.s 9, mapO c.s.m, qmO c.q, tmO c.t], [], 1⟩
set_option maxRecDepth 10000 in
set_option maxHeartbeats 1000000 in
theorem qob (a c : Nat) (ha : a < 256) (hc : c < 256) (l : List Bst) (p : Pk) (hl : l.length ≤ maxLen) (hx : ∀ x ∈ l, x.p.I ∧ x.p.values.length ≤ maxLen) (hpi : p.I) (hp : p.values.length ≤ maxLen) :
  qg Tryz.prog 5 [.d (.agg [.int .u8 (a : Nat), .int .u8 (c : Nat)]), .d (.sl 11 (l.map qaa)), .d (.agg (qe p))] [] (.d (.bool true)) [] := by
 have kf := xoa l hl fun x hx' => (hx x hx').2
 have kg := q53 p hp
 have kn := quu a c ha hc
 simp only [qe] at kg
 refine F5r.go ?_
 try (refine ev1 @qe.eq_1 ?_; try exact True.intro)
 (repeat (with_reducible refine ob ?_)); first | refine cl F11d (quv) ?_ | refine clF F11d (quv) (fun _ => by (refine ev4 @qe.eq_1 @xj.eq_1 @encQ.eq_1 @qu.eq_1 ?_; try exact True.intro)) ?_
 try (refine ev ?_; try exact True.intro)
 (repeat (with_reducible refine ob ?_)); refine no_ ?_
 try (refine ev ?_; try exact True.intro)
 (repeat (with_reducible refine ob ?_)); first | refine cl F12 (kf) ?_ | refine clF F12 (kf) (fun _ => by (refine ev4 @qe.eq_1 @xj.eq_1 @encQ.eq_1 @qu.eq_1 ?_; try exact True.intro)) ?_
 try (refine ev ?_; try exact True.intro)
 cases hfl : fewB l
 ·try (refine ev ?_; try exact True.intro)
  (repeat (with_reducible refine ob ?_)); refine qg3 ?_
  try (refine ev ?_; try exact True.intro)
  (repeat (with_reducible refine ob ?_)); refine qcb ?_
  try (refine ev ?_; try exact True.intro)
 try (refine ev ?_; try exact True.intro)
 (repeat (with_reducible refine ob ?_)); first | refine cl F36 (kg) ?_ | refine clF F36 (kg) (fun _ => by (refine ev4 @qe.eq_1 @xj.eq_1 @encQ.eq_1 @qu.eq_1 ?_; try exact True.intro)) ?_
 try (refine ev ?_; try exact True.intro)
 refine xn _ (fun h => ?_) (fun h => ?_)
 ·try (refine ev ?_; try exact True.intro)
 have hfp : qma p = true := by simpa using h
 have hl40 : l.length ≤ 40 := by
  simp only [fewB, Bool.and_eq_true, decide_eq_true_eq] at hfl; omega
 have hbst : ∀ x ∈ l, BstOk x := fun x hx' => by
  simp only [fewB, Bool.and_eq_true, List.all_eq_true] at hfl
  have := hfl.1 x hx'
  simp only [qut, Bool.not_eq_true', Bool.or_eq_false_iff, Bool.not_eq_false', decide_eq_false_iff_not] at this
  exact ⟨xrg (hx x hx').1 this.1.1, xli this.1.1, by omega, by omega⟩
 have hw := xrg hpi hfp
 have hs := xli hfp
 generalize en : qdd a = n at kn
 generalize es : qdd c = ss at kn
 have hn : NS n ss := by
  subst en; subst es
  unfold qdd
  exact ⟨by omega, by omega, by omega, by omega⟩
 have hn6 := hn.n6
 have hs32 := hn.s32
 have kp := xoh a c ha hc l hl40 hbst n ss en.symm es.symm
 obtain ⟨HB, _, _⟩ := q4x hn (by omega) hbst l.length (Nat.le_refl _)
 rw [List.take_length] at HB
 generalize qdk n ss l = X at kp HB
 obtain ⟨b0, now⟩ := X
 simp only at HB kp
 have hk40 : l.length ≤ 60 := by omega
 have kr := qlk hn HB (by omega) p hs hw
 have hr1 := qd6 hn HB (by omega) p hw
 have H1 := xlk hr1 HB
 have kr2 := qlk hn H1 (by omega) p hs hw
 have hr2 := qd6 hn H1 (by omega) p hw
 have ht := q97 hn HB hk40 hw
 simp only [brO, qo, stoO, mapO, qmO, tmO] at kp
 try (refine ev ?_; try exact True.intro)
 (repeat (with_reducible refine ob ?_)); first | refine cl F37 (kn) ?_ | refine clF F37 (kn) (fun _ => by (refine ev4 @qe.eq_1 @xj.eq_1 @encQ.eq_1 @qu.eq_1 ?_; try exact True.intro)) ?_
 try (refine ev ?_; try exact True.intro)
 refine clT [2, 3, 4, 5, 6] F13d kp ?_
 try (refine ev ?_; try exact True.intro)
 refine clT [7, 8, 9, 10, 11] F13d kp ?_
 try (refine ev ?_; try exact True.intro)
 refine xrj (fun _ : Unit => SrpA p n ss (zw b0 p).2.1 (zw b0 p).1 b0) ?_ (fun _ => ?_)
 ·refine pu ?_
  simp only [brO, qo, stoO, mapO, qmO, tmO, qe] at kr
  generalize zw b0 p = R at kr ⊢
  obtain ⟨b1, e1, cc⟩ := R
  simp only [afB, qo, stoO, mapO, qmO, tmO] at kr ⊢
  cases cc
  ·try (refine ev ?_; try exact True.intro)
   refine clT [2, 3, 4, 5, 6, 12] F21d kr ?_
   try (refine ev ?_; try exact True.intro)
   refine ⟨(), .weak ?_ (.refl _)⟩
   try (refine ev7 @SrpA.eq_1 @qh1.eq_1 @stoO.eq_1 @mapO.eq_1 @qmO.eq_1 @tmO.eq_1 @qe.eq_1 ?_; try exact True.intro)
  ·try (refine ev ?_; try exact True.intro)
   refine clT [2, 3, 4, 5, 6, 12] F21d kr ?_
   try (refine ev ?_; try exact True.intro)
   refine ⟨(), turn_ren [0, 1, 2, 3, 12, 5, 6, 7, 8, 9, 10, 11, 4] [.row [.d (.int .u8 (a : Nat)), .d (.int .u8 (c : Nat))], .row ((qe p).map .d), .row (qh1 b1 624 3 5 6), stoO b1.s 4, mapO b1.s.m, qmO b1.q, tmO b1.t, .row (qh1 b0 496 8 10 11), stoO b0.s 9, mapO b0.s.m, qmO b0.q, tmO b0.t, mapO b0.s.m] ?_ (by try (refine ev6 @qh1.eq_1 @mapO.eq_1 @stoO.eq_1 @qmO.eq_1 @tmO.eq_1 @qe.eq_1 ?_; try exact True.intro)) (hp := rfl)⟩
   try (refine ev7 @SrpA.eq_1 @qh1.eq_1 @stoO.eq_1 @mapO.eq_1 @qmO.eq_1 @tmO.eq_1 @qe.eq_1 ?_; try exact True.intro)
 have hF1 : (zw b0 p).1.s.file.length ≤ 1000000000 := by
  have h1 := H1.st.file
  exact Nat.le_trans h1 (Nat.le_trans (Nat.mul_le_mul_right 70000 (show l.length + 1 + 401 ≤ 471 by omega)) (by decide))
 have hF0 : b0.s.file.length ≤ 1000000000 := by
  have h1 := HB.st.file
  exact Nat.le_trans h1 (Nat.le_trans (Nat.mul_le_mul_right 70000 (show l.length + 401 ≤ 471 by omega)) (by decide))
 obtain ⟨q1, q2, q3, q4⟩ := xfi hr2 ht
 have kl := xn6 (zw b0 p).1 hF1
 generalize hR2 : zw (zw b0 p).1 p = R2 at kr2 ht q1 q2 q3 q4
 obtain ⟨b2, e2, c2⟩ := R2
 simp only at ht q1 q2 q3 q4
 subst q4
 have kl2 := q62 b2 (by rw [q1]; exact hF1)
 have kl0 := q62 b0 hF0
 have q5 : b2.s.file = (zw b0 p).1.s.file := by rw [q1]
 have q6 : (zw b0 p).2.1 ≠ 0 → (zw b0 p).1.s.file = b0.s.file := fun h => by rw [(xfi hr1 h).1]
 have q7 : ∀ x, x ≠ p.key → b2.queue x = b0.queue x := fun x hx => by rw [q3, xfj hr1 hx]
 have q8 : p.kind ≠ 4 → b2.m = b0.m := fun h => by rw [q2, xoi hr1 h]
 have H2 : ∀ x, (b2.queue x).Sm := fun x => by rw [q3]; exact H1.qsm x
 have H3 : b2.m.Sm := by rw [q2]; exact H1.mw.sm
 have H0 : ∀ x, (b0.queue x).Sm := HB.qsm
 have H4 : b0.m.Sm := HB.mw.sm
 clear hr1 hr2 kr H1 HB q1 q2 q3 hR2
 generalize zw b0 p = R1 at kr2 hF1 kl q5 q6 ⊢
 obtain ⟨b1, e1, c1⟩ := R1
 simp only [brO, afB, qo, stoO, mapO, qmO, tmO, qe, wz] at kr2 kl kl2 kl0 hF1 q5 q6 ⊢
 try (refine ev7 @SrpA.eq_1 @qh1.eq_1 @stoO.eq_1 @mapO.eq_1 @qmO.eq_1 @tmO.eq_1 @qe.eq_1 ?_; try exact True.intro)
 refine pu ?_
 try (refine ev ?_; try exact True.intro)
 refine clT [2, 3, 4, 5, 6] F38 kl ?_
 try (refine ev ?_; try exact True.intro)
 refine clT [2, 3, 4, 5, 6, 12] F21d kr2 ?_
 try (refine ev ?_; try exact True.intro)
 refine xbx (st1 := SrpB p n ss e1 e2 b2.s.file b2 b0) (by try (refine ev8 @SrpB.eq_1 @y7.eq_1 @stoO.eq_1 @mapO.eq_1 @qmO.eq_1 @tmO.eq_1 @qe.eq_1 @q5 ?_; try exact True.intro)) ?_
 have he2 : (e2 == 0) = false := by simpa using ht
 have q6' : e1 ≠ 0 → b2.s.file = b0.s.file := fun h => by rw [q5, q6 h]
 clear q5 q6 kl kr2 kp
 simp only [brF, wg, stoO, mapO, qmO, tmO] at kl2 kl0
 try (refine ev8 @SrpB.eq_1 @y7.eq_1 @stoO.eq_1 @mapO.eq_1 @qmO.eq_1 @tmO.eq_1 @qe.eq_1 @he2 ?_; try exact True.intro)
 refine clO [2, 3, 4, 5, 6] F38 kl2 ?_
 try (refine ev ?_; try exact True.intro)
 by_cases h1 : e1 = 0
 ·have hb1 : (e1 != 0) = false := by simpa using h1
  try (refine ev1 @hb1 ?_; try exact True.intro)
  refine qhi (.agg [.sl 1 [], .int .i64 0]) rfl ?_
  try (refine ev ?_; try exact True.intro)
  (repeat (with_reducible refine ob ?_)); refine no_ ?_
  try (refine ev ?_; try exact True.intro)
  refine qj (fun s : { s : Nat // 1 ≤ s ∧ s ≤ ss + 1 } => SrpC p n ss b2 b0 s.val []) (fun s => ss + 1 - s.val) ⟨1, by omega⟩ ?_ (fun s => ?_)
  ·try simp only [SrpC, y7, stoO, mapO, qmO, tmO, qe, List.nil_append, Int.ofNat_one, go_sem, Nat.reduceAdd, Nat.reduceMul, Nat.reduceSub, Nat.reduceEqDiff, Nat.reduceLT, Nat.reduceLeDiff, Nat.reduceBEq, reduceIte, reduceCtorEq, Int.reduceAdd, Int.reduceLT, Int.reduceLE, Int.reduceGT, Int.reduceGE, Int.reduceEq, Int.reduceNe, Int.reduceBEq, Int.reduceBNe, Int.reduceToNat, Int.reduceNeg]
  obtain ⟨s, hs1, hs2⟩ := s
  try simp only [SrpC, y7, stoO, mapO, qmO, tmO, qe, List.nil_append, go_sem, Nat.reduceAdd, Nat.reduceMul, Nat.reduceSub, Nat.reduceEqDiff, Nat.reduceLT, Nat.reduceLeDiff, Nat.reduceBEq, reduceIte, reduceCtorEq, Int.reduceAdd, Int.reduceLT, Int.reduceLE, Int.reduceGT, Int.reduceGE, Int.reduceEq, Int.reduceNe, Int.reduceBEq, Int.reduceBNe, Int.reduceToNat, Int.reduceNeg]
  refine xn _ (fun hc1 => ?_) (fun hc1 => ?_)
  ·have hsl : s ≤ ss := by simp at hc1; omega
   try (refine ev ?_; try exact True.intro)
   refine qj (fun f : { f : Nat // f ≤ n } => SrpC p n ss b2 b0 s [(17, true, .d (.int .i64 (f.val : Nat)))]) (fun f => n - f.val) ⟨0, by omega⟩ ?_ (fun f => ?_)
   ·try simp only [SrpC, y7, stoO, mapO, qmO, tmO, qe, List.nil_append, List.cons_append, Int.ofNat_zero, go_sem, Nat.reduceAdd, Nat.reduceMul, Nat.reduceSub, Nat.reduceEqDiff, Nat.reduceLT, Nat.reduceLeDiff, Nat.reduceBEq, reduceIte, reduceCtorEq, Int.reduceAdd, Int.reduceLT, Int.reduceLE, Int.reduceGT, Int.reduceGE, Int.reduceEq, Int.reduceNe, Int.reduceBEq, Int.reduceBNe, Int.reduceToNat, Int.reduceNeg]
   obtain ⟨f, hf1⟩ := f
   try simp only [SrpC, y7, stoO, mapO, qmO, tmO, qe, List.nil_append, List.cons_append, go_sem, Nat.reduceAdd, Nat.reduceMul, Nat.reduceSub, Nat.reduceEqDiff, Nat.reduceLT, Nat.reduceLeDiff, Nat.reduceBEq, reduceIte, reduceCtorEq, Int.reduceAdd, Int.reduceLT, Int.reduceLE, Int.reduceGT, Int.reduceGE, Int.reduceEq, Int.reduceNe, Int.reduceBEq, Int.reduceBNe, Int.reduceToNat, Int.reduceNeg]
   refine xn _ (fun hc2 => ?_) (fun hc2 => ?_)
   ·have hfl : f < n := by simpa using hc2
    try (refine ev ?_; try exact True.intro)
    refine qj (fun t : { t : Nat // t ≤ n } => SrpC p n ss b2 b0 s [(18, true, .d (.int .i64 (t.val : Nat))), (17, true, .d (.int .i64 (f : Nat)))]) (fun t => n - t.val) ⟨0, by omega⟩ ?_ (fun t => ?_)
    ·try simp only [SrpC, y7, stoO, mapO, qmO, tmO, qe, List.nil_append, List.cons_append, Int.ofNat_zero, go_sem, Nat.reduceAdd, Nat.reduceMul, Nat.reduceSub, Nat.reduceEqDiff, Nat.reduceLT, Nat.reduceLeDiff, Nat.reduceBEq, reduceIte, reduceCtorEq, Int.reduceAdd, Int.reduceLT, Int.reduceLE, Int.reduceGT, Int.reduceGE, Int.reduceEq, Int.reduceNe, Int.reduceBEq, Int.reduceBNe, Int.reduceToNat, Int.reduceNeg]
    obtain ⟨t, ht1⟩ := t
    try simp only [SrpC, y7, stoO, mapO, qmO, tmO, qe, List.nil_append, List.cons_append, go_sem, Nat.reduceAdd, Nat.reduceMul, Nat.reduceSub, Nat.reduceEqDiff, Nat.reduceLT, Nat.reduceLeDiff, Nat.reduceBEq, reduceIte, reduceCtorEq, Int.reduceAdd, Int.reduceLT, Int.reduceLE, Int.reduceGT, Int.reduceGE, Int.reduceEq, Int.reduceNe, Int.reduceBEq, Int.reduceBNe, Int.reduceToNat, Int.reduceNeg]
    refine xn _ (fun hc3 => ?_) (fun hc3 => ?_)
    ·have htl : t < n := by simpa using hc3
     have kq2 := qll b2 s f t (H2 _)
     have kq0 := qll b0 s f t (H0 _)
     have ke := qzk (b2.queue ⟨s, f, t⟩) (b0.queue ⟨s, f, t⟩) (H2 _)
     simp only [brF, wg, stoO, mapO, qmO, tmO, encQ] at kq2 kq0 ke
     try (refine ev ?_; try exact True.intro)
     (repeat (with_reducible refine ob ?_))
     generalize hown : ((s : Int) == p.sess && (f : Int) == p.from_ && (t : Int) == p.to) = own
     cases own
     ·have hne : (⟨(s : Int), (f : Int), (t : Int)⟩ : Pr) ≠ p.key := fun h => by
       simp only [Pk.key, Pr.mk.injEq] at h
       simp [h.1, h.2.1, h.2.2] at hown
      rw [decide_eq_true (q7 _ hne)] at ke
      try (refine ev ?_; try exact True.intro)
      refine clO [2, 3, 4, 5, 6] F16d kq2 ?_
      try (refine ev ?_; try exact True.intro)
      refine clO [7, 8, 9, 10, 11] F16d kq0 ?_
      try (refine ev ?_; try exact True.intro)
      (repeat (with_reducible refine ob ?_)); first | refine cl F39 (ke) ?_ | refine clF F39 (ke) (fun _ => by (refine ev4 @qe.eq_1 @xj.eq_1 @encQ.eq_1 @qu.eq_1 ?_; try exact True.intro)) ?_
      try (refine ev ?_; try exact True.intro)
      (repeat (with_reducible refine ob ?_)); refine no_ ?_
      try (refine ev ?_; try exact True.intro)
      refine ⟨⟨t + 1, htl⟩, ?_, by dsimp only; omega⟩
      dsimp only
      try (refine ev1 (qf (show t < 9223372036854775807 by omega)) ?_; try exact True.intro)
     ·try (refine ev ?_; try exact True.intro)
      (repeat (with_reducible refine ob ?_)); refine qg3 ?_
      try (refine ev ?_; try exact True.intro)
      (repeat (with_reducible refine ob ?_)); refine qg3 ?_
      try (refine ev ?_; try exact True.intro)
      (repeat (with_reducible refine ob ?_)); refine qg3 ?_
      try (refine ev ?_; try exact True.intro)
      (repeat (with_reducible refine ob ?_)); refine no_ ?_
      try (refine ev ?_; try exact True.intro)
      refine ⟨⟨t + 1, htl⟩, ?_, by dsimp only; omega⟩
      dsimp only
      try (refine ev1 (qf (show t < 9223372036854775807 by omega)) ?_; try exact True.intro)
    ·try (refine ev ?_; try exact True.intro)
     refine ⟨⟨f + 1, hfl⟩, ?_, by dsimp only; omega⟩
     dsimp only
     try (refine ev1 (qf (show f < 9223372036854775807 by omega)) ?_; try exact True.intro)
   ·try (refine ev ?_; try exact True.intro)
    refine ⟨⟨s + 1, by omega⟩, ?_, by dsimp only; omega⟩
    dsimp only
    try (refine ev1 (qf (show s < 9223372036854775807 by omega)) ?_; try exact True.intro)
  ·have km2 := qgx b2 H3
   have km0 := qgx b0 H4
   have ke := qtu b2.m b0.m H3
   simp only [brF, wg, stoO, mapO, qmO, tmO, qu] at km2 km0 ke
   by_cases hk4 : p.kind = 4
   ·have hb4 : (p.kind == 4) = true := by simpa using hk4
    try (refine ev1 @hb4 ?_; try exact True.intro)
    (repeat (with_reducible refine ob ?_)); refine qg3 ?_
    try (refine ev ?_; try exact True.intro)
    (repeat (with_reducible refine ob ?_)); refine qg3 ?_
    try (refine ev ?_; try exact True.intro)
    (repeat (with_reducible refine ob ?_)); refine qg3 ?_
    try (refine ev ?_; try exact True.intro)
   ·have hb4 : (p.kind == 4) = false := by simpa using hk4
    rw [decide_eq_true (q8 hk4)] at ke
    try (refine ev1 @hb4 ?_; try exact True.intro)
    refine clO [2, 3, 4, 5, 6] F19d km2 ?_
    try (refine ev ?_; try exact True.intro)
    refine clO [7, 8, 9, 10, 11] F19d km0 ?_
    try (refine ev ?_; try exact True.intro)
    (repeat (with_reducible refine ob ?_)); first | refine cl F40 (ke) ?_ | refine clF F40 (ke) (fun _ => by (refine ev4 @qe.eq_1 @xj.eq_1 @encQ.eq_1 @qu.eq_1 ?_; try exact True.intro)) ?_
    try (refine ev ?_; try exact True.intro)
 ·have hb1 : (e1 != 0) = true := by simpa using h1
  have hq := q6' h1
  have hbf : (b2.s.file == b0.s.file) = true := by rw [hq]; exact beq_self_eq_true _
  try (refine ev1 @hb1 ?_; try exact True.intro)
  refine clO [7, 8, 9, 10, 11] F38 kl0 ?_
  try (refine ev1 @hbf ?_; try exact True.intro)
  try (refine ev ?_; try exact True.intro)
  (repeat (with_reducible refine ob ?_)); refine no_ ?_
  try (refine ev ?_; try exact True.intro)
  refine qj (fun s : { s : Nat // 1 ≤ s ∧ s ≤ ss + 1 } => SrpC p n ss b2 b0 s.val []) (fun s => ss + 1 - s.val) ⟨1, by omega⟩ ?_ (fun s => ?_)
  ·try simp only [SrpC, y7, stoO, mapO, qmO, tmO, qe, List.nil_append, Int.ofNat_one, go_sem, Nat.reduceAdd, Nat.reduceMul, Nat.reduceSub, Nat.reduceEqDiff, Nat.reduceLT, Nat.reduceLeDiff, Nat.reduceBEq, reduceIte, reduceCtorEq, Int.reduceAdd, Int.reduceLT, Int.reduceLE, Int.reduceGT, Int.reduceGE, Int.reduceEq, Int.reduceNe, Int.reduceBEq, Int.reduceBNe, Int.reduceToNat, Int.reduceNeg]
  obtain ⟨s, hs1, hs2⟩ := s
  try simp only [SrpC, y7, stoO, mapO, qmO, tmO, qe, List.nil_append, go_sem, Nat.reduceAdd, Nat.reduceMul, Nat.reduceSub, Nat.reduceEqDiff, Nat.reduceLT, Nat.reduceLeDiff, Nat.reduceBEq, reduceIte, reduceCtorEq, Int.reduceAdd, Int.reduceLT, Int.reduceLE, Int.reduceGT, Int.reduceGE, Int.reduceEq, Int.reduceNe, Int.reduceBEq, Int.reduceBNe, Int.reduceToNat, Int.reduceNeg]
  refine xn _ (fun hc1 => ?_) (fun hc1 => ?_)
  ·have hsl : s ≤ ss := by simp at hc1; omega
   try (refine ev ?_; try exact True.intro)
   refine qj (fun f : { f : Nat // f ≤ n } => SrpC p n ss b2 b0 s [(17, true, .d (.int .i64 (f.val : Nat)))]) (fun f => n - f.val) ⟨0, by omega⟩ ?_ (fun f => ?_)
   ·try simp only [SrpC, y7, stoO, mapO, qmO, tmO, qe, List.nil_append, List.cons_append, Int.ofNat_zero, go_sem, Nat.reduceAdd, Nat.reduceMul, Nat.reduceSub, Nat.reduceEqDiff, Nat.reduceLT, Nat.reduceLeDiff, Nat.reduceBEq, reduceIte, reduceCtorEq, Int.reduceAdd, Int.reduceLT, Int.reduceLE, Int.reduceGT, Int.reduceGE, Int.reduceEq, Int.reduceNe, Int.reduceBEq, Int.reduceBNe, Int.reduceToNat, Int.reduceNeg]
   obtain ⟨f, hf1⟩ := f
   try simp only [SrpC, y7, stoO, mapO, qmO, tmO, qe, List.nil_append, List.cons_append, go_sem, Nat.reduceAdd, Nat.reduceMul, Nat.reduceSub, Nat.reduceEqDiff, Nat.reduceLT, Nat.reduceLeDiff, Nat.reduceBEq, reduceIte, reduceCtorEq, Int.reduceAdd, Int.reduceLT, Int.reduceLE, Int.reduceGT, Int.reduceGE, Int.reduceEq, Int.reduceNe, Int.reduceBEq, Int.reduceBNe, Int.reduceToNat, Int.reduceNeg]
   refine xn _ (fun hc2 => ?_) (fun hc2 => ?_)
   ·have hfl : f < n := by simpa using hc2
    try (refine ev ?_; try exact True.intro)
    refine qj (fun t : { t : Nat // t ≤ n } => SrpC p n ss b2 b0 s [(18, true, .d (.int .i64 (t.val : Nat))), (17, true, .d (.int .i64 (f : Nat)))]) (fun t => n - t.val) ⟨0, by omega⟩ ?_ (fun t => ?_)
    ·try simp only [SrpC, y7, stoO, mapO, qmO, tmO, qe, List.nil_append, List.cons_append, Int.ofNat_zero, go_sem, Nat.reduceAdd, Nat.reduceMul, Nat.reduceSub, Nat.reduceEqDiff, Nat.reduceLT, Nat.reduceLeDiff, Nat.reduceBEq, reduceIte, reduceCtorEq, Int.reduceAdd, Int.reduceLT, Int.reduceLE, Int.reduceGT, Int.reduceGE, Int.reduceEq, Int.reduceNe, Int.reduceBEq, Int.reduceBNe, Int.reduceToNat, Int.reduceNeg]
    obtain ⟨t, ht1⟩ := t
    try simp only [SrpC, y7, stoO, mapO, qmO, tmO, qe, List.nil_append, List.cons_append, go_sem, Nat.reduceAdd, Nat.reduceMul, Nat.reduceSub, Nat.reduceEqDiff, Nat.reduceLT, Nat.reduceLeDiff, Nat.reduceBEq, reduceIte, reduceCtorEq, Int.reduceAdd, Int.reduceLT, Int.reduceLE, Int.reduceGT, Int.reduceGE, Int.reduceEq, Int.reduceNe, Int.reduceBEq, Int.reduceBNe, Int.reduceToNat, Int.reduceNeg]
    refine xn _ (fun hc3 => ?_) (fun hc3 => ?_)
    ·have htl : t < n := by simpa using hc3
     have kq2 := qll b2 s f t (H2 _)
     have kq0 := qll b0 s f t (H0 _)
     have ke := qzk (b2.queue ⟨s, f, t⟩) (b0.queue ⟨s, f, t⟩) (H2 _)
     simp only [brF, wg, stoO, mapO, qmO, tmO, encQ] at kq2 kq0 ke
     try (refine ev ?_; try exact True.intro)
     (repeat (with_reducible refine ob ?_))
     generalize hown : ((s : Int) == p.sess && (f : Int) == p.from_ && (t : Int) == p.to) = own
     cases own
     ·have hne : (⟨(s : Int), (f : Int), (t : Int)⟩ : Pr) ≠ p.key := fun h => by
       simp only [Pk.key, Pr.mk.injEq] at h
       simp [h.1, h.2.1, h.2.2] at hown
      rw [decide_eq_true (q7 _ hne)] at ke
      try (refine ev ?_; try exact True.intro)
      refine clO [2, 3, 4, 5, 6] F16d kq2 ?_
      try (refine ev ?_; try exact True.intro)
      refine clO [7, 8, 9, 10, 11] F16d kq0 ?_
      try (refine ev ?_; try exact True.intro)
      (repeat (with_reducible refine ob ?_)); first | refine cl F39 (ke) ?_ | refine clF F39 (ke) (fun _ => by (refine ev4 @qe.eq_1 @xj.eq_1 @encQ.eq_1 @qu.eq_1 ?_; try exact True.intro)) ?_
      try (refine ev ?_; try exact True.intro)
      (repeat (with_reducible refine ob ?_)); refine no_ ?_
      try (refine ev ?_; try exact True.intro)
      refine ⟨⟨t + 1, htl⟩, ?_, by dsimp only; omega⟩
      dsimp only
      try (refine ev1 (qf (show t < 9223372036854775807 by omega)) ?_; try exact True.intro)
     ·try (refine ev ?_; try exact True.intro)
      (repeat (with_reducible refine ob ?_)); refine qg3 ?_
      try (refine ev ?_; try exact True.intro)
      (repeat (with_reducible refine ob ?_)); refine qg3 ?_
      try (refine ev ?_; try exact True.intro)
      (repeat (with_reducible refine ob ?_)); refine qg3 ?_
      try (refine ev ?_; try exact True.intro)
      (repeat (with_reducible refine ob ?_)); refine no_ ?_
      try (refine ev ?_; try exact True.intro)
      refine ⟨⟨t + 1, htl⟩, ?_, by dsimp only; omega⟩
      dsimp only
      try (refine ev1 (qf (show t < 9223372036854775807 by omega)) ?_; try exact True.intro)
    ·try (refine ev ?_; try exact True.intro)
     refine ⟨⟨f + 1, hfl⟩, ?_, by dsimp only; omega⟩
     dsimp only
     try (refine ev1 (qf (show f < 9223372036854775807 by omega)) ?_; try exact True.intro)
   ·try (refine ev ?_; try exact True.intro)
    refine ⟨⟨s + 1, by omega⟩, ?_, by dsimp only; omega⟩
    dsimp only
    try (refine ev1 (qf (show s < 9223372036854775807 by omega)) ?_; try exact True.intro)
  ·have km2 := qgx b2 H3
   have km0 := qgx b0 H4
   have ke := qtu b2.m b0.m H3
   simp only [brF, wg, stoO, mapO, qmO, tmO, qu] at km2 km0 ke
   by_cases hk4 : p.kind = 4
   ·have hb4 : (p.kind == 4) = true := by simpa using hk4
    try (refine ev1 @hb4 ?_; try exact True.intro)
    (repeat (with_reducible refine ob ?_)); refine qg3 ?_
    try (refine ev ?_; try exact True.intro)
    (repeat (with_reducible refine ob ?_)); refine qg3 ?_
    try (refine ev ?_; try exact True.intro)
    (repeat (with_reducible refine ob ?_)); refine qg3 ?_
    try (refine ev ?_; try exact True.intro)
   ·have hb4 : (p.kind == 4) = false := by simpa using hk4
    rw [decide_eq_true (q8 hk4)] at ke
    try (refine ev1 @hb4 ?_; try exact True.intro)
    refine clO [2, 3, 4, 5, 6] F19d km2 ?_
    try (refine ev ?_; try exact True.intro)
    refine clO [7, 8, 9, 10, 11] F19d km0 ?_
    try (refine ev ?_; try exact True.intro)
    (repeat (with_reducible refine ob ?_)); first | refine cl F40 (ke) ?_ | refine clF F40 (ke) (fun _ => by (refine ev4 @qe.eq_1 @xj.eq_1 @encQ.eq_1 @qu.eq_1 ?_; try exact True.intro)) ?_
    try (refine ev ?_; try exact True.intro)
end Go.Proofs.YtkcdbcbpbolgkaaGreatDoor
