/- Package upgrade: copies of managers. -/
import Derived.Test.YthcpckcgjplhiaaGc
namespace Go.Proofs.Ythcpckcgjplhiaa
open Go.Abs
set_option linter.unusedSimpArgs false

section
variable {P : Program} {k0 o : Nat} {p : List (Nat × Nat)} {Q : SExit → St → Prop} {st : St}
noncomputable def s86ur0 : List SOper := [
  ⟨some 1, .box 2 (.t 0), none⟩,
  ⟨some 2, .alloc 1 [(.d (.int .i64 0)), (.d .nilsl)], none⟩]
noncomputable def s86ur1 : List SOper := [
  ⟨some 5, .faddr 1 (.t 1), none⟩,
  ⟨some 6, .load none (.t 5), none⟩,
  ⟨some 7, .call (.k (.d (.func (.func 111) [] []))) [(.t 6)], none⟩,
  ⟨some 8, .faddr 1 (.t 1), none⟩,
  ⟨none, .store none (.t 8) (.t 7), none⟩]
noncomputable def s86ur2 : List SOper := [
  ⟨some 9, .faddr 1 (.t 1), none⟩,
  ⟨some 10, .load none (.t 9), none⟩,
  ⟨some 11, .len (.t 10), none⟩,
  ⟨some 12, .mov (.k (.d (.int .i64 0))), none⟩]
noncomputable def s86ur3 : List SOper := [
  ⟨some 13, .bin .lss (.t 12) (.t 11), none⟩]
noncomputable def s86ur4 : List SOper := [
  ⟨some 14, .mov (.t 12), none⟩,
  ⟨some 3, .mov (.t 14), none⟩]
noncomputable def s86ur5 : List SOper := [
  ⟨some 15, .faddr 1 (.t 1), none⟩,
  ⟨some 16, .load none (.t 15), none⟩,
  ⟨some 17, .mov (.t 3), none⟩,
  ⟨some 18, .iaddr 4 (.t 16) (.t 17), none⟩,
  ⟨some 4, .mov (.t 18), none⟩]
noncomputable def s86ur6 : List SOper := [
  ⟨some 19, .mov (.t 4), none⟩,
  ⟨some 20, .mov (.t 4), none⟩,
  ⟨some 21, .mov (.t 4), none⟩,
  ⟨some 22, .nilCheck (.t 21), none⟩,
  ⟨some 23, .faddr 2 (.t 22), none⟩,
  ⟨some 24, .load none (.t 23), none⟩,
  ⟨some 25, .call (.k (.d (.func (.func 112) [] []))) [(.t 24)], none⟩,
  ⟨some 26, .mov (.t 4), none⟩,
  ⟨some 27, .nilCheck (.t 26), none⟩,
  ⟨some 28, .faddr 3 (.t 27), none⟩,
  ⟨some 29, .load none (.t 28), none⟩,
  ⟨some 30, .call (.k (.d (.func (.func 112) [] []))) [(.t 29)], none⟩,
  ⟨some 31, .nilCheck (.t 19), none⟩,
  ⟨some 32, .faddr 2 (.t 31), none⟩,
  ⟨none, .store none (.t 32) (.t 25), none⟩,
  ⟨some 33, .nilCheck (.t 20), none⟩,
  ⟨some 34, .faddr 3 (.t 33), none⟩,
  ⟨none, .store none (.t 34) (.t 30), none⟩]
noncomputable def s86ur7 : List SOper := [
  ⟨some 35, .bin .add (.t 12) (.k (.d (.int .i64 1))), none⟩,
  ⟨some 12, .mov (.t 35), none⟩]
noncomputable def s86ul8 : SCode := (.seq (.region s86ur3 0 []) (.seq (.cond (.t 13) .skip (.exit 0)) (.seq (.block 1 (.seq (.region s86ur4 0 []) (.seq (.region s86ur5 0 []) (.region s86ur6 0 [(6, 10)])))) (.pause (.region s86ur7 0 [])))))
theorem e86ul8 : AWp P k0 s86ul8 Q st = AWp P k0 (.seq (.region s86ur3 0 []) (.seq (.cond (.t 13) .skip (.exit 0)) (.seq (.block 1 (.seq (.region s86ur4 0 []) (.seq (.region s86ur5 0 []) (.region s86ur6 0 [(6, 10)])))) (.pause (.region s86ur7 0 []))))) Q st := rfl
noncomputable def s86ur9 : List SOper := [
  ⟨some 36, .load (some 2) (.t 1), none⟩,
  ⟨none, .store (some 2) (.t 2) (.t 36), none⟩]
noncomputable def s86u : SCode := (.seq (.region s86ur0 2 []) (.seq (.region s86ur1 0 []) (.seq (.seq (.pause (.region s86ur2 0 [])) (.block 0 (.loop s86ul8))) (.seq (.region s86ur9 0 []) (.pause .ret)))))
theorem e86u : AWp P k0 s86u Q st = AWp P k0 (.seq (.region s86ur0 2 []) (.seq (.region s86ur1 0 []) (.seq (.seq (.pause (.region s86ur2 0 [])) (.block 0 (.loop s86ul8))) (.seq (.region s86ur9 0 []) (.pause .ret))))) Q st := rfl
theorem u86ur0 : goReg P s86ur0 o p Q st = goLit P (litOf s86ur0.eq_1) o p Q st := goReg_of _
theorem u86ur1 : goReg P s86ur1 o p Q st = goLit P (litOf s86ur1.eq_1) o p Q st := goReg_of _
theorem u86ur2 : goReg P s86ur2 o p Q st = goLit P (litOf s86ur2.eq_1) o p Q st := goReg_of _
theorem u86ur3 : goReg P s86ur3 o p Q st = goLit P (litOf s86ur3.eq_1) o p Q st := goReg_of _
theorem u86ur4 : goReg P s86ur4 o p Q st = goLit P (litOf s86ur4.eq_1) o p Q st := goReg_of _
theorem u86ur5 : goReg P s86ur5 o p Q st = goLit P (litOf s86ur5.eq_1) o p Q st := goReg_of _
theorem u86ur6 : goReg P s86ur6 o p Q st = goLit P (litOf s86ur6.eq_1) o p Q st := goReg_of _
theorem u86ur7 : goReg P s86ur7 o p Q st = goLit P (litOf s86ur7.eq_1) o p Q st := goReg_of _
theorem u86ur9 : goReg P s86ur9 o p Q st = goLit P (litOf s86ur9.eq_1) o p Q st := goReg_of _
attribute [go_sem] u86ur0 u86ur1 u86ur2 u86ur3 u86ur4 u86ur5 u86ur6 u86ur7 e86ul8 u86ur9 e86u
set_option maxRecDepth 100000 in
theorem F86u : FnIs Try.prog 86 Try.f86 [] news s86u [.cell 2 (some 2)] 37 := ⟨follows, Try.func86, by kernel_rfl, by kernel_rfl, by kernel_rfl, by kernel_rfl⟩

end

theorem retok_uni0 (b es : Nat) (rows : List (List D)) : retok b (.uni 0 es rows) = .uni b es rows := by simp [retok, renT, ASlot.toks]
theorem retok_own0 (b es : Nat) (rows : List (List D)) : retok b (.own 0 es rows) = .own b es rows := by simp [retok, renT, ASlot.toks]
attribute [go_sem] retok_uni0 retok_own0
def flatE (l : List En) : List ASlot := (l.map encEn).flatten.map ASlot.d
theorem flatE_def (l : List En) : List.map ASlot.d (l.map encEn).flatten = flatE l := rfl
theorem flatE_cons (x : En) (l : List En) : flatE (x :: l) = .d (.int .i64 x.sess) :: .d (.int .i64 x.phase) :: .d (.sl 1 (x.moved.map encB)) :: .d (.sl 1 (x.opened.map encB)) :: flatE l := rfl
theorem flatE_len : ∀ l : List En, (flatE l).length = l.length * 4
  | [] => rfl
  | x :: l => by rw [flatE_cons]; simp only [List.length_cons, flatE_len l]; omega
theorem flatE_get : ∀ (l : List En) (i j : Nat) (_ : i < l.length) (_ : j < 4), (flatE l)[i * 4 + j]? = some (.d ((encEn l[i]).getD j .nilsl))
  | x :: l, 0, j, _, hj => by
    rw [flatE_cons]
    have : j = 0 ∨ j = 1 ∨ j = 2 ∨ j = 3 := by omega
    rcases this with rfl | rfl | rfl | rfl <;> rfl
  | x :: l, i + 1, j, hi, hj => by
    rw [flatE_cons, show (i + 1) * 4 + j = (i * 4 + j) + 1 + 1 + 1 + 1 by omega]
    simp only [List.getElem?_cons_succ]
    exact flatE_get l i j (by simpa using hi) hj
theorem flatE_getD (l : List En) (i j : Nat) (hi : i < l.length) (hj : j < 4) : (flatE l).getD (i * 4 + j) .bad = .d ((encEn l[i]).getD j .nilsl) := by
  rw [List.getD_eq_getElem?_getD, flatE_get l i j hi hj]; rfl
theorem flatE_set (l : List En) (i j : Nat) (hi : i < l.length) (hj : j < 4) : (flatE l).set (i * 4 + j) (.d ((encEn l[i]).getD j .nilsl)) = flatE l := by
  refine List.ext_getElem? fun k => ?_
  rw [List.getElem?_set]
  split
  · rename_i h; subst h
    rw [flatE_get l i j hi hj]
    have := (List.getElem?_eq_some_iff.1 (flatE_get l i j hi hj)).1
    simp [this]
  · rfl

theorem flatE_g2 {l : List En} {i : Nat} (hi : i < l.length) : (flatE l).getD (i * 4 + 2) .bad = .d (.sl 1 (l[i].moved.map encB)) := flatE_getD l i 2 hi (by decide)
theorem flatE_g3 {l : List En} {i : Nat} (hi : i < l.length) : (flatE l).getD (i * 4 + 3) .bad = .d (.sl 1 (l[i].opened.map encB)) := flatE_getD l i 3 hi (by decide)
theorem flatE_s2 {l : List En} {i : Nat} (hi : i < l.length) : (flatE l).set (i * 4 + 2) (.d (.sl 1 (l[i].moved.map encB))) = flatE l := flatE_set l i 2 hi (by decide)
theorem flatE_s3 {l : List En} {i : Nat} (hi : i < l.length) : (flatE l).set (i * 4 + 3) (.d (.sl 1 (l[i].opened.map encB))) = flatE l := flatE_set l i 3 hi (by decide)
theorem csW_flatE (keep : Nat → Bool) : ∀ l : List En, csW keep (flatE l) (flatE l)
  | [] => by simp only [flatE, List.map_nil, List.flatten_nil, csW]
  | x :: l => by
    rw [flatE_cons]
    have := csW_flatE keep l
    try simp only [this, go_sem, Nat.reduceAdd, Nat.reduceMul, Nat.reduceSub, Nat.reduceEqDiff, Nat.reduceLT, Nat.reduceLeDiff, Nat.reduceBEq, reduceIte, reduceCtorEq, Int.reduceAdd, Int.reduceLT, Int.reduceLE, Int.reduceGT, Int.reduceGE, Int.reduceEq, Int.reduceNe, Int.reduceBEq, Int.reduceBNe, Int.reduceToNat, Int.reduceNeg]
theorem pairsCs_flatE : ∀ l : List En, pairsCs (flatE l) (flatE l) = []
  | [] => rfl
  | x :: l => by
    rw [flatE_cons]
    have := pairsCs_flatE l
    try simp only [this, go_sem, Nat.reduceAdd, Nat.reduceMul, Nat.reduceSub, Nat.reduceEqDiff, Nat.reduceLT, Nat.reduceLeDiff, Nat.reduceBEq, reduceIte, reduceCtorEq, Int.reduceAdd, Int.reduceLT, Int.reduceLE, Int.reduceGT, Int.reduceGE, Int.reduceEq, Int.reduceNe, Int.reduceBEq, Int.reduceBNe, Int.reduceToNat, Int.reduceNeg]
theorem toks_flatE : ∀ l : List En, (flatE l).flatMap ASlot.toks = []
  | [] => rfl
  | x :: l => by
    rw [flatE_cons]
    have := toks_flatE l
    try simp only [List.flatMap_cons, this, go_sem, Nat.reduceAdd, Nat.reduceMul, Nat.reduceSub, Nat.reduceEqDiff, Nat.reduceLT, Nat.reduceLeDiff, Nat.reduceBEq, reduceIte, reduceCtorEq, Int.reduceAdd, Int.reduceLT, Int.reduceLE, Int.reduceGT, Int.reduceGE, Int.reduceEq, Int.reduceNe, Int.reduceBEq, Int.reduceBNe, Int.reduceToNat, Int.reduceNeg]
attribute [go_sem] csW_flatE pairsCs_flatE toks_flatE flatE_len

def Scop (m : Mg) (i : { i : Nat // i ≤ m.ents.length }) : St :=
  ⟨[(1, true, .d (.ptr 0 0)), (2, true, .d (.ptr 1 0)), (11, true, .d (.int .i64 m.ents.length)), (12, true, .d (.int .i64 (i.val : Nat)))],
   [.row [.d (.int .i64 m.roles), .d (.ref 2 0 4 m.ents.length)], .row [.d (.int .i64 0), .d .nilsl], .row (flatE m.ents)], [], 1⟩

set_option maxRecDepth 10000 in
theorem copied_ok (m : Mg) (hm : m.Sm) : ACall Try.prog 86 [.d (.agg (encMg m))] [] (.d (.agg [.int .i64 m.roles, .ref 2 0 4 m.ents.length])) [.none, .none, .row (flatE m.ents)] := by
  have hl := hm.1
  refine F86u.go ?_
  try simp only [encMg, go_sem, Nat.reduceAdd, Nat.reduceMul, Nat.reduceSub, Nat.reduceEqDiff, Nat.reduceLT, Nat.reduceLeDiff, Nat.reduceBEq, reduceIte, reduceCtorEq, Int.reduceAdd, Int.reduceLT, Int.reduceLE, Int.reduceGT, Int.reduceGE, Int.reduceEq, Int.reduceNe, Int.reduceBEq, Int.reduceBNe, Int.reduceToNat, Int.reduceNeg]
  refine clA F111u (cloneE_ok m.ents hm.1) ?_
  try (refine ev ?_; try exact True.intro)
  try (refine ev ?_; try exact True.intro)
  (repeat (with_reducible refine ob ?_))
  refine pu_u2o (.cell 0 1) _ 4 (m.ents.map encEn) ?_
  refine pu ?_
  try (refine ev ?_; try exact True.intro)
  refine AWp_loop (Scop m) (fun i => m.ents.length - i.val) ⟨0, Nat.zero_le _⟩ ?_ (fun i => ?_)
  · try simp only [Scop, flatE_def, go_sem, Nat.reduceAdd, Nat.reduceMul, Nat.reduceSub, Nat.reduceEqDiff, Nat.reduceLT, Nat.reduceLeDiff, Nat.reduceBEq, reduceIte, reduceCtorEq, Int.reduceAdd, Int.reduceLT, Int.reduceLE, Int.reduceGT, Int.reduceGE, Int.reduceEq, Int.reduceNe, Int.reduceBEq, Int.reduceBNe, Int.reduceToNat, Int.reduceNeg]
  obtain ⟨i, hi⟩ := i
  try simp only [Scop, go_sem, Nat.reduceAdd, Nat.reduceMul, Nat.reduceSub, Nat.reduceEqDiff, Nat.reduceLT, Nat.reduceLeDiff, Nat.reduceBEq, reduceIte, reduceCtorEq, Int.reduceAdd, Int.reduceLT, Int.reduceLE, Int.reduceGT, Int.reduceGE, Int.reduceEq, Int.reduceNe, Int.reduceBEq, Int.reduceBNe, Int.reduceToNat, Int.reduceNeg]
  (repeat (with_reducible refine ob ?_)); refine iff_ _ (fun h => ?_) (fun h => ?_)
  · have hil : i < m.ents.length := by simpa using h
    have hx := hm.2 _ (List.getElem_mem hil)
    try (refine ev ?_; try exact True.intro)
    (repeat (with_reducible refine ob ?_))
    rw [flatE_g2 hil]
    (repeat (with_reducible refine ob ?_)); first | refine cl F112 (cloneB_ok m.ents[i].moved hx.1) ?_ | refine clF F112 (cloneB_ok m.ents[i].moved hx.1) (fun _ => by simp only [encEn, encMg, go_sem, Nat.reduceAdd, Nat.reduceMul, Nat.reduceSub, Nat.reduceEqDiff, Nat.reduceLT, Nat.reduceLeDiff, Nat.reduceBEq, reduceIte, reduceCtorEq, Int.reduceAdd, Int.reduceLT, Int.reduceLE, Int.reduceGT, Int.reduceGE, Int.reduceEq, Int.reduceNe, Int.reduceBEq, Int.reduceBNe, Int.reduceToNat, Int.reduceNeg]) ?_
    try (refine ev ?_; try exact True.intro)
    (repeat (with_reducible refine ob ?_))
    rw [flatE_g3 hil]
    (repeat (with_reducible refine ob ?_)); first | refine cl F112 (cloneB_ok m.ents[i].opened hx.2) ?_ | refine clF F112 (cloneB_ok m.ents[i].opened hx.2) (fun _ => by simp only [encEn, encMg, go_sem, Nat.reduceAdd, Nat.reduceMul, Nat.reduceSub, Nat.reduceEqDiff, Nat.reduceLT, Nat.reduceLeDiff, Nat.reduceBEq, reduceIte, reduceCtorEq, Int.reduceAdd, Int.reduceLT, Int.reduceLE, Int.reduceGT, Int.reduceGE, Int.reduceEq, Int.reduceNe, Int.reduceBEq, Int.reduceBNe, Int.reduceToNat, Int.reduceNeg]) ?_
    try simp only [flatE_s2 hil, flatE_s3 hil, go_sem, Nat.reduceAdd, Nat.reduceMul, Nat.reduceSub, Nat.reduceEqDiff, Nat.reduceLT, Nat.reduceLeDiff, Nat.reduceBEq, reduceIte, reduceCtorEq, Int.reduceAdd, Int.reduceLT, Int.reduceLE, Int.reduceGT, Int.reduceGE, Int.reduceEq, Int.reduceNe, Int.reduceBEq, Int.reduceBNe, Int.reduceToNat, Int.reduceNeg]
    (repeat (with_reducible refine ob ?_))
    try simp only [flatE_s2 hil, flatE_s3 hil, go_sem, Nat.reduceAdd, Nat.reduceMul, Nat.reduceSub, Nat.reduceEqDiff, Nat.reduceLT, Nat.reduceLeDiff, Nat.reduceBEq, reduceIte, reduceCtorEq, Int.reduceAdd, Int.reduceLT, Int.reduceLE, Int.reduceGT, Int.reduceGE, Int.reduceEq, Int.reduceNe, Int.reduceBEq, Int.reduceBNe, Int.reduceToNat, Int.reduceNeg]
    (repeat (with_reducible refine ob ?_))
    try simp only [flatE_s2 hil, flatE_s3 hil, go_sem, Nat.reduceAdd, Nat.reduceMul, Nat.reduceSub, Nat.reduceEqDiff, Nat.reduceLT, Nat.reduceLeDiff, Nat.reduceBEq, reduceIte, reduceCtorEq, Int.reduceAdd, Int.reduceLT, Int.reduceLE, Int.reduceGT, Int.reduceGE, Int.reduceEq, Int.reduceNe, Int.reduceBEq, Int.reduceBNe, Int.reduceToNat, Int.reduceNeg]
    refine pu ?_
    try (refine ev ?_; try exact True.intro)
    refine ⟨⟨i + 1, hil⟩, ?_, by dsimp only; omega⟩
    try simp only [Scop, wrap_succ (show i < 9223372036854775807 by omega), go_sem, Nat.reduceAdd, Nat.reduceMul, Nat.reduceSub, Nat.reduceEqDiff, Nat.reduceLT, Nat.reduceLeDiff, Nat.reduceBEq, reduceIte, reduceCtorEq, Int.reduceAdd, Int.reduceLT, Int.reduceLE, Int.reduceGT, Int.reduceGE, Int.reduceEq, Int.reduceNe, Int.reduceBEq, Int.reduceBNe, Int.reduceToNat, Int.reduceNeg]
  · have hil : i = m.ents.length := by have : m.ents.length ≤ i := by simpa using h
                                       omega
    subst hil
    try (refine ev ?_; try exact True.intro)
    refine pu ?_
    try (refine ev ?_; try exact True.intro)
    trace_state

theorem csW_set {keep : Nat → Bool} {s : ASlot} (hs : slotW keep s s) : ∀ (l : List ASlot) (i : Nat), csW keep l l → csW keep (l.set i s) (l.set i s)
  | [], _, h => h
  | _ :: _, 0, h => ⟨hs, h.2⟩
  | _ :: l, i + 1, h => ⟨h.1, csW_set hs l i h.2⟩
theorem pairsCs_set {s : ASlot} (hs : tokPair s s = []) : ∀ (l : List ASlot) (i : Nat), pairsCs l l = [] → pairsCs (l.set i s) (l.set i s) = []
  | [], _, h => h
  | x :: l, 0, h => by
    rw [List.set_cons_zero, pairsCs_cons]
    rw [pairsCs_cons, List.append_eq_nil_iff] at h
    rw [hs, h.2]; rfl
  | x :: l, i + 1, h => by
    rw [List.set_cons_succ, pairsCs_cons]
    rw [pairsCs_cons, List.append_eq_nil_iff] at h
    rw [h.1, pairsCs_set hs l i h.2]; rfl
theorem toks_set {s : ASlot} (hs : s.toks = []) : ∀ (l : List ASlot) (i : Nat), l.flatMap ASlot.toks = [] → (l.set i s).flatMap ASlot.toks = []
  | [], _, h => h
  | x :: l, 0, h => by
    rw [List.set_cons_zero, List.flatMap_cons]
    rw [List.flatMap_cons, List.append_eq_nil_iff] at h
    rw [hs, h.2]; rfl
  | x :: l, i + 1, h => by
    rw [List.set_cons_succ, List.flatMap_cons]
    rw [List.flatMap_cons, List.append_eq_nil_iff] at h
    rw [h.1, toks_set hs l i h.2]; rfl

section
variable {P : Program} {k0 o : Nat} {p : List (Nat × Nat)} {Q : SExit → St → Prop} {st : St}
noncomputable def s86vr0 : List SOper := [
  ⟨some 1, .box 2 (.t 0), none⟩,
  ⟨some 2, .alloc 1 [(.d (.int .i64 0)), (.d .nilsl)], none⟩]
noncomputable def s86vr1 : List SOper := [
  ⟨some 5, .faddr 1 (.t 1), none⟩,
  ⟨some 6, .load none (.t 5), none⟩,
  ⟨some 7, .call (.k (.d (.func (.func 111) [] []))) [(.t 6)], none⟩,
  ⟨some 8, .faddr 1 (.t 1), none⟩,
  ⟨none, .store none (.t 8) (.t 7), none⟩]
noncomputable def s86vr2 : List SOper := [
  ⟨some 9, .faddr 1 (.t 1), none⟩,
  ⟨some 10, .load none (.t 9), none⟩,
  ⟨some 11, .len (.t 10), none⟩,
  ⟨some 12, .mov (.k (.d (.int .i64 0))), none⟩]
noncomputable def s86vr3 : List SOper := [
  ⟨some 13, .bin .lss (.t 12) (.t 11), none⟩]
noncomputable def s86vr4 : List SOper := [
  ⟨some 14, .mov (.t 12), none⟩,
  ⟨some 3, .mov (.t 14), none⟩]
noncomputable def s86vr5 : List SOper := [
  ⟨some 15, .faddr 1 (.t 1), none⟩,
  ⟨some 16, .load none (.t 15), none⟩,
  ⟨some 17, .mov (.t 3), none⟩,
  ⟨some 18, .iaddr 4 (.t 16) (.t 17), none⟩,
  ⟨some 4, .mov (.t 18), none⟩]
noncomputable def s86vr6 : List SOper := [
  ⟨some 19, .mov (.t 4), none⟩,
  ⟨some 20, .mov (.t 4), none⟩,
  ⟨some 21, .mov (.t 4), none⟩,
  ⟨some 22, .nilCheck (.t 21), none⟩,
  ⟨some 23, .faddr 2 (.t 22), none⟩,
  ⟨some 24, .load none (.t 23), none⟩,
  ⟨some 25, .call (.k (.d (.func (.func 112) [] []))) [(.t 24)], none⟩,
  ⟨some 26, .mov (.t 4), none⟩,
  ⟨some 27, .nilCheck (.t 26), none⟩,
  ⟨some 28, .faddr 3 (.t 27), none⟩,
  ⟨some 29, .load none (.t 28), none⟩,
  ⟨some 30, .call (.k (.d (.func (.func 112) [] []))) [(.t 29)], none⟩,
  ⟨some 31, .nilCheck (.t 19), none⟩,
  ⟨some 32, .faddr 2 (.t 31), none⟩,
  ⟨none, .store none (.t 32) (.t 25), none⟩,
  ⟨some 33, .nilCheck (.t 20), none⟩,
  ⟨some 34, .faddr 3 (.t 33), none⟩,
  ⟨none, .store none (.t 34) (.t 30), none⟩]
noncomputable def s86vr7 : List SOper := [
  ⟨some 35, .bin .add (.t 12) (.k (.d (.int .i64 1))), none⟩,
  ⟨some 12, .mov (.t 35), none⟩]
noncomputable def s86vl8 : SCode := (.seq (.region s86vr3 0 []) (.seq (.cond (.t 13) .skip (.exit 0)) (.seq (.block 1 (.seq (.region s86vr4 0 []) (.seq (.region s86vr5 0 []) (.region s86vr6 0 [(6, 10)])))) (.pause (.region s86vr7 0 [])))))
theorem e86vl8 : AWp P k0 s86vl8 Q st = AWp P k0 (.seq (.region s86vr3 0 []) (.seq (.cond (.t 13) .skip (.exit 0)) (.seq (.block 1 (.seq (.region s86vr4 0 []) (.seq (.region s86vr5 0 []) (.region s86vr6 0 [(6, 10)])))) (.pause (.region s86vr7 0 []))))) Q st := rfl
noncomputable def s86vr9 : List SOper := [
  ⟨some 36, .load (some 2) (.t 1), none⟩,
  ⟨none, .store (some 2) (.t 2) (.t 36), none⟩]
noncomputable def s86v : SCode := (.seq (.region s86vr0 2 []) (.seq (.region s86vr1 0 []) (.seq (.seq (.pause (.region s86vr2 0 [])) (.block 0 (.loop s86vl8))) (.seq (.region s86vr9 0 []) (.pause .ret)))))
theorem e86v : AWp P k0 s86v Q st = AWp P k0 (.seq (.region s86vr0 2 []) (.seq (.region s86vr1 0 []) (.seq (.seq (.pause (.region s86vr2 0 [])) (.block 0 (.loop s86vl8))) (.seq (.region s86vr9 0 []) (.pause .ret))))) Q st := rfl
theorem u86vr0 : goReg P s86vr0 o p Q st = goLit P (litOf s86vr0.eq_1) o p Q st := goReg_of _
theorem u86vr1 : goReg P s86vr1 o p Q st = goLit P (litOf s86vr1.eq_1) o p Q st := goReg_of _
theorem u86vr2 : goReg P s86vr2 o p Q st = goLit P (litOf s86vr2.eq_1) o p Q st := goReg_of _
theorem u86vr3 : goReg P s86vr3 o p Q st = goLit P (litOf s86vr3.eq_1) o p Q st := goReg_of _
theorem u86vr4 : goReg P s86vr4 o p Q st = goLit P (litOf s86vr4.eq_1) o p Q st := goReg_of _
theorem u86vr5 : goReg P s86vr5 o p Q st = goLit P (litOf s86vr5.eq_1) o p Q st := goReg_of _
theorem u86vr6 : goReg P s86vr6 o p Q st = goLit P (litOf s86vr6.eq_1) o p Q st := goReg_of _
theorem u86vr7 : goReg P s86vr7 o p Q st = goLit P (litOf s86vr7.eq_1) o p Q st := goReg_of _
theorem u86vr9 : goReg P s86vr9 o p Q st = goLit P (litOf s86vr9.eq_1) o p Q st := goReg_of _
attribute [go_sem] u86vr0 u86vr1 u86vr2 u86vr3 u86vr4 u86vr5 u86vr6 u86vr7 e86vl8 u86vr9 e86v
set_option maxRecDepth 100000 in
theorem F86v : FnIs Try.prog 86 Try.f86 [] news s86v [.cell 2 (some 2)] 37 := ⟨follows, Try.func86, by kernel_rfl, by kernel_rfl, by kernel_rfl, by kernel_rfl⟩

end

def refA (l : List ASlot) (k a b : Nat) (x : En) : List ASlot := (l.set (k * 4 + 2) (.d (.ref a 0 1 x.moved.length))).set (k * 4 + 3) (.d (.ref b 0 1 x.opened.length))
def bitO (l : List Bool) : AObj := .row ((l.map encB).flatten.map ASlot.d)
theorem bitO_def (l : List Bool) : AObj.row ((l.map encB).flatten.map ASlot.d) = bitO l := rfl

theorem refA_len (l : List ASlot) (k a b : Nat) (x : En) : (refA l k a b x).length = l.length := by simp [refA]
theorem refA_g2 {l : List En} {k a b i : Nat} {x : En} (hik : i ≠ k) (hi : i < l.length) : (refA (flatE l) k a b x).getD (i * 4 + 2) .bad = .d (.sl 1 (l[i].moved.map encB)) := by
  rw [← flatE_g2 hi, List.getD_eq_getElem?_getD, List.getD_eq_getElem?_getD, refA, List.getElem?_set_ne (by omega), List.getElem?_set_ne (by omega)]
theorem refA_g3 {l : List En} {k a b i : Nat} {x : En} (hik : i ≠ k) (hi : i < l.length) : (refA (flatE l) k a b x).getD (i * 4 + 3) .bad = .d (.sl 1 (l[i].opened.map encB)) := by
  rw [← flatE_g3 hi, List.getD_eq_getElem?_getD, List.getD_eq_getElem?_getD, refA, List.getElem?_set_ne (by omega), List.getElem?_set_ne (by omega)]
theorem refA_s2 {l : List En} {k a b i : Nat} {x : En} (hik : i ≠ k) (hi : i < l.length) : (refA (flatE l) k a b x).set (i * 4 + 2) (.d (.sl 1 (l[i].moved.map encB))) = refA (flatE l) k a b x := by
  rw [refA, List.set_comm _ _ (show k * 4 + 3 ≠ i * 4 + 2 by omega), List.set_comm _ _ (show k * 4 + 2 ≠ i * 4 + 2 by omega), flatE_s2 hi]
theorem refA_s3 {l : List En} {k a b i : Nat} {x : En} (hik : i ≠ k) (hi : i < l.length) : (refA (flatE l) k a b x).set (i * 4 + 3) (.d (.sl 1 (l[i].opened.map encB))) = refA (flatE l) k a b x := by
  rw [refA, List.set_comm _ _ (show k * 4 + 3 ≠ i * 4 + 3 by omega), List.set_comm _ _ (show k * 4 + 2 ≠ i * 4 + 3 by omega), flatE_s3 hi]
theorem csW_refA {keep : Nat → Bool} {l : List En} {k a b : Nat} {x : En} (ha : keep a = true) (hb : keep b = true) : csW keep (refA (flatE l) k a b x) (refA (flatE l) k a b x) :=
  csW_set (by try simp only [ha, hb, go_sem, Nat.reduceAdd, Nat.reduceMul, Nat.reduceSub, Nat.reduceEqDiff, Nat.reduceLT, Nat.reduceLeDiff, Nat.reduceBEq, reduceIte, reduceCtorEq, Int.reduceAdd, Int.reduceLT, Int.reduceLE, Int.reduceGT, Int.reduceGE, Int.reduceEq, Int.reduceNe, Int.reduceBEq, Int.reduceBNe, Int.reduceToNat, Int.reduceNeg]) _ _ (csW_set (by try simp only [ha, hb, go_sem, Nat.reduceAdd, Nat.reduceMul, Nat.reduceSub, Nat.reduceEqDiff, Nat.reduceLT, Nat.reduceLeDiff, Nat.reduceBEq, reduceIte, reduceCtorEq, Int.reduceAdd, Int.reduceLT, Int.reduceLE, Int.reduceGT, Int.reduceGE, Int.reduceEq, Int.reduceNe, Int.reduceBEq, Int.reduceBNe, Int.reduceToNat, Int.reduceNeg]) _ _ (csW_flatE keep l))
theorem pairsCs_refA {l : List En} {k a b : Nat} {x : En} : pairsCs (refA (flatE l) k a b x) (refA (flatE l) k a b x) = [] := pairsCs_set rfl _ _ (pairsCs_set rfl _ _ (pairsCs_flatE l))
theorem toks_refA {l : List En} {k a b : Nat} {x : En} : (refA (flatE l) k a b x).flatMap ASlot.toks = [] := toks_set rfl _ _ (toks_set rfl _ _ (toks_flatE l))
theorem bits_def (l : List Bool) : List.map ASlot.d (l.map encB).flatten = l.map fun b => .d (.bool b) := by
  induction l with
  | nil => rfl
  | cons b l ih => simp only [List.map_cons, List.flatten_cons, encB, List.cons_append, List.nil_append, ih]
theorem csW_bits (keep : Nat → Bool) : ∀ l : List Bool, csW keep (l.map fun b => .d (.bool b)) (l.map fun b => .d (.bool b))
  | [] => trivial
  | x :: l => by
    have := csW_bits keep l
    try simp only [List.map_cons, this, go_sem, Nat.reduceAdd, Nat.reduceMul, Nat.reduceSub, Nat.reduceEqDiff, Nat.reduceLT, Nat.reduceLeDiff, Nat.reduceBEq, reduceIte, reduceCtorEq, Int.reduceAdd, Int.reduceLT, Int.reduceLE, Int.reduceGT, Int.reduceGE, Int.reduceEq, Int.reduceNe, Int.reduceBEq, Int.reduceBNe, Int.reduceToNat, Int.reduceNeg]
theorem pairsCs_bits : ∀ l : List Bool, pairsCs (l.map fun b => .d (.bool b)) (l.map fun b => .d (.bool b)) = []
  | [] => rfl
  | x :: l => by
    have := pairsCs_bits l
    try simp only [List.map_cons, this, go_sem, Nat.reduceAdd, Nat.reduceMul, Nat.reduceSub, Nat.reduceEqDiff, Nat.reduceLT, Nat.reduceLeDiff, Nat.reduceBEq, reduceIte, reduceCtorEq, Int.reduceAdd, Int.reduceLT, Int.reduceLE, Int.reduceGT, Int.reduceGE, Int.reduceEq, Int.reduceNe, Int.reduceBEq, Int.reduceBNe, Int.reduceToNat, Int.reduceNeg]
theorem toks_bits : ∀ l : List Bool, ((l.map fun b => .d (.bool b)).flatMap ASlot.toks : List Nat) = []
  | [] => rfl
  | x :: l => by
    have := toks_bits l
    try simp only [List.map_cons, List.flatMap_cons, this, go_sem, Nat.reduceAdd, Nat.reduceMul, Nat.reduceSub, Nat.reduceEqDiff, Nat.reduceLT, Nat.reduceLeDiff, Nat.reduceBEq, reduceIte, reduceCtorEq, Int.reduceAdd, Int.reduceLT, Int.reduceLE, Int.reduceGT, Int.reduceGE, Int.reduceEq, Int.reduceNe, Int.reduceBEq, Int.reduceBNe, Int.reduceToNat, Int.reduceNeg]
attribute [go_sem] refA_len csW_refA pairsCs_refA toks_refA bits_def csW_bits pairsCs_bits toks_bits

theorem refA_def (l : List ASlot) (k a b : Nat) (x : En) : (l.set (k * 4 + 2) (.d (.ref a 0 1 x.moved.length))).set (k * 4 + 3) (.d (.ref b 0 1 x.opened.length)) = refA l k a b x := rfl
theorem set4 {l : List ASlot} {a b : Nat} {u v x y : ASlot} (h : a ≠ b) : (((l.set a u).set b v).set a x).set b y = (l.set a x).set b y := by
  rw [List.set_comm _ _ (Ne.symm h), List.set_set, List.set_set]

def ScopA (m : Mg) (k : Nat) (x : En) (i : { i : Nat // i ≤ m.ents.length }) : St :=
  ⟨[(1, true, .d (.ptr 0 0)), (2, true, .d (.ptr 1 0)), (11, true, .d (.int .i64 m.ents.length)), (12, true, .d (.int .i64 (i.val : Nat)))],
   if i.val ≤ k then [.row [.d (.int .i64 m.roles), .d (.ref 2 0 4 m.ents.length)], .row [.d (.int .i64 0), .d .nilsl], .row (flatE m.ents)]
   else [.row [.d (.int .i64 m.roles), .d (.ref 2 0 4 m.ents.length)], .row [.d (.int .i64 0), .d .nilsl], .row (refA (flatE m.ents) k 3 4 x), .row (x.moved.map fun b => .d (.bool b)), .row (x.opened.map fun b => .d (.bool b))], [], 1⟩

set_option maxRecDepth 10000 in
theorem copiedAt_ok (m : Mg) (hm : m.Sm) (k : Nat) (hk : k < m.ents.length) : ACall Try.prog 86 [.d (.agg (encMg m))] [] (.d (.agg [.int .i64 m.roles, .ref 2 0 4 m.ents.length]))
    [.none, .none, .row (refA (flatE m.ents) k 3 4 m.ents[k]), .row (m.ents[k].moved.map fun b => .d (.bool b)), .row (m.ents[k].opened.map fun b => .d (.bool b))] := by
  have hl := hm.1
  refine F86v.go ?_
  try simp only [encMg, go_sem, Nat.reduceAdd, Nat.reduceMul, Nat.reduceSub, Nat.reduceEqDiff, Nat.reduceLT, Nat.reduceLeDiff, Nat.reduceBEq, reduceIte, reduceCtorEq, Int.reduceAdd, Int.reduceLT, Int.reduceLE, Int.reduceGT, Int.reduceGE, Int.reduceEq, Int.reduceNe, Int.reduceBEq, Int.reduceBNe, Int.reduceToNat, Int.reduceNeg]
  refine clA F111u (cloneE_ok m.ents hm.1) ?_
  try (refine ev ?_; try exact True.intro)
  (repeat (with_reducible refine ob ?_))
  refine pu_u2o (.cell 0 1) _ 4 (m.ents.map encEn) ?_
  refine pu ?_
  try (refine ev ?_; try exact True.intro)
  refine AWp_loop (ScopA m k m.ents[k]) (fun i => m.ents.length - i.val) ⟨0, Nat.zero_le _⟩ ?_ (fun i => ?_)
  · try simp only [ScopA, flatE_def, Nat.zero_le, go_sem, Nat.reduceAdd, Nat.reduceMul, Nat.reduceSub, Nat.reduceEqDiff, Nat.reduceLT, Nat.reduceLeDiff, Nat.reduceBEq, reduceIte, reduceCtorEq, Int.reduceAdd, Int.reduceLT, Int.reduceLE, Int.reduceGT, Int.reduceGE, Int.reduceEq, Int.reduceNe, Int.reduceBEq, Int.reduceBNe, Int.reduceToNat, Int.reduceNeg]
  obtain ⟨i, hi⟩ := i
  rcases Nat.lt_trichotomy i k with hik | hik | hik
  · have hle : i ≤ k := by omega
    have hle1 : i + 1 ≤ k := by omega
    try simp only [ScopA, hle, go_sem, Nat.reduceAdd, Nat.reduceMul, Nat.reduceSub, Nat.reduceEqDiff, Nat.reduceLT, Nat.reduceLeDiff, Nat.reduceBEq, reduceIte, reduceCtorEq, Int.reduceAdd, Int.reduceLT, Int.reduceLE, Int.reduceGT, Int.reduceGE, Int.reduceEq, Int.reduceNe, Int.reduceBEq, Int.reduceBNe, Int.reduceToNat, Int.reduceNeg]
    (repeat (with_reducible refine ob ?_)); refine iff_ _ (fun h => ?_) (fun h => ?_)
    · have hil : i < m.ents.length := by simpa using h
      have hx := hm.2 _ (List.getElem_mem hil)
      try (refine ev ?_; try exact True.intro)
      (repeat (with_reducible refine ob ?_))
      rw [flatE_g2 hil]
      (repeat (with_reducible refine ob ?_)); first | refine cl F112 (cloneB_ok m.ents[i].moved hx.1) ?_ | refine clF F112 (cloneB_ok m.ents[i].moved hx.1) (fun _ => by simp only [encEn, encMg, go_sem, Nat.reduceAdd, Nat.reduceMul, Nat.reduceSub, Nat.reduceEqDiff, Nat.reduceLT, Nat.reduceLeDiff, Nat.reduceBEq, reduceIte, reduceCtorEq, Int.reduceAdd, Int.reduceLT, Int.reduceLE, Int.reduceGT, Int.reduceGE, Int.reduceEq, Int.reduceNe, Int.reduceBEq, Int.reduceBNe, Int.reduceToNat, Int.reduceNeg]) ?_
      try (refine ev ?_; try exact True.intro)
      (repeat (with_reducible refine ob ?_))
      rw [flatE_g3 hil]
      (repeat (with_reducible refine ob ?_)); first | refine cl F112 (cloneB_ok m.ents[i].opened hx.2) ?_ | refine clF F112 (cloneB_ok m.ents[i].opened hx.2) (fun _ => by simp only [encEn, encMg, go_sem, Nat.reduceAdd, Nat.reduceMul, Nat.reduceSub, Nat.reduceEqDiff, Nat.reduceLT, Nat.reduceLeDiff, Nat.reduceBEq, reduceIte, reduceCtorEq, Int.reduceAdd, Int.reduceLT, Int.reduceLE, Int.reduceGT, Int.reduceGE, Int.reduceEq, Int.reduceNe, Int.reduceBEq, Int.reduceBNe, Int.reduceToNat, Int.reduceNeg]) ?_
      try simp only [flatE_s2 hil, flatE_s3 hil, go_sem, Nat.reduceAdd, Nat.reduceMul, Nat.reduceSub, Nat.reduceEqDiff, Nat.reduceLT, Nat.reduceLeDiff, Nat.reduceBEq, reduceIte, reduceCtorEq, Int.reduceAdd, Int.reduceLT, Int.reduceLE, Int.reduceGT, Int.reduceGE, Int.reduceEq, Int.reduceNe, Int.reduceBEq, Int.reduceBNe, Int.reduceToNat, Int.reduceNeg]
      (repeat (with_reducible refine ob ?_))
      try simp only [flatE_s2 hil, flatE_s3 hil, go_sem, Nat.reduceAdd, Nat.reduceMul, Nat.reduceSub, Nat.reduceEqDiff, Nat.reduceLT, Nat.reduceLeDiff, Nat.reduceBEq, reduceIte, reduceCtorEq, Int.reduceAdd, Int.reduceLT, Int.reduceLE, Int.reduceGT, Int.reduceGE, Int.reduceEq, Int.reduceNe, Int.reduceBEq, Int.reduceBNe, Int.reduceToNat, Int.reduceNeg]
      (repeat (with_reducible refine ob ?_))
      try simp only [flatE_s2 hil, flatE_s3 hil, go_sem, Nat.reduceAdd, Nat.reduceMul, Nat.reduceSub, Nat.reduceEqDiff, Nat.reduceLT, Nat.reduceLeDiff, Nat.reduceBEq, reduceIte, reduceCtorEq, Int.reduceAdd, Int.reduceLT, Int.reduceLE, Int.reduceGT, Int.reduceGE, Int.reduceEq, Int.reduceNe, Int.reduceBEq, Int.reduceBNe, Int.reduceToNat, Int.reduceNeg]
      refine pu ?_
      try (refine ev ?_; try exact True.intro)
      refine ⟨⟨i + 1, hil⟩, ?_, by dsimp only; omega⟩
      try simp only [ScopA, hle1, wrap_succ (show i < 9223372036854775807 by omega), go_sem, Nat.reduceAdd, Nat.reduceMul, Nat.reduceSub, Nat.reduceEqDiff, Nat.reduceLT, Nat.reduceLeDiff, Nat.reduceBEq, reduceIte, reduceCtorEq, Int.reduceAdd, Int.reduceLT, Int.reduceLE, Int.reduceGT, Int.reduceGE, Int.reduceEq, Int.reduceNe, Int.reduceBEq, Int.reduceBNe, Int.reduceToNat, Int.reduceNeg]
    · exfalso; simp at h; omega
  · subst hik
    have hni : ¬ (i + 1 ≤ i) := by omega
    try simp only [ScopA, Nat.le_refl, go_sem, Nat.reduceAdd, Nat.reduceMul, Nat.reduceSub, Nat.reduceEqDiff, Nat.reduceLT, Nat.reduceLeDiff, Nat.reduceBEq, reduceIte, reduceCtorEq, Int.reduceAdd, Int.reduceLT, Int.reduceLE, Int.reduceGT, Int.reduceGE, Int.reduceEq, Int.reduceNe, Int.reduceBEq, Int.reduceBNe, Int.reduceToNat, Int.reduceNeg]
    (repeat (with_reducible refine ob ?_)); refine iff_ _ (fun h => ?_) (fun h => ?_)
    · have hil : i < m.ents.length := hk
      have hx := hm.2 _ (List.getElem_mem hil)
      try (refine ev ?_; try exact True.intro)
      (repeat (with_reducible refine ob ?_))
      rw [flatE_g2 hil]
      refine clA F112u (cloneBu_ok m.ents[i].moved hx.1) ?_
      try (refine ev ?_; try exact True.intro)
      (repeat (with_reducible refine ob ?_))
      rw [flatE_g3 hil]
      refine clA F112u (cloneBu_ok m.ents[i].opened hx.2) ?_
      try (refine ev ?_; try exact True.intro)
      (repeat (with_reducible refine ob ?_))
      try (refine ev ?_; try exact True.intro)
      (repeat (with_reducible refine ob ?_))
      try simp only [List.length_set, flatE_len, go_sem, Nat.reduceAdd, Nat.reduceMul, Nat.reduceSub, Nat.reduceEqDiff, Nat.reduceLT, Nat.reduceLeDiff, Nat.reduceBEq, reduceIte, reduceCtorEq, Int.reduceAdd, Int.reduceLT, Int.reduceLE, Int.reduceGT, Int.reduceGE, Int.reduceEq, Int.reduceNe, Int.reduceBEq, Int.reduceBNe, Int.reduceToNat, Int.reduceNeg]
      (repeat (with_reducible refine ob ?_))
      have hf : (flatE m.ents).length = m.ents.length * 4 := flatE_len _
      refine pu_u2o (.cell 2 (i * 4 + 2)) 240 1 (m.ents[i].moved.map encB) ?_ (hp := by simp only [St.slotAt, objCells, List.getElem?_cons_succ, List.getElem?_cons_zero, AObj.cells, List.getD_eq_getElem?_getD]; rw [List.getElem?_set_ne (by omega), List.getElem?_set_self (by rw [hf]; omega)]; rfl)
      try simp only [List.set_comm, List.length_set, go_sem, Nat.reduceAdd, Nat.reduceMul, Nat.reduceSub, Nat.reduceEqDiff, Nat.reduceLT, Nat.reduceLeDiff, Nat.reduceBEq, reduceIte, reduceCtorEq, Int.reduceAdd, Int.reduceLT, Int.reduceLE, Int.reduceGT, Int.reduceGE, Int.reduceEq, Int.reduceNe, Int.reduceBEq, Int.reduceBNe, Int.reduceToNat, Int.reduceNeg]
      refine pu_u2o (.cell 2 (i * 4 + 3)) 320 1 (m.ents[i].opened.map encB) ?_ (hp := by simp only [St.slotAt, objCells, List.getElem?_cons_succ, List.getElem?_cons_zero, AObj.cells, List.getD_eq_getElem?_getD]; rw [List.getElem?_set_ne (by omega), List.getElem?_set_self (by rw [List.length_set, hf]; omega)]; rfl)
      try simp only [set4 (show i * 4 + 2 ≠ i * 4 + 3 by omega), refA_def, go_sem, Nat.reduceAdd, Nat.reduceMul, Nat.reduceSub, Nat.reduceEqDiff, Nat.reduceLT, Nat.reduceLeDiff, Nat.reduceBEq, reduceIte, reduceCtorEq, Int.reduceAdd, Int.reduceLT, Int.reduceLE, Int.reduceGT, Int.reduceGE, Int.reduceEq, Int.reduceNe, Int.reduceBEq, Int.reduceBNe, Int.reduceToNat, Int.reduceNeg]
      refine pu ?_
      try (refine ev ?_; try exact True.intro)
      refine ⟨⟨i + 1, hil⟩, ?_, by dsimp only; omega⟩
      try simp only [ScopA, hni, wrap_succ (show i < 9223372036854775807 by omega), go_sem, Nat.reduceAdd, Nat.reduceMul, Nat.reduceSub, Nat.reduceEqDiff, Nat.reduceLT, Nat.reduceLeDiff, Nat.reduceBEq, reduceIte, reduceCtorEq, Int.reduceAdd, Int.reduceLT, Int.reduceLE, Int.reduceGT, Int.reduceGE, Int.reduceEq, Int.reduceNe, Int.reduceBEq, Int.reduceBNe, Int.reduceToNat, Int.reduceNeg]
      exact csW_refA rfl rfl
    · exfalso; simp at h; omega
  · have hle : ¬ i ≤ k := by omega
    have hle1 : ¬ i + 1 ≤ k := by omega
    try simp only [ScopA, hle, go_sem, Nat.reduceAdd, Nat.reduceMul, Nat.reduceSub, Nat.reduceEqDiff, Nat.reduceLT, Nat.reduceLeDiff, Nat.reduceBEq, reduceIte, reduceCtorEq, Int.reduceAdd, Int.reduceLT, Int.reduceLE, Int.reduceGT, Int.reduceGE, Int.reduceEq, Int.reduceNe, Int.reduceBEq, Int.reduceBNe, Int.reduceToNat, Int.reduceNeg]
    (repeat (with_reducible refine ob ?_)); refine iff_ _ (fun h => ?_) (fun h => ?_)
    · have hil : i < m.ents.length := by simpa using h
      have hx := hm.2 _ (List.getElem_mem hil)
      have hik' : i ≠ k := by omega
      try (refine ev ?_; try exact True.intro)
      (repeat (with_reducible refine ob ?_))
      rw [refA_g2 hik' hil]
      (repeat (with_reducible refine ob ?_)); first | refine cl F112 (cloneB_ok m.ents[i].moved hx.1) ?_ | refine clF F112 (cloneB_ok m.ents[i].moved hx.1) (fun _ => by simp only [encEn, encMg, go_sem, Nat.reduceAdd, Nat.reduceMul, Nat.reduceSub, Nat.reduceEqDiff, Nat.reduceLT, Nat.reduceLeDiff, Nat.reduceBEq, reduceIte, reduceCtorEq, Int.reduceAdd, Int.reduceLT, Int.reduceLE, Int.reduceGT, Int.reduceGE, Int.reduceEq, Int.reduceNe, Int.reduceBEq, Int.reduceBNe, Int.reduceToNat, Int.reduceNeg]) ?_
      try (refine ev ?_; try exact True.intro)
      (repeat (with_reducible refine ob ?_))
      rw [refA_g3 hik' hil]
      (repeat (with_reducible refine ob ?_)); first | refine cl F112 (cloneB_ok m.ents[i].opened hx.2) ?_ | refine clF F112 (cloneB_ok m.ents[i].opened hx.2) (fun _ => by simp only [encEn, encMg, go_sem, Nat.reduceAdd, Nat.reduceMul, Nat.reduceSub, Nat.reduceEqDiff, Nat.reduceLT, Nat.reduceLeDiff, Nat.reduceBEq, reduceIte, reduceCtorEq, Int.reduceAdd, Int.reduceLT, Int.reduceLE, Int.reduceGT, Int.reduceGE, Int.reduceEq, Int.reduceNe, Int.reduceBEq, Int.reduceBNe, Int.reduceToNat, Int.reduceNeg]) ?_
      try simp only [refA_s2 hik' hil, refA_s3 hik' hil, go_sem, Nat.reduceAdd, Nat.reduceMul, Nat.reduceSub, Nat.reduceEqDiff, Nat.reduceLT, Nat.reduceLeDiff, Nat.reduceBEq, reduceIte, reduceCtorEq, Int.reduceAdd, Int.reduceLT, Int.reduceLE, Int.reduceGT, Int.reduceGE, Int.reduceEq, Int.reduceNe, Int.reduceBEq, Int.reduceBNe, Int.reduceToNat, Int.reduceNeg]
      (repeat (with_reducible refine ob ?_))
      try simp only [refA_s2 hik' hil, refA_s3 hik' hil, go_sem, Nat.reduceAdd, Nat.reduceMul, Nat.reduceSub, Nat.reduceEqDiff, Nat.reduceLT, Nat.reduceLeDiff, Nat.reduceBEq, reduceIte, reduceCtorEq, Int.reduceAdd, Int.reduceLT, Int.reduceLE, Int.reduceGT, Int.reduceGE, Int.reduceEq, Int.reduceNe, Int.reduceBEq, Int.reduceBNe, Int.reduceToNat, Int.reduceNeg]
      (repeat (with_reducible refine ob ?_))
      try simp only [refA_s2 hik' hil, refA_s3 hik' hil, go_sem, Nat.reduceAdd, Nat.reduceMul, Nat.reduceSub, Nat.reduceEqDiff, Nat.reduceLT, Nat.reduceLeDiff, Nat.reduceBEq, reduceIte, reduceCtorEq, Int.reduceAdd, Int.reduceLT, Int.reduceLE, Int.reduceGT, Int.reduceGE, Int.reduceEq, Int.reduceNe, Int.reduceBEq, Int.reduceBNe, Int.reduceToNat, Int.reduceNeg]
      refine pu ?_
      try (refine ev ?_; try exact True.intro)
      refine ⟨⟨i + 1, hil⟩, ?_, by dsimp only; omega⟩
      try simp only [ScopA, hle1, wrap_succ (show i < 9223372036854775807 by omega), go_sem, Nat.reduceAdd, Nat.reduceMul, Nat.reduceSub, Nat.reduceEqDiff, Nat.reduceLT, Nat.reduceLeDiff, Nat.reduceBEq, reduceIte, reduceCtorEq, Int.reduceAdd, Int.reduceLT, Int.reduceLE, Int.reduceGT, Int.reduceGE, Int.reduceEq, Int.reduceNe, Int.reduceBEq, Int.reduceBNe, Int.reduceToNat, Int.reduceNeg]
      exact csW_refA rfl rfl
    · have hil : i = m.ents.length := by have : m.ents.length ≤ i := by simpa using h
                                         omega
      subst hil
      try (refine ev ?_; try exact True.intro)
      refine pu ?_
      try (refine ev ?_; try exact True.intro)
      exact csW_refA rfl rfl
end Go.Proofs.Ythcpckcgjplhiaa
