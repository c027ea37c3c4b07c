/- Queues: Consume, Equal. -/
import Derived.Test.YthcpckcgjplhiaaCe
namespace Go.Proofs.Ythcpckcgjplhiaa
open Go.Abs
set_option linter.unusedSimpArgs false
attribute [go_sem] List.getD_nil

section
variable {P : Program} {k0 o : Nat} {p : List (Nat × Nat)} {Q : SExit → St → Prop} {st : St}
noncomputable def s27r0 : List SOper := [
  ⟨some 2, .box 2 (.t 0), none⟩,
  ⟨some 4, .alloc 1 [(.d (.int .i64 0)), (.d (.int .i64 0)), (.d .nilsl)], none⟩,
  ⟨some 5, .mov (.k (.d (.int .i64 0))), none⟩]
noncomputable def s27r1 : List SOper := [
  ⟨some 7, .load (some 3) (.t 2), none⟩,
  ⟨some 8, .call (.k (.d (.func (.func 32) [] []))) [(.t 7)], none⟩,
  ⟨some 9, .not (.t 8), none⟩,
  ⟨some 6, .mov (.t 9), none⟩]
noncomputable def s27r2 : List SOper := [
  ⟨some 10, .build [(.int .i64 0), (.int .i64 0), .nilsl] [], none⟩,
  ⟨none, .store (some 3) (.t 4) (.t 10), none⟩,
  ⟨some 5, .mov (.k (.d (.int .i64 1))), none⟩]
noncomputable def s27r3 : List SOper := [
  ⟨some 12, .mov (.t 1), none⟩,
  ⟨some 13, .bin .geq (.t 12) (.k (.d (.int .i64 1))), none⟩,
  ⟨some 14, .mov (.t 13), none⟩,
  ⟨some 15, .mov (.t 1), some (14, true)⟩,
  ⟨some 16, .faddr 1 (.t 2), some (14, true)⟩,
  ⟨some 17, .load none (.t 16), some (14, true)⟩,
  ⟨some 18, .bin .leq (.t 15) (.t 17), some (14, true)⟩,
  ⟨some 19, .pick (.t 14) (.t 18) (.k (.d (.bool false))), none⟩,
  ⟨some 11, .mov (.t 19), none⟩]
noncomputable def s27r4 : List SOper := [
  ⟨some 20, .build [(.int .i64 0), (.int .i64 0), .nilsl] [], none⟩,
  ⟨none, .store (some 3) (.t 4) (.t 20), none⟩,
  ⟨some 5, .mov (.k (.d (.int .i64 21))), none⟩]
noncomputable def s27r5 : List SOper := [
  ⟨some 22, .faddr 2 (.t 2), none⟩,
  ⟨some 23, .load none (.t 22), none⟩,
  ⟨some 24, .len (.t 23), none⟩,
  ⟨some 25, .bin .eql (.t 24) (.k (.d (.int .i64 0))), none⟩,
  ⟨some 26, .mov (.t 25), none⟩,
  ⟨some 27, .mov (.t 1), some (26, false)⟩,
  ⟨some 28, .faddr 2 (.t 2), some (26, false)⟩,
  ⟨some 29, .load none (.t 28), some (26, false)⟩,
  ⟨some 30, .iaddr 9 (.t 29) (.k (.d (.int .i64 0))), some (26, false)⟩,
  ⟨some 31, .faddr 5 (.t 30), some (26, false)⟩,
  ⟨some 32, .load none (.t 31), some (26, false)⟩,
  ⟨some 33, .bin .neq (.t 27) (.t 32), some (26, false)⟩,
  ⟨some 34, .pick (.t 26) (.k (.d (.bool true))) (.t 33), none⟩,
  ⟨some 21, .mov (.t 34), none⟩]
noncomputable def s27r6 : List SOper := [
  ⟨some 35, .build [(.int .i64 0), (.int .i64 0), .nilsl] [], none⟩,
  ⟨none, .store (some 3) (.t 4) (.t 35), none⟩,
  ⟨some 5, .mov (.k (.d (.int .i64 22))), none⟩]
noncomputable def s27r7 : List SOper := [
  ⟨some 36, .faddr 0 (.t 2), none⟩,
  ⟨some 37, .load none (.t 36), none⟩,
  ⟨some 38, .mov (.t 1), none⟩,
  ⟨some 39, .faddr 2 (.t 2), none⟩,
  ⟨some 40, .load none (.t 39), none⟩,
  ⟨some 41, .slice 9 (.t 40) (some (.k (.d (.int .i64 1)))) none none, none⟩,
  ⟨some 42, .call (.k (.d (.func (.func 68) [] []))) [(.t 41)], none⟩,
  ⟨some 43, .build [(.int .i64 0), (.int .i64 0), .nilsl] [(0, 1, (.t 37)), (1, 1, (.t 38)), (2, 1, (.t 42))], none⟩,
  ⟨none, .store (some 3) (.t 4) (.t 43), none⟩,
  ⟨some 5, .mov (.k (.d (.int .i64 0))), none⟩]
noncomputable def s27 : SCode := (.seq (.region s27r0 2 []) (.seq (.block 0 (.seq (.region s27r1 0 []) (.cond (.t 6) (.seq (.region s27r2 0 []) .ret) (.seq (.region s27r3 0 []) (.cond (.t 11) (.seq (.region s27r4 0 []) .ret) (.seq (.region s27r5 0 []) (.cond (.t 21) (.seq (.region s27r6 0 []) .ret) .skip))))))) (.seq (.region s27r7 0 [(1, 6)]) .ret)))
theorem e27 : AWp P k0 s27 Q st = AWp P k0 (.seq (.region s27r0 2 []) (.seq (.block 0 (.seq (.region s27r1 0 []) (.cond (.t 6) (.seq (.region s27r2 0 []) .ret) (.seq (.region s27r3 0 []) (.cond (.t 11) (.seq (.region s27r4 0 []) .ret) (.seq (.region s27r5 0 []) (.cond (.t 21) (.seq (.region s27r6 0 []) .ret) .skip))))))) (.seq (.region s27r7 0 [(1, 6)]) .ret))) Q st := rfl
theorem u27r0 : goReg P s27r0 o p Q st = goLit P (litOf s27r0.eq_1) o p Q st := goReg_of _
theorem u27r1 : goReg P s27r1 o p Q st = goLit P (litOf s27r1.eq_1) o p Q st := goReg_of _
theorem u27r2 : goReg P s27r2 o p Q st = goLit P (litOf s27r2.eq_1) o p Q st := goReg_of _
theorem u27r3 : goReg P s27r3 o p Q st = goLit P (litOf s27r3.eq_1) o p Q st := goReg_of _
theorem u27r4 : goReg P s27r4 o p Q st = goLit P (litOf s27r4.eq_1) o p Q st := goReg_of _
theorem u27r5 : goReg P s27r5 o p Q st = goLit P (litOf s27r5.eq_1) o p Q st := goReg_of _
theorem u27r6 : goReg P s27r6 o p Q st = goLit P (litOf s27r6.eq_1) o p Q st := goReg_of _
theorem u27r7 : goReg P s27r7 o p Q st = goLit P (litOf s27r7.eq_1) o p Q st := goReg_of _
attribute [go_sem] u27r0 u27r1 u27r2 u27r3 u27r4 u27r5 u27r6 u27r7 e27
set_option maxRecDepth 100000 in
theorem F27 : FnIs Try.prog 27 Try.f27 [] news s27 [.cell 4 (some 3), .tmp 5] 44 := ⟨follows, Try.func27, by kernel_rfl, by kernel_rfl, by kernel_rfl, by kernel_rfl⟩

noncomputable def s77r0 : List SOper := [
  ⟨some 6, .mov (.k (.d (.bool false))), none⟩]
noncomputable def s77r1 : List SOper := [
  ⟨some 10, .mov (.t 0), none⟩,
  ⟨some 11, .len (.t 10), none⟩,
  ⟨some 12, .mov (.t 1), none⟩,
  ⟨some 13, .len (.t 12), none⟩,
  ⟨some 14, .bin .neq (.t 11) (.t 13), none⟩]
noncomputable def s77r2 : List SOper := [
  ⟨some 6, .mov (.k (.d (.bool false))), none⟩]
noncomputable def s77r3 : List SOper := [
  ⟨some 15, .mov (.t 0), none⟩,
  ⟨some 16, .len (.t 15), none⟩,
  ⟨some 17, .mov (.k (.d (.int .i64 0))), none⟩]
noncomputable def s77r4 : List SOper := [
  ⟨some 18, .bin .lss (.t 17) (.t 16), none⟩]
noncomputable def s77r5 : List SOper := [
  ⟨some 19, .mov (.t 17), none⟩,
  ⟨some 20, .iaddr 9 (.t 15) (.t 17), none⟩,
  ⟨some 21, .load (some 9) (.t 20), none⟩,
  ⟨some 8, .alloc 1 [(.d (.int .i64 0)), (.d (.int .i64 0)), (.d (.int .i64 0)), (.d (.int .i64 0)), (.d (.int .i64 0)), (.d (.int .i64 0)), (.d (.int .i64 0)), (.d .nilsl), (.d .nilsl)], none⟩,
  ⟨some 7, .mov (.t 19), none⟩,
  ⟨none, .store (some 9) (.t 8) (.t 21), none⟩]
noncomputable def s77r6 : List SOper := [
  ⟨some 22, .mov (.t 1), none⟩,
  ⟨some 23, .mov (.t 7), none⟩,
  ⟨some 24, .iaddr 9 (.t 22) (.t 23), none⟩,
  ⟨some 25, .load (some 9) (.t 24), none⟩,
  ⟨some 9, .alloc 1 [(.d (.int .i64 0)), (.d (.int .i64 0)), (.d (.int .i64 0)), (.d (.int .i64 0)), (.d (.int .i64 0)), (.d (.int .i64 0)), (.d (.int .i64 0)), (.d .nilsl), (.d .nilsl)], none⟩,
  ⟨none, .store (some 9) (.t 9) (.t 25), none⟩]
noncomputable def s77r7 : List SOper := [
  ⟨some 26, .mov (.t 2), none⟩,
  ⟨some 27, .load (some 9) (.t 8), none⟩,
  ⟨some 28, .load (some 9) (.t 9), none⟩,
  ⟨some 29, .call (.t 26) [(.t 27), (.t 28)], none⟩,
  ⟨some 30, .not (.t 29), none⟩]
noncomputable def s77r8 : List SOper := [
  ⟨some 6, .mov (.k (.d (.bool false))), none⟩]
noncomputable def s77r9 : List SOper := [
  ⟨some 31, .bin .add (.t 17) (.k (.d (.int .i64 1))), none⟩,
  ⟨some 17, .mov (.t 31), none⟩]
noncomputable def s77l10 : SCode := (.seq (.region s77r4 0 []) (.seq (.cond (.t 18) .skip (.exit 0)) (.seq (.block 1 (.seq (.region s77r5 1 []) (.seq (.region s77r6 1 []) (.seq (.region s77r7 0 []) (.cond (.t 30) (.seq (.region s77r8 0 []) .ret) .skip))))) (.region s77r9 0 []))))
theorem e77l10 : AWp P k0 s77l10 Q st = AWp P k0 (.seq (.region s77r4 0 []) (.seq (.cond (.t 18) .skip (.exit 0)) (.seq (.block 1 (.seq (.region s77r5 1 []) (.seq (.region s77r6 1 []) (.seq (.region s77r7 0 []) (.cond (.t 30) (.seq (.region s77r8 0 []) .ret) .skip))))) (.region s77r9 0 [])))) Q st := rfl
noncomputable def s77r11 : List SOper := [
  ⟨some 6, .mov (.k (.d (.bool true))), none⟩]
noncomputable def s77 : SCode := (.seq (.region s77r0 0 []) (.seq (.seq (.region s77r1 0 []) (.cond (.t 14) (.seq (.region s77r2 0 []) .ret) .skip)) (.seq (.seq (.region s77r3 0 []) (.block 0 (.loop s77l10))) (.seq (.region s77r11 0 []) .ret))))
theorem e77 : AWp P k0 s77 Q st = AWp P k0 (.seq (.region s77r0 0 []) (.seq (.seq (.region s77r1 0 []) (.cond (.t 14) (.seq (.region s77r2 0 []) .ret) .skip)) (.seq (.seq (.region s77r3 0 []) (.block 0 (.loop s77l10))) (.seq (.region s77r11 0 []) .ret)))) Q st := rfl
theorem u77r0 : goReg P s77r0 o p Q st = goLit P (litOf s77r0.eq_1) o p Q st := goReg_of _
theorem u77r1 : goReg P s77r1 o p Q st = goLit P (litOf s77r1.eq_1) o p Q st := goReg_of _
theorem u77r2 : goReg P s77r2 o p Q st = goLit P (litOf s77r2.eq_1) o p Q st := goReg_of _
theorem u77r3 : goReg P s77r3 o p Q st = goLit P (litOf s77r3.eq_1) o p Q st := goReg_of _
theorem u77r4 : goReg P s77r4 o p Q st = goLit P (litOf s77r4.eq_1) o p Q st := goReg_of _
theorem u77r5 : goReg P s77r5 o p Q st = goLit P (litOf s77r5.eq_1) o p Q st := goReg_of _
theorem u77r6 : goReg P s77r6 o p Q st = goLit P (litOf s77r6.eq_1) o p Q st := goReg_of _
theorem u77r7 : goReg P s77r7 o p Q st = goLit P (litOf s77r7.eq_1) o p Q st := goReg_of _
theorem u77r8 : goReg P s77r8 o p Q st = goLit P (litOf s77r8.eq_1) o p Q st := goReg_of _
theorem u77r9 : goReg P s77r9 o p Q st = goLit P (litOf s77r9.eq_1) o p Q st := goReg_of _
theorem u77r11 : goReg P s77r11 o p Q st = goLit P (litOf s77r11.eq_1) o p Q st := goReg_of _
attribute [go_sem] u77r0 u77r1 u77r2 u77r3 u77r4 u77r5 u77r6 u77r7 u77r8 u77r9 e77l10 u77r11 e77
set_option maxRecDepth 100000 in
theorem F77 : FnIs Try.prog 77 Try.f77 [] news s77 [.tmp 6] 32 := ⟨follows, Try.func77, by kernel_rfl, by kernel_rfl, by kernel_rfl, by kernel_rfl⟩

noncomputable def s40r0 : List SOper := [
  ⟨some 2, .box 2 (.t 0), none⟩,
  ⟨some 3, .box 1 (.t 1), none⟩,
  ⟨some 4, .mov (.k (.d (.bool false))), none⟩]
noncomputable def s40r1 : List SOper := [
  ⟨some 5, .faddr 0 (.t 2), none⟩,
  ⟨some 6, .load none (.t 5), none⟩,
  ⟨some 7, .faddr 0 (.t 3), none⟩,
  ⟨some 8, .load none (.t 7), none⟩,
  ⟨some 9, .bin .eql (.t 6) (.t 8), none⟩,
  ⟨some 10, .mov (.t 9), none⟩,
  ⟨some 11, .faddr 1 (.t 2), some (10, true)⟩,
  ⟨some 12, .load none (.t 11), some (10, true)⟩,
  ⟨some 13, .faddr 1 (.t 3), some (10, true)⟩,
  ⟨some 14, .load none (.t 13), some (10, true)⟩,
  ⟨some 15, .bin .eql (.t 12) (.t 14), some (10, true)⟩,
  ⟨some 16, .pick (.t 10) (.t 15) (.k (.d (.bool false))), none⟩,
  ⟨some 17, .mov (.t 16), none⟩,
  ⟨some 18, .faddr 2 (.t 2), some (17, true)⟩,
  ⟨some 19, .load none (.t 18), some (17, true)⟩,
  ⟨some 20, .faddr 2 (.t 3), some (17, true)⟩,
  ⟨some 21, .load none (.t 20), some (17, true)⟩,
  ⟨some 22, .call (.k (.d (.func (.func 77) [] []))) [(.t 19), (.t 21), (.k (.d (.func (.func 36) [] [])))], some (17, true)⟩,
  ⟨some 23, .pick (.t 17) (.t 22) (.k (.d (.bool false))), none⟩,
  ⟨some 4, .mov (.t 23), none⟩]
noncomputable def s40 : SCode := (.seq (.region s40r0 2 []) (.seq (.region s40r1 0 []) .ret))
theorem e40 : AWp P k0 s40 Q st = AWp P k0 (.seq (.region s40r0 2 []) (.seq (.region s40r1 0 []) .ret)) Q st := rfl
theorem u40r0 : goReg P s40r0 o p Q st = goLit P (litOf s40r0.eq_1) o p Q st := goReg_of _
theorem u40r1 : goReg P s40r1 o p Q st = goLit P (litOf s40r1.eq_1) o p Q st := goReg_of _
attribute [go_sem] u40r0 u40r1 e40
set_option maxRecDepth 100000 in
theorem F40 : FnIs Try.prog 40 Try.f40 [] news s40 [.tmp 4] 24 := ⟨follows, Try.func40, by kernel_rfl, by kernel_rfl, by kernel_rfl, by kernel_rfl⟩

end

def qConsume (q : Qu) (seq : Int) : Qu × Int :=
  if !qValid q then (qEmpty, 1)
  else if decide (seq ≥ 1) && decide (seq ≤ q.cons) then (qEmpty, 21)
  else if (q.items.length : Int) == 0 || seq != (q.items.getD 0 default).seq then (qEmpty, 22)
  else (⟨q.acc, seq, q.items.drop 1⟩, 0)

set_option maxRecDepth 10000 in
theorem qConsume_ok (q : Qu) (seq : Int) (hq : q.Sm) : ACall Try.prog 27 [.d (.agg (encQ q)), .d (.int .i64 seq)] [] (.tup [.d (.agg (encQ (qConsume q seq).1)), .d (.int .i64 (qConsume q seq).2)]) [] := by
  have hl := hq.1
  first | refine F27.go ?_ | refine F27.goT ?_
  simp only [encQ, go_sem, Nat.reduceAdd, Nat.reduceMul, Nat.reduceSub, Nat.reduceEqDiff, Nat.reduceLT, Nat.reduceLeDiff, Nat.reduceBEq, reduceIte, reduceCtorEq, Int.reduceAdd, Int.reduceLT, Int.reduceLE, Int.reduceGT, Int.reduceGE, Int.reduceEq, Int.reduceNe, Int.reduceBEq, Int.reduceBNe, Int.reduceToNat, Int.reduceNeg]
  (repeat (with_reducible refine ob ?_)); first | refine cl F32 (qValid_ok q hq) ?_ | refine clF F32 (qValid_ok q hq) (fun _ => by simp only [encPk, encQ, go_sem, Nat.reduceAdd, Nat.reduceMul, Nat.reduceSub, Nat.reduceEqDiff, Nat.reduceLT, Nat.reduceLeDiff, Nat.reduceBEq, reduceIte, reduceCtorEq, Int.reduceAdd, Int.reduceLT, Int.reduceLE, Int.reduceGT, Int.reduceGE, Int.reduceEq, Int.reduceNe, Int.reduceBEq, Int.reduceBNe, Int.reduceToNat, Int.reduceNeg]) ?_
  try (refine ev ?_; try exact True.intro)
  refine AWp_cond _ rfl rfl (fun h1 => ?_) (fun h1 => ?_)
  · try simp only [qConsume, h1, qEmpty, go_sem, Nat.reduceAdd, Nat.reduceMul, Nat.reduceSub, Nat.reduceEqDiff, Nat.reduceLT, Nat.reduceLeDiff, Nat.reduceBEq, reduceIte, reduceCtorEq, Int.reduceAdd, Int.reduceLT, Int.reduceLE, Int.reduceGT, Int.reduceGE, Int.reduceEq, Int.reduceNe, Int.reduceBEq, Int.reduceBNe, Int.reduceToNat, Int.reduceNeg]
  try (refine ev ?_; try exact True.intro)
  (repeat (with_reducible refine ob ?_))
  refine AWp_cond _ rfl rfl (fun h2 => ?_) (fun h2 => ?_)
  · try simp only [qConsume, h1, h2, qEmpty, go_sem, Nat.reduceAdd, Nat.reduceMul, Nat.reduceSub, Nat.reduceEqDiff, Nat.reduceLT, Nat.reduceLeDiff, Nat.reduceBEq, reduceIte, reduceCtorEq, Int.reduceAdd, Int.reduceLT, Int.reduceLE, Int.reduceGT, Int.reduceGE, Int.reduceEq, Int.reduceNe, Int.reduceBEq, Int.reduceBNe, Int.reduceToNat, Int.reduceNeg]
  obtain ⟨acc, cons, items⟩ := q
  cases items with
  | nil =>
    try (refine ev ?_; try exact True.intro)
    (repeat (with_reducible refine ob ?_))
    refine AWp_cond _ rfl rfl (fun h3 => ?_) (fun h3 => ?_)
    · try simp only [qConsume, h1, h2, qEmpty, go_sem, Nat.reduceAdd, Nat.reduceMul, Nat.reduceSub, Nat.reduceEqDiff, Nat.reduceLT, Nat.reduceLeDiff, Nat.reduceBEq, reduceIte, reduceCtorEq, Int.reduceAdd, Int.reduceLT, Int.reduceLE, Int.reduceGT, Int.reduceGE, Int.reduceEq, Int.reduceNe, Int.reduceBEq, Int.reduceBNe, Int.reduceToNat, Int.reduceNeg]
    · exact Bool.noConfusion h3
  | cons x l =>
    simp only [encPk, go_sem, Nat.reduceAdd, Nat.reduceMul, Nat.reduceSub, Nat.reduceEqDiff, Nat.reduceLT, Nat.reduceLeDiff, Nat.reduceBEq, reduceIte, reduceCtorEq, Int.reduceAdd, Int.reduceLT, Int.reduceLE, Int.reduceGT, Int.reduceGE, Int.reduceEq, Int.reduceNe, Int.reduceBEq, Int.reduceBNe, Int.reduceToNat, Int.reduceNeg]
    (repeat (with_reducible refine ob ?_))
    refine AWp_cond _ rfl rfl (fun h3 => ?_) (fun h3 => ?_)
    · try simp only [qConsume, h1, h2, h3, qEmpty, go_sem, Nat.reduceAdd, Nat.reduceMul, Nat.reduceSub, Nat.reduceEqDiff, Nat.reduceLT, Nat.reduceLeDiff, Nat.reduceBEq, reduceIte, reduceCtorEq, Int.reduceAdd, Int.reduceLT, Int.reduceLE, Int.reduceGT, Int.reduceGE, Int.reduceEq, Int.reduceNe, Int.reduceBEq, Int.reduceBNe, Int.reduceToNat, Int.reduceNeg]
    simp only [encPk, go_sem, Nat.reduceAdd, Nat.reduceMul, Nat.reduceSub, Nat.reduceEqDiff, Nat.reduceLT, Nat.reduceLeDiff, Nat.reduceBEq, reduceIte, reduceCtorEq, Int.reduceAdd, Int.reduceLT, Int.reduceLE, Int.reduceGT, Int.reduceGE, Int.reduceEq, Int.reduceNe, Int.reduceBEq, Int.reduceBNe, Int.reduceToNat, Int.reduceNeg]
    refine ⟨by omega, ?_⟩
    simp only [List.length_cons] at hl
    refine callO_any (clones_ok l (by omega) (fun p hp => hq.2 p (List.mem_cons_of_mem _ hp))) F68.body rfl ⟨by simp only [encPk, encQ, go_sem, Nat.reduceAdd, Nat.reduceMul, Nat.reduceSub, Nat.reduceEqDiff, Nat.reduceLT, Nat.reduceLeDiff, Nat.reduceBEq, reduceIte, reduceCtorEq, Int.reduceAdd, Int.reduceLT, Int.reduceLE, Int.reduceGT, Int.reduceGE, Int.reduceEq, Int.reduceNe, Int.reduceBEq, Int.reduceBNe, Int.reduceToNat, Int.reduceNeg], by try (refine ev ?_; try exact True.intro), by try (refine ev ?_; try exact True.intro), by try (refine ev ?_; try exact True.intro)⟩ (by try (refine ev ?_; try exact True.intro)) (by simp [ASlot.toks]) ?_
    simp only [retok, renT, qConsume, h1, h2, h3, go_sem, Nat.reduceAdd, Nat.reduceMul, Nat.reduceSub, Nat.reduceEqDiff, Nat.reduceLT, Nat.reduceLeDiff, Nat.reduceBEq, reduceIte, reduceCtorEq, Int.reduceAdd, Int.reduceLT, Int.reduceLE, Int.reduceGT, Int.reduceGE, Int.reduceEq, Int.reduceNe, Int.reduceBEq, Int.reduceBNe, Int.reduceToNat, Int.reduceNeg]

/-- Two lists, element by element. -/
def eqAt {α : Type} (f : α → α → Bool) (l m : List α) (i : Nat) : Bool := match l[i]?, m[i]? with | some x, some y => f x y | _, _ => true
def eqBy {α : Type} (f : α → α → Bool) (l m : List α) : Bool := l.length == m.length && allTo (eqAt f l m) l.length

theorem eqBy_eq {α : Type} [DecidableEq α] (l m : List α) : eqBy (fun x y => decide (x = y)) l m = decide (l = m) := by
  rw [Bool.eq_iff_iff]
  simp only [eqBy, Bool.and_eq_true, beq_iff_eq, allTo_iff, decide_eq_true_eq]
  constructor
  · rintro ⟨h1, h2⟩
    refine List.ext_getElem h1 fun i hi hj => ?_
    have := h2 i hi
    simpa [eqAt, hi, hj] using this
  · rintro rfl
    refine ⟨rfl, fun i hi => ?_⟩
    simp [eqAt, hi]

def Seqf (l m : List Pk) (k : FuncId) (i : { i : Nat // allTo (eqAt (fun x y => decide (x = y)) l m) i = true }) : St :=
  ⟨[(1, true, .d (.sl 9 (m.map encPk))), (2, true, .d (.func (.func k) [] [])), (15, true, .d (.sl 9 (l.map encPk))), (16, true, .d (.int .i64 l.length)), (17, true, .d (.int .i64 (i.val : Nat)))], [], [], 1⟩

set_option maxRecDepth 10000 in
theorem eqPks_ok (l m : List Pk) (hl : l.length ≤ 1000) (hp : ∀ p ∈ l, p.Sm) :
    ACall Try.prog 77 [.d (.sl 9 (l.map encPk)), .d (.sl 9 (m.map encPk)), .d (.func (.func 36) [] [])] [] (.d (.bool (decide (l = m)))) [] := by
  first | refine F77.go ?_ | refine F77.goT ?_
  simp only [go_sem, Nat.reduceAdd, Nat.reduceMul, Nat.reduceSub, Nat.reduceEqDiff, Nat.reduceLT, Nat.reduceLeDiff, Nat.reduceBEq, reduceIte, reduceCtorEq, Int.reduceAdd, Int.reduceLT, Int.reduceLE, Int.reduceGT, Int.reduceGE, Int.reduceEq, Int.reduceNe, Int.reduceBEq, Int.reduceBNe, Int.reduceToNat, Int.reduceNeg]
  refine AWp_cond _ rfl rfl (fun h => ?_) (fun h => ?_)
  · have hne : decide (l = m) = false := by rw [decide_eq_false_iff_not]; rintro rfl; simp at h
    try simp only [hne, go_sem, Nat.reduceAdd, Nat.reduceMul, Nat.reduceSub, Nat.reduceEqDiff, Nat.reduceLT, Nat.reduceLeDiff, Nat.reduceBEq, reduceIte, reduceCtorEq, Int.reduceAdd, Int.reduceLT, Int.reduceLE, Int.reduceGT, Int.reduceGE, Int.reduceEq, Int.reduceNe, Int.reduceBEq, Int.reduceBNe, Int.reduceToNat, Int.reduceNeg]
  · have hlm : l.length = m.length := by simp at h; omega
    try (refine ev ?_; try exact True.intro)
    refine AWp_loop (Seqf l m 36) (fun i => l.length - i.val) ⟨0, rfl⟩ ?_ (fun i => ?_)
    · try simp only [Seqf, go_sem, Nat.reduceAdd, Nat.reduceMul, Nat.reduceSub, Nat.reduceEqDiff, Nat.reduceLT, Nat.reduceLeDiff, Nat.reduceBEq, reduceIte, reduceCtorEq, Int.reduceAdd, Int.reduceLT, Int.reduceLE, Int.reduceGT, Int.reduceGE, Int.reduceEq, Int.reduceNe, Int.reduceBEq, Int.reduceBNe, Int.reduceToNat, Int.reduceNeg]
    · obtain ⟨i, hi⟩ := i
      try simp only [Seqf, go_sem, Nat.reduceAdd, Nat.reduceMul, Nat.reduceSub, Nat.reduceEqDiff, Nat.reduceLT, Nat.reduceLeDiff, Nat.reduceBEq, reduceIte, reduceCtorEq, Int.reduceAdd, Int.reduceLT, Int.reduceLE, Int.reduceGT, Int.reduceGE, Int.reduceEq, Int.reduceNe, Int.reduceBEq, Int.reduceBNe, Int.reduceToNat, Int.reduceNeg]
      refine AWp_cond _ rfl rfl (fun h => ?_) (fun h => ?_)
      · have hil : i < l.length := by simpa using h
        have him : i < m.length := by omega
        simp only [getD_map encPk l hil, getD_map encPk m him, encPk, go_sem, Nat.reduceAdd, Nat.reduceMul, Nat.reduceSub, Nat.reduceEqDiff, Nat.reduceLT, Nat.reduceLeDiff, Nat.reduceBEq, reduceIte, reduceCtorEq, Int.reduceAdd, Int.reduceLT, Int.reduceLE, Int.reduceGT, Int.reduceGE, Int.reduceEq, Int.reduceNe, Int.reduceBEq, Int.reduceBNe, Int.reduceToNat, Int.reduceNeg]
        (repeat (with_reducible refine ob ?_))
        (repeat (with_reducible refine ob ?_)); first | refine cl F36 (pkEqual_ok l[i] m[i] (hp _ (List.getElem_mem hil)).v (hp _ (List.getElem_mem hil)).c) ?_ | refine clF F36 (pkEqual_ok l[i] m[i] (hp _ (List.getElem_mem hil)).v (hp _ (List.getElem_mem hil)).c) (fun _ => by simp only [encPk, encQ, go_sem, Nat.reduceAdd, Nat.reduceMul, Nat.reduceSub, Nat.reduceEqDiff, Nat.reduceLT, Nat.reduceLeDiff, Nat.reduceBEq, reduceIte, reduceCtorEq, Int.reduceAdd, Int.reduceLT, Int.reduceLE, Int.reduceGT, Int.reduceGE, Int.reduceEq, Int.reduceNe, Int.reduceBEq, Int.reduceBNe, Int.reduceToNat, Int.reduceNeg]) ?_
        try (refine ev ?_; try exact True.intro)
        refine AWp_cond _ rfl rfl (fun h2 => ?_) (fun h2 => ?_)
        · have hne : l[i] ≠ m[i] := by simpa using h2
          try simp only [eq_ne hil him hne, go_sem, Nat.reduceAdd, Nat.reduceMul, Nat.reduceSub, Nat.reduceEqDiff, Nat.reduceLT, Nat.reduceLeDiff, Nat.reduceBEq, reduceIte, reduceCtorEq, Int.reduceAdd, Int.reduceLT, Int.reduceLE, Int.reduceGT, Int.reduceGE, Int.reduceEq, Int.reduceNe, Int.reduceBEq, Int.reduceBNe, Int.reduceToNat, Int.reduceNeg]
        · have he : l[i] = m[i] := by simpa using h2
          try (refine ev ?_; try exact True.intro)
          refine ⟨⟨i + 1, allTo_step hi (by simp [eqAt, hil, him, he])⟩, ?_, by dsimp only; omega⟩
          try simp only [Seqf, wrap_succ (show i < 9223372036854775807 by omega), go_sem, Nat.reduceAdd, Nat.reduceMul, Nat.reduceSub, Nat.reduceEqDiff, Nat.reduceLT, Nat.reduceLeDiff, Nat.reduceBEq, reduceIte, reduceCtorEq, Int.reduceAdd, Int.reduceLT, Int.reduceLE, Int.reduceGT, Int.reduceGE, Int.reduceEq, Int.reduceNe, Int.reduceBEq, Int.reduceBNe, Int.reduceToNat, Int.reduceNeg]
      · have he : decide (l = m) = true := by
          have : l.length ≤ i := by simpa using h
          rw [← eqBy_eq]
          simp only [eqBy, hlm, beq_self_eq_true, Bool.true_and]
          exact allTo_iff.2 fun j hj => allTo_iff.1 hi j (by omega)
        try simp only [he, go_sem, Nat.reduceAdd, Nat.reduceMul, Nat.reduceSub, Nat.reduceEqDiff, Nat.reduceLT, Nat.reduceLeDiff, Nat.reduceBEq, reduceIte, reduceCtorEq, Int.reduceAdd, Int.reduceLT, Int.reduceLE, Int.reduceGT, Int.reduceGE, Int.reduceEq, Int.reduceNe, Int.reduceBEq, Int.reduceBNe, Int.reduceToNat, Int.reduceNeg]

theorem beq_Qu (a b : Qu) : (a.acc == b.acc && a.cons == b.cons && decide (a.items = b.items)) = decide (a = b) := by
  obtain ⟨a1, a2, a3⟩ := a
  obtain ⟨b1, b2, b3⟩ := b
  rw [Bool.eq_iff_iff]
  simp [and_assoc]

theorem qEqual_ok (a b : Qu) (ha : a.Sm) : ACall Try.prog 40 [.d (.agg (encQ a)), .d (.agg (encQ b))] [] (.d (.bool (decide (a = b)))) [] := by
  first | refine F40.go ?_ | refine F40.goT ?_
  simp only [encQ, go_sem, Nat.reduceAdd, Nat.reduceMul, Nat.reduceSub, Nat.reduceEqDiff, Nat.reduceLT, Nat.reduceLeDiff, Nat.reduceBEq, reduceIte, reduceCtorEq, Int.reduceAdd, Int.reduceLT, Int.reduceLE, Int.reduceGT, Int.reduceGE, Int.reduceEq, Int.reduceNe, Int.reduceBEq, Int.reduceBNe, Int.reduceToNat, Int.reduceNeg]
  (repeat (with_reducible refine ob ?_)); first | refine cl F77 (eqPks_ok a.items b.items ha.1 ha.2) ?_ | refine clF F77 (eqPks_ok a.items b.items ha.1 ha.2) (fun _ => by simp only [encPk, encQ, go_sem, Nat.reduceAdd, Nat.reduceMul, Nat.reduceSub, Nat.reduceEqDiff, Nat.reduceLT, Nat.reduceLeDiff, Nat.reduceBEq, reduceIte, reduceCtorEq, Int.reduceAdd, Int.reduceLT, Int.reduceLE, Int.reduceGT, Int.reduceGE, Int.reduceEq, Int.reduceNe, Int.reduceBEq, Int.reduceBNe, Int.reduceToNat, Int.reduceNeg]) ?_
  try (refine ev ?_; try exact True.intro)
  exact beq_Qu a b
end Go.Proofs.Ythcpckcgjplhiaa
