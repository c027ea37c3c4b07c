/- Queues: Offer, First, Consume. -/
import Derived.Test.YthcpckcgjplhiaaCd
namespace Go.Proofs.Ythcpckcgjplhiaa
open Go.Abs
set_option linter.unusedSimpArgs false

def qEmpty : Qu := ⟨0, 0, []⟩
theorem pkDefault_enc : encPk default = [.int .i64 0, .int .i64 0, .int .i64 0, .int .i64 0, .int .i64 0, .int .i64 0, .int .i64 0, .sl 3 [], .sl 1 []] := rfl

section
variable {P : Program} {k0 o : Nat} {p : List (Nat × Nat)} {Q : SExit → St → Prop} {st : St}
noncomputable def s33r0 : List SOper := [
  ⟨some 2, .box 3 (.t 0), none⟩,
  ⟨some 3, .box 2 (.t 1), none⟩,
  ⟨some 4, .alloc 1 [(.d (.int .i64 0)), (.d (.int .i64 0)), (.d .nilsl)], none⟩,
  ⟨some 5, .mov (.k (.d (.int .i64 0))), none⟩]
noncomputable def s33r1 : List SOper := [
  ⟨some 7, .load (some 3) (.t 2), none⟩,
  ⟨some 8, .call (.k (.d (.func (.func 32) [] []))) [(.t 7)], none⟩,
  ⟨some 9, .not (.t 8), none⟩,
  ⟨some 10, .mov (.t 9), none⟩,
  ⟨some 11, .load (some 9) (.t 3), some (10, false)⟩,
  ⟨some 12, .call (.k (.d (.func (.func 70) [] []))) [(.t 11)], some (10, false)⟩,
  ⟨some 13, .not (.t 12), some (10, false)⟩,
  ⟨some 14, .pick (.t 10) (.k (.d (.bool true))) (.t 13), none⟩,
  ⟨some 15, .mov (.t 14), none⟩,
  ⟨some 16, .faddr 2 (.t 2), some (15, false)⟩,
  ⟨some 17, .load none (.t 16), some (15, false)⟩,
  ⟨some 18, .len (.t 17), some (15, false)⟩,
  ⟨some 19, .bin .gtr (.t 18) (.k (.d (.int .i64 0))), some (15, false)⟩,
  ⟨some 20, .mov (.t 19), some (15, false)⟩,
  ⟨some 21, .load (some 9) (.t 3), some (20, true)⟩,
  ⟨some 22, .faddr 2 (.t 2), some (20, true)⟩,
  ⟨some 23, .load none (.t 22), some (20, true)⟩,
  ⟨some 24, .iaddr 9 (.t 23) (.k (.d (.int .i64 0))), some (20, true)⟩,
  ⟨some 25, .load (some 9) (.t 24), some (20, true)⟩,
  ⟨some 26, .call (.k (.d (.func (.func 71) [] []))) [(.t 21), (.t 25)], some (20, true)⟩,
  ⟨some 27, .not (.t 26), some (20, true)⟩,
  ⟨some 28, .pick (.t 20) (.t 27) (.k (.d (.bool false))), some (15, false)⟩,
  ⟨some 29, .pick (.t 15) (.k (.d (.bool true))) (.t 28), none⟩,
  ⟨some 6, .mov (.t 29), none⟩]
noncomputable def s33r2 : List SOper := [
  ⟨some 30, .build [(.int .i64 0), (.int .i64 0), .nilsl] [], none⟩,
  ⟨none, .store (some 3) (.t 4) (.t 30), none⟩,
  ⟨some 5, .mov (.k (.d (.int .i64 1))), none⟩]
noncomputable def s33r3 : List SOper := [
  ⟨some 32, .faddr 5 (.t 3), none⟩,
  ⟨some 33, .load none (.t 32), none⟩,
  ⟨some 34, .faddr 0 (.t 2), none⟩,
  ⟨some 35, .load none (.t 34), none⟩,
  ⟨some 36, .bin .leq (.t 33) (.t 35), none⟩,
  ⟨some 31, .mov (.t 36), none⟩]
noncomputable def s33r4 : List SOper := [
  ⟨some 37, .build [(.int .i64 0), (.int .i64 0), .nilsl] [], none⟩,
  ⟨none, .store (some 3) (.t 4) (.t 37), none⟩,
  ⟨some 5, .mov (.k (.d (.int .i64 21))), none⟩]
noncomputable def s33r5 : List SOper := [
  ⟨some 39, .faddr 5 (.t 3), none⟩,
  ⟨some 40, .load none (.t 39), none⟩,
  ⟨some 41, .faddr 0 (.t 2), none⟩,
  ⟨some 42, .load none (.t 41), none⟩,
  ⟨some 43, .bin .add (.t 42) (.k (.d (.int .i64 1))), none⟩,
  ⟨some 44, .bin .gtr (.t 40) (.t 43), none⟩,
  ⟨some 38, .mov (.t 44), none⟩]
noncomputable def s33r6 : List SOper := [
  ⟨some 45, .build [(.int .i64 0), (.int .i64 0), .nilsl] [], none⟩,
  ⟨none, .store (some 3) (.t 4) (.t 45), none⟩,
  ⟨some 5, .mov (.k (.d (.int .i64 22))), none⟩]
noncomputable def s33r7 : List SOper := [
  ⟨some 47, .faddr 2 (.t 2), none⟩,
  ⟨some 48, .load none (.t 47), none⟩,
  ⟨some 49, .len (.t 48), none⟩,
  ⟨some 50, .bin .eql (.t 49) (.k (.d (.int .i64 4))), none⟩,
  ⟨some 46, .mov (.t 50), none⟩]
noncomputable def s33r8 : List SOper := [
  ⟨some 51, .build [(.int .i64 0), (.int .i64 0), .nilsl] [], none⟩,
  ⟨none, .store (some 3) (.t 4) (.t 51), none⟩,
  ⟨some 5, .mov (.k (.d (.int .i64 19))), none⟩]
noncomputable def s33r9 : List SOper := [
  ⟨some 52, .faddr 5 (.t 3), none⟩,
  ⟨some 53, .load none (.t 52), none⟩,
  ⟨some 54, .faddr 1 (.t 2), none⟩,
  ⟨some 55, .load none (.t 54), none⟩,
  ⟨some 56, .faddr 2 (.t 2), none⟩,
  ⟨some 57, .load none (.t 56), none⟩,
  ⟨some 58, .call (.k (.d (.func (.func 68) [] []))) [(.t 57)], none⟩,
  ⟨some 59, .load (some 9) (.t 3), none⟩,
  ⟨some 60, .call (.k (.d (.func (.func 72) [] []))) [(.t 59)], none⟩,
  ⟨some 61, .buildSlice false 9 1 [(.int .i64 0), (.int .i64 0), (.int .i64 0), (.int .i64 0), (.int .i64 0), (.int .i64 0), (.int .i64 0), .nilsl, .nilsl] [(0, 9, (.t 60))], none⟩,
  ⟨some 62, .append false 9 104 (.t 58) (.t 61), none⟩,
  ⟨some 63, .build [(.int .i64 0), (.int .i64 0), .nilsl] [(0, 1, (.t 53)), (1, 1, (.t 55)), (2, 1, (.t 62))], none⟩,
  ⟨none, .store (some 3) (.t 4) (.t 63), none⟩,
  ⟨some 5, .mov (.k (.d (.int .i64 0))), none⟩]
noncomputable def s33 : SCode := (.seq (.region s33r0 3 []) (.seq (.block 0 (.seq (.region s33r1 0 []) (.cond (.t 6) (.seq (.region s33r2 0 []) .ret) (.seq (.region s33r3 0 []) (.cond (.t 31) (.seq (.region s33r4 0 []) .ret) (.seq (.region s33r5 0 []) (.cond (.t 38) (.seq (.region s33r6 0 []) .ret) (.seq (.region s33r7 0 []) (.cond (.t 46) (.seq (.region s33r8 0 []) .ret) .skip))))))))) (.seq (.region s33r9 0 [(1, 6), (3, 6), (6, 7), (1, 8), (3, 8)]) .ret)))
theorem e33 : AWp P k0 s33 Q st = AWp P k0 (.seq (.region s33r0 3 []) (.seq (.block 0 (.seq (.region s33r1 0 []) (.cond (.t 6) (.seq (.region s33r2 0 []) .ret) (.seq (.region s33r3 0 []) (.cond (.t 31) (.seq (.region s33r4 0 []) .ret) (.seq (.region s33r5 0 []) (.cond (.t 38) (.seq (.region s33r6 0 []) .ret) (.seq (.region s33r7 0 []) (.cond (.t 46) (.seq (.region s33r8 0 []) .ret) .skip))))))))) (.seq (.region s33r9 0 [(1, 6), (3, 6), (6, 7), (1, 8), (3, 8)]) .ret))) Q st := rfl
theorem u33r0 : goReg P s33r0 o p Q st = goLit P (litOf s33r0.eq_1) o p Q st := goReg_of _
theorem u33r1 : goReg P s33r1 o p Q st = goLit P (litOf s33r1.eq_1) o p Q st := goReg_of _
theorem u33r2 : goReg P s33r2 o p Q st = goLit P (litOf s33r2.eq_1) o p Q st := goReg_of _
theorem u33r3 : goReg P s33r3 o p Q st = goLit P (litOf s33r3.eq_1) o p Q st := goReg_of _
theorem u33r4 : goReg P s33r4 o p Q st = goLit P (litOf s33r4.eq_1) o p Q st := goReg_of _
theorem u33r5 : goReg P s33r5 o p Q st = goLit P (litOf s33r5.eq_1) o p Q st := goReg_of _
theorem u33r6 : goReg P s33r6 o p Q st = goLit P (litOf s33r6.eq_1) o p Q st := goReg_of _
theorem u33r7 : goReg P s33r7 o p Q st = goLit P (litOf s33r7.eq_1) o p Q st := goReg_of _
theorem u33r8 : goReg P s33r8 o p Q st = goLit P (litOf s33r8.eq_1) o p Q st := goReg_of _
theorem u33r9 : goReg P s33r9 o p Q st = goLit P (litOf s33r9.eq_1) o p Q st := goReg_of _
attribute [go_sem] u33r0 u33r1 u33r2 u33r3 u33r4 u33r5 u33r6 u33r7 u33r8 u33r9 e33
set_option maxRecDepth 100000 in
theorem F33 : FnIs Try.prog 33 Try.f33 [] news s33 [.cell 4 (some 3), .tmp 5] 64 := ⟨follows, Try.func33, by kernel_rfl, by kernel_rfl, by kernel_rfl, by kernel_rfl⟩

noncomputable def s35r0 : List SOper := [
  ⟨some 1, .box 2 (.t 0), none⟩,
  ⟨some 2, .alloc 1 [(.d (.int .i64 0)), (.d (.int .i64 0)), (.d (.int .i64 0)), (.d (.int .i64 0)), (.d (.int .i64 0)), (.d (.int .i64 0)), (.d (.int .i64 0)), (.d .nilsl), (.d .nilsl)], none⟩,
  ⟨some 3, .mov (.k (.d (.bool false))), none⟩]
noncomputable def s35r1 : List SOper := [
  ⟨some 4, .faddr 2 (.t 1), none⟩,
  ⟨some 5, .load none (.t 4), none⟩,
  ⟨some 6, .len (.t 5), none⟩,
  ⟨some 7, .bin .eql (.t 6) (.k (.d (.int .i64 0))), none⟩]
noncomputable def s35r2 : List SOper := [
  ⟨some 8, .build [(.int .i64 0), (.int .i64 0), (.int .i64 0), (.int .i64 0), (.int .i64 0), (.int .i64 0), (.int .i64 0), .nilsl, .nilsl] [], none⟩,
  ⟨none, .store (some 9) (.t 2) (.t 8), none⟩,
  ⟨some 3, .mov (.k (.d (.bool false))), none⟩]
noncomputable def s35r3 : List SOper := [
  ⟨some 9, .faddr 2 (.t 1), none⟩,
  ⟨some 10, .load none (.t 9), none⟩,
  ⟨some 11, .iaddr 9 (.t 10) (.k (.d (.int .i64 0))), none⟩,
  ⟨some 12, .load (some 9) (.t 11), none⟩,
  ⟨some 13, .call (.k (.d (.func (.func 72) [] []))) [(.t 12)], none⟩,
  ⟨none, .store (some 9) (.t 2) (.t 13), none⟩,
  ⟨some 3, .mov (.k (.d (.bool true))), none⟩]
noncomputable def s35 : SCode := (.seq (.region s35r0 2 []) (.seq (.seq (.region s35r1 0 []) (.cond (.t 7) (.seq (.region s35r2 0 []) .ret) .skip)) (.seq (.region s35r3 0 []) .ret)))
theorem e35 : AWp P k0 s35 Q st = AWp P k0 (.seq (.region s35r0 2 []) (.seq (.seq (.region s35r1 0 []) (.cond (.t 7) (.seq (.region s35r2 0 []) .ret) .skip)) (.seq (.region s35r3 0 []) .ret))) Q st := rfl
theorem u35r0 : goReg P s35r0 o p Q st = goLit P (litOf s35r0.eq_1) o p Q st := goReg_of _
theorem u35r1 : goReg P s35r1 o p Q st = goLit P (litOf s35r1.eq_1) o p Q st := goReg_of _
theorem u35r2 : goReg P s35r2 o p Q st = goLit P (litOf s35r2.eq_1) o p Q st := goReg_of _
theorem u35r3 : goReg P s35r3 o p Q st = goLit P (litOf s35r3.eq_1) o p Q st := goReg_of _
attribute [go_sem] u35r0 u35r1 u35r2 u35r3 e35
set_option maxRecDepth 100000 in
theorem F35 : FnIs Try.prog 35 Try.f35 [] news s35 [.cell 2 (some 9), .tmp 3] 14 := ⟨follows, Try.func35, by kernel_rfl, by kernel_rfl, by kernel_rfl, by kernel_rfl⟩

end

def qOffer (q : Qu) (p : Pk) : Qu × Int :=
  if !qValid q || !message p || (decide ((q.items.length : Int) > 0) && !alike p (q.items.getD 0 default)) then (qEmpty, 1)
  else if decide (p.seq ≤ q.acc) then (qEmpty, 21)
  else if decide (p.seq > IntKind.i64.wrap (q.acc + 1)) then (qEmpty, 22)
  else if (q.items.length : Int) == 4 then (qEmpty, 19)
  else (⟨p.seq, q.cons, q.items ++ [p]⟩, 0)

theorem getD_map_any {α β : Type} (f : α → β) (l : List α) (i : Nat) (h : i < l.length) (d : β) (d' : α) : (l.map f).getD i d = f (l.getD i d') := by
  rw [getD_map f l h, getD_lt h]

set_option maxRecDepth 10000 in
theorem qOffer_ok (q : Qu) (p : Pk) (hq : q.Sm) (hp : p.Sm) : ACall Try.prog 33 [.d (.agg (encQ q)), .d (.agg (encPk p))] [] (.tup [.d (.agg (encQ (qOffer q p).1)), .d (.int .i64 (qOffer q p).2)]) [] := by
  have hl := hq.1
  first | refine F33.go ?_ | refine F33.goT ?_
  simp only [encQ, encPk, go_sem, Nat.reduceAdd, Nat.reduceMul, Nat.reduceSub, Nat.reduceEqDiff, Nat.reduceLT, Nat.reduceLeDiff, Nat.reduceBEq, reduceIte, reduceCtorEq, Int.reduceAdd, Int.reduceLT, Int.reduceLE, Int.reduceGT, Int.reduceGE, Int.reduceEq, Int.reduceNe, Int.reduceBEq, Int.reduceBNe, Int.reduceToNat, Int.reduceNeg]
  (repeat (with_reducible refine ob ?_)); first | refine cl F32 (qValid_ok q hq) ?_ | refine clF F32 (qValid_ok q hq) (fun _ => by simp only [encPk, encQ, go_sem, Nat.reduceAdd, Nat.reduceMul, Nat.reduceSub, Nat.reduceEqDiff, Nat.reduceLT, Nat.reduceLeDiff, Nat.reduceBEq, reduceIte, reduceCtorEq, Int.reduceAdd, Int.reduceLT, Int.reduceLE, Int.reduceGT, Int.reduceGE, Int.reduceEq, Int.reduceNe, Int.reduceBEq, Int.reduceBNe, Int.reduceToNat, Int.reduceNeg]) ?_
  try (refine ev ?_; try exact True.intro)
  (repeat (with_reducible refine ob ?_)); first | refine cl F70 (message_ok p hp) ?_ | refine clF F70 (message_ok p hp) (fun _ => by simp only [encPk, encQ, go_sem, Nat.reduceAdd, Nat.reduceMul, Nat.reduceSub, Nat.reduceEqDiff, Nat.reduceLT, Nat.reduceLeDiff, Nat.reduceBEq, reduceIte, reduceCtorEq, Int.reduceAdd, Int.reduceLT, Int.reduceLE, Int.reduceGT, Int.reduceGE, Int.reduceEq, Int.reduceNe, Int.reduceBEq, Int.reduceBNe, Int.reduceToNat, Int.reduceNeg]) ?_
  obtain ⟨acc, cons, items⟩ := q
  cases items with
  | nil =>
    try (refine ev ?_; try exact True.intro)
    (repeat (with_reducible refine ob ?_))
    refine callO_off (.bool false) rfl ?_
    try (refine ev ?_; try exact True.intro)
    (repeat (with_reducible refine ob ?_))
    refine AWp_cond _ rfl rfl (fun h1 => ?_) (fun h1 => ?_)
    · try simp only [qOffer, h1, qEmpty, go_sem, Nat.reduceAdd, Nat.reduceMul, Nat.reduceSub, Nat.reduceEqDiff, Nat.reduceLT, Nat.reduceLeDiff, Nat.reduceBEq, reduceIte, reduceCtorEq, Int.reduceAdd, Int.reduceLT, Int.reduceLE, Int.reduceGT, Int.reduceGE, Int.reduceEq, Int.reduceNe, Int.reduceBEq, Int.reduceBNe, Int.reduceToNat, Int.reduceNeg]
    try (refine ev ?_; try exact True.intro)
    refine AWp_cond _ rfl rfl (fun h2 => ?_) (fun h2 => ?_)
    · try simp only [qOffer, h1, h2, qEmpty, go_sem, Nat.reduceAdd, Nat.reduceMul, Nat.reduceSub, Nat.reduceEqDiff, Nat.reduceLT, Nat.reduceLeDiff, Nat.reduceBEq, reduceIte, reduceCtorEq, Int.reduceAdd, Int.reduceLT, Int.reduceLE, Int.reduceGT, Int.reduceGE, Int.reduceEq, Int.reduceNe, Int.reduceBEq, Int.reduceBNe, Int.reduceToNat, Int.reduceNeg]
    try (refine ev ?_; try exact True.intro)
    refine AWp_cond _ rfl rfl (fun h3 => ?_) (fun h3 => ?_)
    · try simp only [qOffer, h1, h2, h3, qEmpty, go_sem, Nat.reduceAdd, Nat.reduceMul, Nat.reduceSub, Nat.reduceEqDiff, Nat.reduceLT, Nat.reduceLeDiff, Nat.reduceBEq, reduceIte, reduceCtorEq, Int.reduceAdd, Int.reduceLT, Int.reduceLE, Int.reduceGT, Int.reduceGE, Int.reduceEq, Int.reduceNe, Int.reduceBEq, Int.reduceBNe, Int.reduceToNat, Int.reduceNeg]
    try (refine ev ?_; try exact True.intro)
    refine AWp_cond _ rfl rfl (fun h4 => ?_) (fun h4 => ?_)
    · first | exact Bool.noConfusion h4 | try simp only [qOffer, h1, h2, h3, h4, qEmpty, go_sem, Nat.reduceAdd, Nat.reduceMul, Nat.reduceSub, Nat.reduceEqDiff, Nat.reduceLT, Nat.reduceLeDiff, Nat.reduceBEq, reduceIte, reduceCtorEq, Int.reduceAdd, Int.reduceLT, Int.reduceLE, Int.reduceGT, Int.reduceGE, Int.reduceEq, Int.reduceNe, Int.reduceBEq, Int.reduceBNe, Int.reduceToNat, Int.reduceNeg]
    try (refine ev ?_; try exact True.intro)
    refine callO_any (clones_ok [] hq.1 hq.2) F68.body rfl ⟨by simp only [encPk, encQ, go_sem, Nat.reduceAdd, Nat.reduceMul, Nat.reduceSub, Nat.reduceEqDiff, Nat.reduceLT, Nat.reduceLeDiff, Nat.reduceBEq, reduceIte, reduceCtorEq, Int.reduceAdd, Int.reduceLT, Int.reduceLE, Int.reduceGT, Int.reduceGE, Int.reduceEq, Int.reduceNe, Int.reduceBEq, Int.reduceBNe, Int.reduceToNat, Int.reduceNeg], by try (refine ev ?_; try exact True.intro), by try (refine ev ?_; try exact True.intro), by try (refine ev ?_; try exact True.intro)⟩ (by try (refine ev ?_; try exact True.intro)) (by simp [ASlot.toks]) ?_
    simp only [retok, renT, go_sem, Nat.reduceAdd, Nat.reduceMul, Nat.reduceSub, Nat.reduceEqDiff, Nat.reduceLT, Nat.reduceLeDiff, Nat.reduceBEq, reduceIte, reduceCtorEq, Int.reduceAdd, Int.reduceLT, Int.reduceLE, Int.reduceGT, Int.reduceGE, Int.reduceEq, Int.reduceNe, Int.reduceBEq, Int.reduceBNe, Int.reduceToNat, Int.reduceNeg]
    (repeat (with_reducible refine ob ?_)); first | refine cl F72 (clone_ok p hp) ?_ | refine clF F72 (clone_ok p hp) (fun _ => by simp only [encPk, encQ, go_sem, Nat.reduceAdd, Nat.reduceMul, Nat.reduceSub, Nat.reduceEqDiff, Nat.reduceLT, Nat.reduceLeDiff, Nat.reduceBEq, reduceIte, reduceCtorEq, Int.reduceAdd, Int.reduceLT, Int.reduceLE, Int.reduceGT, Int.reduceGE, Int.reduceEq, Int.reduceNe, Int.reduceBEq, Int.reduceBNe, Int.reduceToNat, Int.reduceNeg]) ?_
    simp only [encPk, qOffer, h1, h2, h3, h4, beq_self_eq_true, List.map_append, go_sem, Nat.reduceAdd, Nat.reduceMul, Nat.reduceSub, Nat.reduceEqDiff, Nat.reduceLT, Nat.reduceLeDiff, Nat.reduceBEq, reduceIte, reduceCtorEq, Int.reduceAdd, Int.reduceLT, Int.reduceLE, Int.reduceGT, Int.reduceGE, Int.reduceEq, Int.reduceNe, Int.reduceBEq, Int.reduceBNe, Int.reduceToNat, Int.reduceNeg]
    try (simp only [List.length_cons] at hl; omega)
  | cons x l =>
    try (refine ev ?_; try exact True.intro)
    refine ⟨by simp_all, fun h => ⟨h, by omega⟩, fun h => ⟨h, by simp [encPk]⟩, ?_⟩
    simp only [encPk, go_sem, Nat.reduceAdd, Nat.reduceMul, Nat.reduceSub, Nat.reduceEqDiff, Nat.reduceLT, Nat.reduceLeDiff, Nat.reduceBEq, reduceIte, reduceCtorEq, Int.reduceAdd, Int.reduceLT, Int.reduceLE, Int.reduceGT, Int.reduceGE, Int.reduceEq, Int.reduceNe, Int.reduceBEq, Int.reduceBNe, Int.reduceToNat, Int.reduceNeg]
    (repeat (with_reducible refine ob ?_)); first | refine cl F71 (alike_ok p x) ?_ | refine clF F71 (alike_ok p x) (fun _ => by simp only [encPk, encQ, go_sem, Nat.reduceAdd, Nat.reduceMul, Nat.reduceSub, Nat.reduceEqDiff, Nat.reduceLT, Nat.reduceLeDiff, Nat.reduceBEq, reduceIte, reduceCtorEq, Int.reduceAdd, Int.reduceLT, Int.reduceLE, Int.reduceGT, Int.reduceGE, Int.reduceEq, Int.reduceNe, Int.reduceBEq, Int.reduceBNe, Int.reduceToNat, Int.reduceNeg]) ?_
    try (refine ev ?_; try exact True.intro)
    (repeat (with_reducible refine ob ?_))
    refine AWp_cond _ rfl rfl (fun h1 => ?_) (fun h1 => ?_)
    · try simp only [qOffer, h1, qEmpty, go_sem, Nat.reduceAdd, Nat.reduceMul, Nat.reduceSub, Nat.reduceEqDiff, Nat.reduceLT, Nat.reduceLeDiff, Nat.reduceBEq, reduceIte, reduceCtorEq, Int.reduceAdd, Int.reduceLT, Int.reduceLE, Int.reduceGT, Int.reduceGE, Int.reduceEq, Int.reduceNe, Int.reduceBEq, Int.reduceBNe, Int.reduceToNat, Int.reduceNeg]
    try (refine ev ?_; try exact True.intro)
    refine AWp_cond _ rfl rfl (fun h2 => ?_) (fun h2 => ?_)
    · try simp only [qOffer, h1, h2, qEmpty, go_sem, Nat.reduceAdd, Nat.reduceMul, Nat.reduceSub, Nat.reduceEqDiff, Nat.reduceLT, Nat.reduceLeDiff, Nat.reduceBEq, reduceIte, reduceCtorEq, Int.reduceAdd, Int.reduceLT, Int.reduceLE, Int.reduceGT, Int.reduceGE, Int.reduceEq, Int.reduceNe, Int.reduceBEq, Int.reduceBNe, Int.reduceToNat, Int.reduceNeg]
    try (refine ev ?_; try exact True.intro)
    refine AWp_cond _ rfl rfl (fun h3 => ?_) (fun h3 => ?_)
    · try simp only [qOffer, h1, h2, h3, qEmpty, go_sem, Nat.reduceAdd, Nat.reduceMul, Nat.reduceSub, Nat.reduceEqDiff, Nat.reduceLT, Nat.reduceLeDiff, Nat.reduceBEq, reduceIte, reduceCtorEq, Int.reduceAdd, Int.reduceLT, Int.reduceLE, Int.reduceGT, Int.reduceGE, Int.reduceEq, Int.reduceNe, Int.reduceBEq, Int.reduceBNe, Int.reduceToNat, Int.reduceNeg]
    try (refine ev ?_; try exact True.intro)
    refine AWp_cond _ rfl rfl (fun h4 => ?_) (fun h4 => ?_)
    · first | exact Bool.noConfusion h4 | try simp only [qOffer, h1, h2, h3, h4, qEmpty, go_sem, Nat.reduceAdd, Nat.reduceMul, Nat.reduceSub, Nat.reduceEqDiff, Nat.reduceLT, Nat.reduceLeDiff, Nat.reduceBEq, reduceIte, reduceCtorEq, Int.reduceAdd, Int.reduceLT, Int.reduceLE, Int.reduceGT, Int.reduceGE, Int.reduceEq, Int.reduceNe, Int.reduceBEq, Int.reduceBNe, Int.reduceToNat, Int.reduceNeg]
    try (refine ev ?_; try exact True.intro)
    refine callO_any (clones_ok (x :: l) hq.1 hq.2) F68.body rfl ⟨by simp only [encPk, encQ, go_sem, Nat.reduceAdd, Nat.reduceMul, Nat.reduceSub, Nat.reduceEqDiff, Nat.reduceLT, Nat.reduceLeDiff, Nat.reduceBEq, reduceIte, reduceCtorEq, Int.reduceAdd, Int.reduceLT, Int.reduceLE, Int.reduceGT, Int.reduceGE, Int.reduceEq, Int.reduceNe, Int.reduceBEq, Int.reduceBNe, Int.reduceToNat, Int.reduceNeg], by try (refine ev ?_; try exact True.intro), by try (refine ev ?_; try exact True.intro), by try (refine ev ?_; try exact True.intro)⟩ (by try (refine ev ?_; try exact True.intro)) (by simp [ASlot.toks]) ?_
    simp only [retok, renT, go_sem, Nat.reduceAdd, Nat.reduceMul, Nat.reduceSub, Nat.reduceEqDiff, Nat.reduceLT, Nat.reduceLeDiff, Nat.reduceBEq, reduceIte, reduceCtorEq, Int.reduceAdd, Int.reduceLT, Int.reduceLE, Int.reduceGT, Int.reduceGE, Int.reduceEq, Int.reduceNe, Int.reduceBEq, Int.reduceBNe, Int.reduceToNat, Int.reduceNeg]
    (repeat (with_reducible refine ob ?_)); first | refine cl F72 (clone_ok p hp) ?_ | refine clF F72 (clone_ok p hp) (fun _ => by simp only [encPk, encQ, go_sem, Nat.reduceAdd, Nat.reduceMul, Nat.reduceSub, Nat.reduceEqDiff, Nat.reduceLT, Nat.reduceLeDiff, Nat.reduceBEq, reduceIte, reduceCtorEq, Int.reduceAdd, Int.reduceLT, Int.reduceLE, Int.reduceGT, Int.reduceGE, Int.reduceEq, Int.reduceNe, Int.reduceBEq, Int.reduceBNe, Int.reduceToNat, Int.reduceNeg]) ?_
    simp only [encPk, qOffer, h1, h2, h3, h4, beq_self_eq_true, List.map_append, go_sem, Nat.reduceAdd, Nat.reduceMul, Nat.reduceSub, Nat.reduceEqDiff, Nat.reduceLT, Nat.reduceLeDiff, Nat.reduceBEq, reduceIte, reduceCtorEq, Int.reduceAdd, Int.reduceLT, Int.reduceLE, Int.reduceGT, Int.reduceGE, Int.reduceEq, Int.reduceNe, Int.reduceBEq, Int.reduceBNe, Int.reduceToNat, Int.reduceNeg]
    try (simp only [List.length_cons] at hl; omega)

def qFirst (q : Qu) : Pk × Bool := match q.items with
  | [] => (default, false)
  | p :: _ => (p, true)

theorem qFirst_ok (q : Qu) (hq : q.Sm) : ACall Try.prog 35 [.d (.agg (encQ q))] [] (.tup [.d (.agg (encPk (qFirst q).1)), .d (.bool (qFirst q).2)]) [] := by
  first | refine F35.go ?_ | refine F35.goT ?_
  obtain ⟨acc, cons, items⟩ := q
  cases items with
  | nil =>
    simp only [encQ, qFirst, pkDefault_enc, go_sem, Nat.reduceAdd, Nat.reduceMul, Nat.reduceSub, Nat.reduceEqDiff, Nat.reduceLT, Nat.reduceLeDiff, Nat.reduceBEq, reduceIte, reduceCtorEq, Int.reduceAdd, Int.reduceLT, Int.reduceLE, Int.reduceGT, Int.reduceGE, Int.reduceEq, Int.reduceNe, Int.reduceBEq, Int.reduceBNe, Int.reduceToNat, Int.reduceNeg]
    refine AWp_cond _ rfl rfl (fun h1 => ?_) (fun h1 => Bool.noConfusion h1)
    try (refine ev ?_; try exact True.intro)
  | cons p l =>
    simp only [encQ, qFirst, go_sem, Nat.reduceAdd, Nat.reduceMul, Nat.reduceSub, Nat.reduceEqDiff, Nat.reduceLT, Nat.reduceLeDiff, Nat.reduceBEq, reduceIte, reduceCtorEq, Int.reduceAdd, Int.reduceLT, Int.reduceLE, Int.reduceGT, Int.reduceGE, Int.reduceEq, Int.reduceNe, Int.reduceBEq, Int.reduceBNe, Int.reduceToNat, Int.reduceNeg]
    refine AWp_cond _ rfl rfl (fun h1 => ?_) (fun h1 => ?_)
    · simp at h1; omega
    simp only [encPk, go_sem, Nat.reduceAdd, Nat.reduceMul, Nat.reduceSub, Nat.reduceEqDiff, Nat.reduceLT, Nat.reduceLeDiff, Nat.reduceBEq, reduceIte, reduceCtorEq, Int.reduceAdd, Int.reduceLT, Int.reduceLE, Int.reduceGT, Int.reduceGE, Int.reduceEq, Int.reduceNe, Int.reduceBEq, Int.reduceBNe, Int.reduceToNat, Int.reduceNeg]
    (repeat (with_reducible refine ob ?_))
    (repeat (with_reducible refine ob ?_)); first | refine cl F72 (clone_ok p (hq.2 _ (by simp))) ?_ | refine clF F72 (clone_ok p (hq.2 _ (by simp))) (fun _ => by simp only [encPk, encQ, go_sem, Nat.reduceAdd, Nat.reduceMul, Nat.reduceSub, Nat.reduceEqDiff, Nat.reduceLT, Nat.reduceLeDiff, Nat.reduceBEq, reduceIte, reduceCtorEq, Int.reduceAdd, Int.reduceLT, Int.reduceLE, Int.reduceGT, Int.reduceGE, Int.reduceEq, Int.reduceNe, Int.reduceBEq, Int.reduceBNe, Int.reduceToNat, Int.reduceNeg]) ?_
    simp only [encPk, go_sem, Nat.reduceAdd, Nat.reduceMul, Nat.reduceSub, Nat.reduceEqDiff, Nat.reduceLT, Nat.reduceLeDiff, Nat.reduceBEq, reduceIte, reduceCtorEq, Int.reduceAdd, Int.reduceLT, Int.reduceLE, Int.reduceGT, Int.reduceGE, Int.reduceEq, Int.reduceNe, Int.reduceBEq, Int.reduceBNe, Int.reduceToNat, Int.reduceNeg]
end Go.Proofs.Ythcpckcgjplhiaa
