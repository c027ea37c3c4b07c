/- QueueOffer. -/
import Derived.Test.YthcpckcgjplhiaaDb
namespace Go.Proofs.Ythcpckcgjplhiaa
open Go.Abs
set_option linter.unusedSimpArgs false
-- ENC encPk encQ

noncomputable def s_farandolelaw51_QueueOffer_r0 : List SOper := [
  ⟨(some 3), .box 3 (.t 0), none⟩,
  ⟨(some 4), .box 2 (.t 1), none⟩,
  ⟨(some 5), .box 1 (.t 2), none⟩,
  ⟨(some 6), .mov (.k (.d (.bool false))), none⟩]
noncomputable def s_farandolelaw51_QueueOffer_r1 : List SOper := [
  ⟨(some 13), .call (.k (.d (.func (.func 25) [] []))) [], none⟩,
  ⟨(some 14), .not (.t 13), none⟩]
noncomputable def s_farandolelaw51_QueueOffer_r2 : List SOper := [
  ⟨(some 6), .mov (.k (.d (.bool false))), none⟩]
noncomputable def s_farandolelaw51_QueueOffer_r3 : List SOper := [
  ⟨(some 15), .load (some 3) (.t 3), none⟩,
  ⟨(some 16), .call (.k (.d (.func (.func 26) [] []))) [(.t 15)], none⟩,
  ⟨(some 17), .not (.t 16), none⟩,
  ⟨(some 18), .mov (.t 17), none⟩,
  ⟨(some 19), .load (some 3) (.t 4), (some (18, false))⟩,
  ⟨(some 20), .call (.k (.d (.func (.func 26) [] []))) [(.t 19)], (some (18, false))⟩,
  ⟨(some 21), .not (.t 20), (some (18, false))⟩,
  ⟨(some 22), .pick (.t 18) (.k (.d (.bool true))) (.t 21), none⟩,
  ⟨(some 23), .mov (.t 22), none⟩,
  ⟨(some 24), .load (some 9) (.t 5), (some (23, false))⟩,
  ⟨(some 25), .call (.k (.d (.func (.func 37) [] []))) [(.t 24)], (some (23, false))⟩,
  ⟨(some 26), .not (.t 25), (some (23, false))⟩,
  ⟨(some 27), .pick (.t 23) (.k (.d (.bool true))) (.t 26), none⟩]
noncomputable def s_farandolelaw51_QueueOffer_r4 : List SOper := [
  ⟨(some 6), .mov (.k (.d (.bool true))), none⟩]
noncomputable def s_farandolelaw51_QueueOffer_r5 : List SOper := [
  ⟨(some 29), .load (some 3) (.t 3), none⟩,
  ⟨(some 30), .call (.k (.d (.func (.func 28) [] []))) [(.t 29)], none⟩,
  ⟨(some 31), .load (some 9) (.t 5), none⟩,
  ⟨(some 32), .call (.k (.d (.func (.func 33) [] []))) [(.t 30), (.t 31)], none⟩,
  ⟨(some 28), .mov (.t 32), none⟩,
  ⟨(some 33), .extract 0 (.t 28), none⟩,
  ⟨(some 34), .extract 1 (.t 28), none⟩,
  ⟨(some 7), .alloc 1 [(.d (.int .i64 0)), (.d (.int .i64 0)), (.d .nilsl)], none⟩,
  ⟨none, .store (some 3) (.t 7) (.t 33), none⟩,
  ⟨(some 8), .mov (.t 34), none⟩]
noncomputable def s_farandolelaw51_QueueOffer_r6 : List SOper := [
  ⟨(some 36), .load (some 3) (.t 3), none⟩,
  ⟨(some 37), .load (some 9) (.t 5), none⟩,
  ⟨(some 38), .call (.k (.d (.func (.func 38) [] []))) [(.t 36), (.t 37)], none⟩,
  ⟨(some 35), .mov (.t 38), none⟩,
  ⟨(some 39), .extract 0 (.t 35), none⟩,
  ⟨(some 40), .extract 1 (.t 35), none⟩,
  ⟨(some 9), .alloc 1 [(.d (.int .i64 0)), (.d (.int .i64 0)), (.d .nilsl)], none⟩,
  ⟨none, .store (some 3) (.t 9) (.t 39), none⟩,
  ⟨(some 10), .mov (.t 40), none⟩]
noncomputable def s_farandolelaw51_QueueOffer_r7 : List SOper := [
  ⟨(some 42), .load (some 3) (.t 3), none⟩,
  ⟨(some 43), .call (.k (.d (.func (.func 28) [] []))) [(.t 42)], none⟩,
  ⟨(some 44), .call (.k (.d (.func (.func 35) [] []))) [(.t 43)], none⟩,
  ⟨(some 41), .mov (.t 44), none⟩,
  ⟨(some 45), .extract 0 (.t 41), none⟩,
  ⟨(some 46), .extract 1 (.t 41), none⟩,
  ⟨(some 11), .alloc 1 [(.d (.int .i64 0)), (.d (.int .i64 0)), (.d (.int .i64 0)), (.d (.int .i64 0)), (.d (.int .i64 0)), (.d (.int .i64 0)), (.d (.int .i64 0)), (.d .nilsl), (.d .nilsl)], none⟩,
  ⟨none, .store (some 9) (.t 11) (.t 45), none⟩,
  ⟨(some 12), .mov (.t 46), none⟩]
noncomputable def s_farandolelaw51_QueueOffer_r8 : List SOper := [
  ⟨(some 47), .mov (.t 8), none⟩,
  ⟨(some 48), .mov (.t 10), none⟩,
  ⟨(some 49), .bin .neq (.t 47) (.t 48), none⟩,
  ⟨(some 50), .mov (.t 49), none⟩,
  ⟨(some 51), .load (some 3) (.t 7), (some (50, false))⟩,
  ⟨(some 52), .call (.k (.d (.func (.func 31) [] []))) [(.t 51)], (some (50, false))⟩,
  ⟨(some 53), .load (some 3) (.t 9), (some (50, false))⟩,
  ⟨(some 54), .call (.k (.d (.func (.func 30) [] []))) [(.t 52), (.t 53)], (some (50, false))⟩,
  ⟨(some 55), .not (.t 54), (some (50, false))⟩,
  ⟨(some 56), .pick (.t 50) (.k (.d (.bool true))) (.t 55), none⟩,
  ⟨(some 57), .mov (.t 56), none⟩,
  ⟨(some 58), .load (some 3) (.t 7), (some (57, false))⟩,
  ⟨(some 59), .call (.k (.d (.func (.func 32) [] []))) [(.t 58)], (some (57, false))⟩,
  ⟨(some 60), .not (.t 59), (some (57, false))⟩,
  ⟨(some 61), .pick (.t 57) (.k (.d (.bool true))) (.t 60), none⟩,
  ⟨(some 62), .mov (.t 61), none⟩,
  ⟨(some 63), .load (some 3) (.t 3), (some (62, false))⟩,
  ⟨(some 64), .call (.k (.d (.func (.func 28) [] []))) [(.t 63)], (some (62, false))⟩,
  ⟨(some 65), .call (.k (.d (.func (.func 32) [] []))) [(.t 64)], (some (62, false))⟩,
  ⟨(some 66), .load (some 3) (.t 3), (some (62, false))⟩,
  ⟨(some 67), .call (.k (.d (.func (.func 39) [] []))) [(.t 66)], (some (62, false))⟩,
  ⟨(some 68), .eqb true (.t 65) (.t 67), (some (62, false))⟩,
  ⟨(some 69), .pick (.t 62) (.k (.d (.bool true))) (.t 68), none⟩,
  ⟨(some 70), .mov (.t 69), none⟩,
  ⟨(some 71), .load (some 3) (.t 3), (some (70, false))⟩,
  ⟨(some 72), .call (.k (.d (.func (.func 28) [] []))) [(.t 71)], (some (70, false))⟩,
  ⟨(some 73), .load (some 3) (.t 4), (some (70, false))⟩,
  ⟨(some 74), .call (.k (.d (.func (.func 28) [] []))) [(.t 73)], (some (70, false))⟩,
  ⟨(some 75), .call (.k (.d (.func (.func 40) [] []))) [(.t 72), (.t 74)], (some (70, false))⟩,
  ⟨(some 76), .load (some 3) (.t 3), (some (70, false))⟩,
  ⟨(some 77), .load (some 3) (.t 4), (some (70, false))⟩,
  ⟨(some 78), .call (.k (.d (.func (.func 30) [] []))) [(.t 76), (.t 77)], (some (70, false))⟩,
  ⟨(some 79), .eqb true (.t 75) (.t 78), (some (70, false))⟩,
  ⟨(some 80), .pick (.t 70) (.k (.d (.bool true))) (.t 79), none⟩]
noncomputable def s_farandolelaw51_QueueOffer_r9 : List SOper := [
  ⟨(some 6), .mov (.k (.d (.bool false))), none⟩]
noncomputable def s_farandolelaw51_QueueOffer_r10 : List SOper := [
  ⟨(some 81), .faddr 2 (.t 3), none⟩,
  ⟨(some 82), .load none (.t 81), none⟩,
  ⟨(some 83), .len (.t 82), none⟩,
  ⟨(some 84), .bin .eql (.t 83) (.k (.d (.int .i64 0))), none⟩]
noncomputable def s_farandolelaw51_QueueOffer_r11 : List SOper := [
  ⟨(some 85), .mov (.t 12), none⟩,
  ⟨(some 86), .not (.t 85), none⟩,
  ⟨(some 87), .mov (.t 86), none⟩,
  ⟨(some 88), .load (some 9) (.t 11), (some (87, true))⟩,
  ⟨(some 89), .build [(.int .i64 0), (.int .i64 0), (.int .i64 0), (.int .i64 0), (.int .i64 0), (.int .i64 0), (.int .i64 0), .nilsl, .nilsl] [], (some (87, true))⟩,
  ⟨(some 90), .call (.k (.d (.func (.func 36) [] []))) [(.t 88), (.t 89)], (some (87, true))⟩,
  ⟨(some 91), .pick (.t 87) (.t 90) (.k (.d (.bool false))), none⟩,
  ⟨(some 6), .mov (.t 91), none⟩]
noncomputable def s_farandolelaw51_QueueOffer_r12 : List SOper := [
  ⟨(some 92), .mov (.t 12), none⟩,
  ⟨(some 93), .mov (.t 92), none⟩,
  ⟨(some 94), .load (some 9) (.t 11), (some (93, true))⟩,
  ⟨(some 95), .faddr 2 (.t 3), (some (93, true))⟩,
  ⟨(some 96), .load none (.t 95), (some (93, true))⟩,
  ⟨(some 97), .iaddr 9 (.t 96) (.k (.d (.int .i64 0))), (some (93, true))⟩,
  ⟨(some 98), .load (some 9) (.t 97), (some (93, true))⟩,
  ⟨(some 99), .call (.k (.d (.func (.func 36) [] []))) [(.t 94), (.t 98)], (some (93, true))⟩,
  ⟨(some 100), .pick (.t 93) (.t 99) (.k (.d (.bool false))), none⟩,
  ⟨(some 6), .mov (.t 100), none⟩]
noncomputable def s_farandolelaw51_QueueOffer : SCode := (.seq (.region s_farandolelaw51_QueueOffer_r0 3 []) (.seq (.seq (.region s_farandolelaw51_QueueOffer_r1 0 []) (.cond (.t 14) (.seq (.region s_farandolelaw51_QueueOffer_r2 0 []) .ret) .skip)) (.seq (.seq (.region s_farandolelaw51_QueueOffer_r3 0 []) (.cond (.t 27) (.seq (.region s_farandolelaw51_QueueOffer_r4 0 []) .ret) .skip)) (.seq (.region s_farandolelaw51_QueueOffer_r5 1 [(0, 7), (2, 7)]) (.seq (.region s_farandolelaw51_QueueOffer_r6 1 []) (.seq (.region s_farandolelaw51_QueueOffer_r7 1 []) (.seq (.seq (.region s_farandolelaw51_QueueOffer_r8 0 []) (.cond (.t 80) (.seq (.region s_farandolelaw51_QueueOffer_r9 0 []) .ret) .skip)) (.seq (.seq (.region s_farandolelaw51_QueueOffer_r10 0 []) (.cond (.t 84) (.seq (.region s_farandolelaw51_QueueOffer_r11 0 []) .ret) .skip)) (.seq (.region s_farandolelaw51_QueueOffer_r12 0 []) .ret)))))))))
theorem e_farandolelaw51_QueueOffer {P : Program} {k0 : Nat} {Q : SExit → St → Prop} {st : St} : AWp P k0 s_farandolelaw51_QueueOffer Q st = AWp P k0 (.seq (.region s_farandolelaw51_QueueOffer_r0 3 []) (.seq (.seq (.region s_farandolelaw51_QueueOffer_r1 0 []) (.cond (.t 14) (.seq (.region s_farandolelaw51_QueueOffer_r2 0 []) .ret) .skip)) (.seq (.seq (.region s_farandolelaw51_QueueOffer_r3 0 []) (.cond (.t 27) (.seq (.region s_farandolelaw51_QueueOffer_r4 0 []) .ret) .skip)) (.seq (.region s_farandolelaw51_QueueOffer_r5 1 [(0, 7), (2, 7)]) (.seq (.region s_farandolelaw51_QueueOffer_r6 1 []) (.seq (.region s_farandolelaw51_QueueOffer_r7 1 []) (.seq (.seq (.region s_farandolelaw51_QueueOffer_r8 0 []) (.cond (.t 80) (.seq (.region s_farandolelaw51_QueueOffer_r9 0 []) .ret) .skip)) (.seq (.seq (.region s_farandolelaw51_QueueOffer_r10 0 []) (.cond (.t 84) (.seq (.region s_farandolelaw51_QueueOffer_r11 0 []) .ret) .skip)) (.seq (.region s_farandolelaw51_QueueOffer_r12 0 []) .ret))))))))) Q st := rfl
theorem u_farandolelaw51_QueueOffer_r0 {P : Program} {o : Nat} {p : List (Nat × Nat)} {Q : SExit → St → Prop} {st : St} : goReg P s_farandolelaw51_QueueOffer_r0 o p Q st = goLit P (litOf s_farandolelaw51_QueueOffer_r0.eq_1) o p Q st := goReg_of _
theorem u_farandolelaw51_QueueOffer_r1 {P : Program} {o : Nat} {p : List (Nat × Nat)} {Q : SExit → St → Prop} {st : St} : goReg P s_farandolelaw51_QueueOffer_r1 o p Q st = goLit P (litOf s_farandolelaw51_QueueOffer_r1.eq_1) o p Q st := goReg_of _
theorem u_farandolelaw51_QueueOffer_r2 {P : Program} {o : Nat} {p : List (Nat × Nat)} {Q : SExit → St → Prop} {st : St} : goReg P s_farandolelaw51_QueueOffer_r2 o p Q st = goLit P (litOf s_farandolelaw51_QueueOffer_r2.eq_1) o p Q st := goReg_of _
theorem u_farandolelaw51_QueueOffer_r3 {P : Program} {o : Nat} {p : List (Nat × Nat)} {Q : SExit → St → Prop} {st : St} : goReg P s_farandolelaw51_QueueOffer_r3 o p Q st = goLit P (litOf s_farandolelaw51_QueueOffer_r3.eq_1) o p Q st := goReg_of _
theorem u_farandolelaw51_QueueOffer_r4 {P : Program} {o : Nat} {p : List (Nat × Nat)} {Q : SExit → St → Prop} {st : St} : goReg P s_farandolelaw51_QueueOffer_r4 o p Q st = goLit P (litOf s_farandolelaw51_QueueOffer_r4.eq_1) o p Q st := goReg_of _
theorem u_farandolelaw51_QueueOffer_r5 {P : Program} {o : Nat} {p : List (Nat × Nat)} {Q : SExit → St → Prop} {st : St} : goReg P s_farandolelaw51_QueueOffer_r5 o p Q st = goLit P (litOf s_farandolelaw51_QueueOffer_r5.eq_1) o p Q st := goReg_of _
theorem u_farandolelaw51_QueueOffer_r6 {P : Program} {o : Nat} {p : List (Nat × Nat)} {Q : SExit → St → Prop} {st : St} : goReg P s_farandolelaw51_QueueOffer_r6 o p Q st = goLit P (litOf s_farandolelaw51_QueueOffer_r6.eq_1) o p Q st := goReg_of _
theorem u_farandolelaw51_QueueOffer_r7 {P : Program} {o : Nat} {p : List (Nat × Nat)} {Q : SExit → St → Prop} {st : St} : goReg P s_farandolelaw51_QueueOffer_r7 o p Q st = goLit P (litOf s_farandolelaw51_QueueOffer_r7.eq_1) o p Q st := goReg_of _
theorem u_farandolelaw51_QueueOffer_r8 {P : Program} {o : Nat} {p : List (Nat × Nat)} {Q : SExit → St → Prop} {st : St} : goReg P s_farandolelaw51_QueueOffer_r8 o p Q st = goLit P (litOf s_farandolelaw51_QueueOffer_r8.eq_1) o p Q st := goReg_of _
theorem u_farandolelaw51_QueueOffer_r9 {P : Program} {o : Nat} {p : List (Nat × Nat)} {Q : SExit → St → Prop} {st : St} : goReg P s_farandolelaw51_QueueOffer_r9 o p Q st = goLit P (litOf s_farandolelaw51_QueueOffer_r9.eq_1) o p Q st := goReg_of _
theorem u_farandolelaw51_QueueOffer_r10 {P : Program} {o : Nat} {p : List (Nat × Nat)} {Q : SExit → St → Prop} {st : St} : goReg P s_farandolelaw51_QueueOffer_r10 o p Q st = goLit P (litOf s_farandolelaw51_QueueOffer_r10.eq_1) o p Q st := goReg_of _
theorem u_farandolelaw51_QueueOffer_r11 {P : Program} {o : Nat} {p : List (Nat × Nat)} {Q : SExit → St → Prop} {st : St} : goReg P s_farandolelaw51_QueueOffer_r11 o p Q st = goLit P (litOf s_farandolelaw51_QueueOffer_r11.eq_1) o p Q st := goReg_of _
theorem u_farandolelaw51_QueueOffer_r12 {P : Program} {o : Nat} {p : List (Nat × Nat)} {Q : SExit → St → Prop} {st : St} : goReg P s_farandolelaw51_QueueOffer_r12 o p Q st = goLit P (litOf s_farandolelaw51_QueueOffer_r12.eq_1) o p Q st := goReg_of _
attribute [go_sem] u_farandolelaw51_QueueOffer_r0 u_farandolelaw51_QueueOffer_r1 u_farandolelaw51_QueueOffer_r2 u_farandolelaw51_QueueOffer_r3 u_farandolelaw51_QueueOffer_r4 u_farandolelaw51_QueueOffer_r5 u_farandolelaw51_QueueOffer_r6 u_farandolelaw51_QueueOffer_r7 u_farandolelaw51_QueueOffer_r8 u_farandolelaw51_QueueOffer_r9 u_farandolelaw51_QueueOffer_r10 u_farandolelaw51_QueueOffer_r11 u_farandolelaw51_QueueOffer_r12 e_farandolelaw51_QueueOffer
set_option maxRecDepth 100000 in
theorem c_farandolelaw51_QueueOffer : Try.f6.body.bind (compCode Try.prog Try.f6.ntmps) = some s_farandolelaw51_QueueOffer := by kernel_rfl
theorem r_farandolelaw51_QueueOffer : Try.f6.results.toList.mapM (compRes Try.prog) = some [(.tmp 6)] := by kernel_rfl
theorem n_farandolelaw51_QueueOffer : Try.f6.ntmps = 101 := by kernel_rfl
theorem b_farandolelaw51_QueueOffer : (Try.prog.funcs[6]?).any (fun fn => fn.body.isSome && !(fn.name == "runtime.NumGoroutine")) = true := by kernel_rfl
theorem k_farandolelaw51_QueueOffer {args : List ASlot} {r : ASlot} (h : AWp Try.prog 0 s_farandolelaw51_QueueOffer (bodyQ 0 [(.tmp 6)] [r] []) (entrySt args [])) (hN : args.length ≤ 101 := by simp) (hw : ltB 16 (toksOf args) = true := by rfl) : ACall Try.prog 6 args [] r [] :=
  acall_go (rs := [r]) follows Try.func6 c_farandolelaw51_QueueOffer r_farandolelaw51_QueueOffer h (by rw [n_farandolelaw51_QueueOffer]; exact hN) rfl hw



theorem qOffer_sm {q : Qu} {p : Pk} (hq : q.Sm) (hp : p.Sm) (h : q.items.length ≤ 8) : (qOffer q p).1.Sm := by
  unfold qOffer
  repeat' split
  all_goals first | exact qEmpty_sm | skip
  refine ⟨by simp only [List.length_append, List.length_cons, List.length_nil]; omega, fun x hx => ?_⟩
  rcases List.mem_append.1 hx with h | h
  · exact hq.2 x h
  · simp at h; subst h; exact hp

set_option maxRecDepth 20000 in
theorem queueOffer_ok (a b : Qu) (p : Pk) (a1 : a.items.length ≤ maxLen) (a2 : ∀ p ∈ a.items, p.values.length ≤ maxLen)
    (b1 : b.items.length ≤ maxLen) (b2 : ∀ p ∈ b.items, p.values.length ≤ maxLen) (hp : p.values.length ≤ maxLen) :
    ACall Try.prog 6 [.d (.agg (encQ a)), .d (.agg (encQ b)), .d (.agg (encPk p))] [] (.d (.bool true)) [] := by
  refine k_farandolelaw51_QueueOffer ?_
  simp only [e_farandolelaw51_QueueOffer, encQ, encPk, go_sem, Nat.reduceAdd, Nat.reduceMul, Nat.reduceSub, Nat.reduceEqDiff, Nat.reduceLT, Nat.reduceLeDiff, Nat.reduceBEq, reduceIte, reduceCtorEq, Int.reduceAdd, Int.reduceLT, Int.reduceLE, Int.reduceGT, Int.reduceGE, Int.reduceEq, Int.reduceNe, Int.reduceBEq, Int.reduceBNe, Int.reduceToNat, Int.reduceNeg]
  (repeat (with_reducible refine And.intro (by first | omega | (simp_all; done) | grind) ?_)); refine callO_pure (awake51_ok) b_farandolelaw51_awake (fun h => by first | exact h | (simp only [h, Bool.and_self, Bool.and_true])) (fun _ => by first | exact ⟨matchA_refl, trivial⟩ | exact ⟨matchA_refl, matchA_refl, trivial⟩ | exact ⟨matchA_refl, matchA_refl, matchA_refl, trivial⟩ | simp only [encPk, encQ, go_sem, Nat.reduceAdd, Nat.reduceMul, Nat.reduceSub, Nat.reduceEqDiff, Nat.reduceLT, Nat.reduceLeDiff, Nat.reduceBEq, reduceIte, reduceCtorEq, Int.reduceAdd, Int.reduceLT, Int.reduceLE, Int.reduceGT, Int.reduceGE, Int.reduceEq, Int.reduceNe, Int.reduceBEq, Int.reduceBNe, Int.reduceToNat, Int.reduceNeg]) (by simp only [go_sem, Nat.reduceAdd, Nat.reduceMul, Nat.reduceSub, Nat.reduceEqDiff, Nat.reduceLT, Nat.reduceLeDiff, Nat.reduceBEq, reduceIte, reduceCtorEq, Int.reduceAdd, Int.reduceLT, Int.reduceLE, Int.reduceGT, Int.reduceGE, Int.reduceEq, Int.reduceNe, Int.reduceBEq, Int.reduceBNe, Int.reduceToNat, Int.reduceNeg]) rfl rfl ?_
  simp only [go_sem, Nat.reduceAdd, Nat.reduceMul, Nat.reduceSub, Nat.reduceEqDiff, Nat.reduceLT, Nat.reduceLeDiff, Nat.reduceBEq, reduceIte, reduceCtorEq, Int.reduceAdd, Int.reduceLT, Int.reduceLE, Int.reduceGT, Int.reduceGE, Int.reduceEq, Int.reduceNe, Int.reduceBEq, Int.reduceBNe, Int.reduceToNat, Int.reduceNeg]
  refine AWp_cond _ rfl rfl (fun h => Bool.noConfusion h) (fun _ => ?_)
  simp only [go_sem, Nat.reduceAdd, Nat.reduceMul, Nat.reduceSub, Nat.reduceEqDiff, Nat.reduceLT, Nat.reduceLeDiff, Nat.reduceBEq, reduceIte, reduceCtorEq, Int.reduceAdd, Int.reduceLT, Int.reduceLE, Int.reduceGT, Int.reduceGE, Int.reduceEq, Int.reduceNe, Int.reduceBEq, Int.reduceBNe, Int.reduceToNat, Int.reduceNeg]
  (repeat (with_reducible refine And.intro (by first | omega | (simp_all; done) | grind) ?_)); refine callO_pure (fewQ_ok a a1 a2) b_farandoleref51_Few (fun h => by first | exact h | (simp only [h, Bool.and_self, Bool.and_true])) (fun _ => by first | exact ⟨matchA_refl, trivial⟩ | exact ⟨matchA_refl, matchA_refl, trivial⟩ | exact ⟨matchA_refl, matchA_refl, matchA_refl, trivial⟩ | simp only [encPk, encQ, go_sem, Nat.reduceAdd, Nat.reduceMul, Nat.reduceSub, Nat.reduceEqDiff, Nat.reduceLT, Nat.reduceLeDiff, Nat.reduceBEq, reduceIte, reduceCtorEq, Int.reduceAdd, Int.reduceLT, Int.reduceLE, Int.reduceGT, Int.reduceGE, Int.reduceEq, Int.reduceNe, Int.reduceBEq, Int.reduceBNe, Int.reduceToNat, Int.reduceNeg]) (by simp only [go_sem, Nat.reduceAdd, Nat.reduceMul, Nat.reduceSub, Nat.reduceEqDiff, Nat.reduceLT, Nat.reduceLeDiff, Nat.reduceBEq, reduceIte, reduceCtorEq, Int.reduceAdd, Int.reduceLT, Int.reduceLE, Int.reduceGT, Int.reduceGE, Int.reduceEq, Int.reduceNe, Int.reduceBEq, Int.reduceBNe, Int.reduceToNat, Int.reduceNeg]) rfl rfl ?_
  simp only [go_sem, Nat.reduceAdd, Nat.reduceMul, Nat.reduceSub, Nat.reduceEqDiff, Nat.reduceLT, Nat.reduceLeDiff, Nat.reduceBEq, reduceIte, reduceCtorEq, Int.reduceAdd, Int.reduceLT, Int.reduceLE, Int.reduceGT, Int.reduceGE, Int.reduceEq, Int.reduceNe, Int.reduceBEq, Int.reduceBNe, Int.reduceToNat, Int.reduceNeg]
  (repeat (with_reducible refine And.intro (by first | omega | (simp_all; done) | grind) ?_)); refine callO_pure (fewQ_ok b b1 b2) b_farandoleref51_Few (fun h => by first | exact h | (simp only [h, Bool.and_self, Bool.and_true])) (fun _ => by first | exact ⟨matchA_refl, trivial⟩ | exact ⟨matchA_refl, matchA_refl, trivial⟩ | exact ⟨matchA_refl, matchA_refl, matchA_refl, trivial⟩ | simp only [encPk, encQ, go_sem, Nat.reduceAdd, Nat.reduceMul, Nat.reduceSub, Nat.reduceEqDiff, Nat.reduceLT, Nat.reduceLeDiff, Nat.reduceBEq, reduceIte, reduceCtorEq, Int.reduceAdd, Int.reduceLT, Int.reduceLE, Int.reduceGT, Int.reduceGE, Int.reduceEq, Int.reduceNe, Int.reduceBEq, Int.reduceBNe, Int.reduceToNat, Int.reduceNeg]) (by simp only [go_sem, Nat.reduceAdd, Nat.reduceMul, Nat.reduceSub, Nat.reduceEqDiff, Nat.reduceLT, Nat.reduceLeDiff, Nat.reduceBEq, reduceIte, reduceCtorEq, Int.reduceAdd, Int.reduceLT, Int.reduceLE, Int.reduceGT, Int.reduceGE, Int.reduceEq, Int.reduceNe, Int.reduceBEq, Int.reduceBNe, Int.reduceToNat, Int.reduceNeg]) rfl rfl ?_
  simp only [go_sem, Nat.reduceAdd, Nat.reduceMul, Nat.reduceSub, Nat.reduceEqDiff, Nat.reduceLT, Nat.reduceLeDiff, Nat.reduceBEq, reduceIte, reduceCtorEq, Int.reduceAdd, Int.reduceLT, Int.reduceLE, Int.reduceGT, Int.reduceGE, Int.reduceEq, Int.reduceNe, Int.reduceBEq, Int.reduceBNe, Int.reduceToNat, Int.reduceNeg]
  (repeat (with_reducible refine And.intro (by first | omega | (simp_all; done) | grind) ?_)); refine callO_pure (few46_ok p hp) b_farandoleref46_Few (fun h => by first | exact h | (simp only [h, Bool.and_self, Bool.and_true])) (fun _ => by first | exact ⟨matchA_refl, trivial⟩ | exact ⟨matchA_refl, matchA_refl, trivial⟩ | exact ⟨matchA_refl, matchA_refl, matchA_refl, trivial⟩ | simp only [encPk, encQ, go_sem, Nat.reduceAdd, Nat.reduceMul, Nat.reduceSub, Nat.reduceEqDiff, Nat.reduceLT, Nat.reduceLeDiff, Nat.reduceBEq, reduceIte, reduceCtorEq, Int.reduceAdd, Int.reduceLT, Int.reduceLE, Int.reduceGT, Int.reduceGE, Int.reduceEq, Int.reduceNe, Int.reduceBEq, Int.reduceBNe, Int.reduceToNat, Int.reduceNeg]) (by simp only [go_sem, Nat.reduceAdd, Nat.reduceMul, Nat.reduceSub, Nat.reduceEqDiff, Nat.reduceLT, Nat.reduceLeDiff, Nat.reduceBEq, reduceIte, reduceCtorEq, Int.reduceAdd, Int.reduceLT, Int.reduceLE, Int.reduceGT, Int.reduceGE, Int.reduceEq, Int.reduceNe, Int.reduceBEq, Int.reduceBNe, Int.reduceToNat, Int.reduceNeg]) rfl rfl ?_
  simp only [go_sem, Nat.reduceAdd, Nat.reduceMul, Nat.reduceSub, Nat.reduceEqDiff, Nat.reduceLT, Nat.reduceLeDiff, Nat.reduceBEq, reduceIte, reduceCtorEq, Int.reduceAdd, Int.reduceLT, Int.reduceLE, Int.reduceGT, Int.reduceGE, Int.reduceEq, Int.reduceNe, Int.reduceBEq, Int.reduceBNe, Int.reduceToNat, Int.reduceNeg]
  (repeat (with_reducible refine And.intro (by first | omega | (simp_all; done) | grind) ?_)); refine AWp_cond _ rfl rfl (fun h => ?_) (fun h => ?_)
  · simp only [go_sem, Nat.reduceAdd, Nat.reduceMul, Nat.reduceSub, Nat.reduceEqDiff, Nat.reduceLT, Nat.reduceLeDiff, Nat.reduceBEq, reduceIte, reduceCtorEq, Int.reduceAdd, Int.reduceLT, Int.reduceLE, Int.reduceGT, Int.reduceGE, Int.reduceEq, Int.reduceNe, Int.reduceBEq, Int.reduceBNe, Int.reduceToNat, Int.reduceNeg]
  have hf : fewQ a = true ∧ fewQ b = true ∧ few46 p = true := by simpa [and_assoc] using h
  obtain ⟨fa, fb, fp⟩ := hf
  obtain ⟨ha, ha8⟩ := fewQ_sm fa
  obtain ⟨hb, hb8⟩ := fewQ_sm fb
  have hps := few46_sm fp
  obtain ⟨l1, l2⟩ := offer_law a p
  have hs := qOffer_sm ha hps ha8
  have c2 := offer51_ok a p ha hps
  rw [← l1] at c2
  have cv := valid51_ok a ha
  rw [valid51_eq] at cv
  simp only [go_sem, Nat.reduceAdd, Nat.reduceMul, Nat.reduceSub, Nat.reduceEqDiff, Nat.reduceLT, Nat.reduceLeDiff, Nat.reduceBEq, reduceIte, reduceCtorEq, Int.reduceAdd, Int.reduceLT, Int.reduceLE, Int.reduceGT, Int.reduceGE, Int.reduceEq, Int.reduceNe, Int.reduceBEq, Int.reduceBNe, Int.reduceToNat, Int.reduceNeg]
  (repeat (with_reducible refine And.intro (by first | omega | (simp_all; done) | grind) ?_)); refine callO_pure (to51_ok a ha.1) b_farandolelaw51_To (fun h => by first | exact h | (simp only [h, Bool.and_self, Bool.and_true])) (fun _ => by first | exact ⟨matchA_refl, trivial⟩ | exact ⟨matchA_refl, matchA_refl, trivial⟩ | exact ⟨matchA_refl, matchA_refl, matchA_refl, trivial⟩ | simp only [encPk, encQ, go_sem, Nat.reduceAdd, Nat.reduceMul, Nat.reduceSub, Nat.reduceEqDiff, Nat.reduceLT, Nat.reduceLeDiff, Nat.reduceBEq, reduceIte, reduceCtorEq, Int.reduceAdd, Int.reduceLT, Int.reduceLE, Int.reduceGT, Int.reduceGE, Int.reduceEq, Int.reduceNe, Int.reduceBEq, Int.reduceBNe, Int.reduceToNat, Int.reduceNeg]) (by simp only [go_sem, Nat.reduceAdd, Nat.reduceMul, Nat.reduceSub, Nat.reduceEqDiff, Nat.reduceLT, Nat.reduceLeDiff, Nat.reduceBEq, reduceIte, reduceCtorEq, Int.reduceAdd, Int.reduceLT, Int.reduceLE, Int.reduceGT, Int.reduceGE, Int.reduceEq, Int.reduceNe, Int.reduceBEq, Int.reduceBNe, Int.reduceToNat, Int.reduceNeg]) rfl rfl ?_
  simp only [go_sem, Nat.reduceAdd, Nat.reduceMul, Nat.reduceSub, Nat.reduceEqDiff, Nat.reduceLT, Nat.reduceLeDiff, Nat.reduceBEq, reduceIte, reduceCtorEq, Int.reduceAdd, Int.reduceLT, Int.reduceLE, Int.reduceGT, Int.reduceGE, Int.reduceEq, Int.reduceNe, Int.reduceBEq, Int.reduceBNe, Int.reduceToNat, Int.reduceNeg]
  (repeat (with_reducible refine And.intro (by first | omega | (simp_all; done) | grind) ?_)); refine callO_pure (qOffer_ok a p ha hps) b_queue_Offer (fun h => by first | exact h | (simp only [h, Bool.and_self, Bool.and_true])) (fun _ => by first | exact ⟨matchA_refl, trivial⟩ | exact ⟨matchA_refl, matchA_refl, trivial⟩ | exact ⟨matchA_refl, matchA_refl, matchA_refl, trivial⟩ | simp only [encPk, encQ, go_sem, Nat.reduceAdd, Nat.reduceMul, Nat.reduceSub, Nat.reduceEqDiff, Nat.reduceLT, Nat.reduceLeDiff, Nat.reduceBEq, reduceIte, reduceCtorEq, Int.reduceAdd, Int.reduceLT, Int.reduceLE, Int.reduceGT, Int.reduceGE, Int.reduceEq, Int.reduceNe, Int.reduceBEq, Int.reduceBNe, Int.reduceToNat, Int.reduceNeg]) (by simp only [go_sem, Nat.reduceAdd, Nat.reduceMul, Nat.reduceSub, Nat.reduceEqDiff, Nat.reduceLT, Nat.reduceLeDiff, Nat.reduceBEq, reduceIte, reduceCtorEq, Int.reduceAdd, Int.reduceLT, Int.reduceLE, Int.reduceGT, Int.reduceGE, Int.reduceEq, Int.reduceNe, Int.reduceBEq, Int.reduceBNe, Int.reduceToNat, Int.reduceNeg]) rfl rfl ?_
  simp only [encQ, go_sem, Nat.reduceAdd, Nat.reduceMul, Nat.reduceSub, Nat.reduceEqDiff, Nat.reduceLT, Nat.reduceLeDiff, Nat.reduceBEq, reduceIte, reduceCtorEq, Int.reduceAdd, Int.reduceLT, Int.reduceLE, Int.reduceGT, Int.reduceGE, Int.reduceEq, Int.reduceNe, Int.reduceBEq, Int.reduceBNe, Int.reduceToNat, Int.reduceNeg]
  (repeat (with_reducible refine And.intro (by first | omega | (simp_all; done) | grind) ?_)); refine callO_pure (c2) b_farandoleref51_Offer (fun h => by first | exact h | (simp only [h, Bool.and_self, Bool.and_true])) (fun _ => by first | exact ⟨matchA_refl, trivial⟩ | exact ⟨matchA_refl, matchA_refl, trivial⟩ | exact ⟨matchA_refl, matchA_refl, matchA_refl, trivial⟩ | simp only [encPk, encQ, go_sem, Nat.reduceAdd, Nat.reduceMul, Nat.reduceSub, Nat.reduceEqDiff, Nat.reduceLT, Nat.reduceLeDiff, Nat.reduceBEq, reduceIte, reduceCtorEq, Int.reduceAdd, Int.reduceLT, Int.reduceLE, Int.reduceGT, Int.reduceGE, Int.reduceEq, Int.reduceNe, Int.reduceBEq, Int.reduceBNe, Int.reduceToNat, Int.reduceNeg]) (by simp only [go_sem, Nat.reduceAdd, Nat.reduceMul, Nat.reduceSub, Nat.reduceEqDiff, Nat.reduceLT, Nat.reduceLeDiff, Nat.reduceBEq, reduceIte, reduceCtorEq, Int.reduceAdd, Int.reduceLT, Int.reduceLE, Int.reduceGT, Int.reduceGE, Int.reduceEq, Int.reduceNe, Int.reduceBEq, Int.reduceBNe, Int.reduceToNat, Int.reduceNeg]) rfl rfl ?_
  simp only [encQ, go_sem, Nat.reduceAdd, Nat.reduceMul, Nat.reduceSub, Nat.reduceEqDiff, Nat.reduceLT, Nat.reduceLeDiff, Nat.reduceBEq, reduceIte, reduceCtorEq, Int.reduceAdd, Int.reduceLT, Int.reduceLE, Int.reduceGT, Int.reduceGE, Int.reduceEq, Int.reduceNe, Int.reduceBEq, Int.reduceBNe, Int.reduceToNat, Int.reduceNeg]
  (repeat (with_reducible refine And.intro (by first | omega | (simp_all; done) | grind) ?_)); refine callO_pure (to51_ok a ha.1) b_farandolelaw51_To (fun h => by first | exact h | (simp only [h, Bool.and_self, Bool.and_true])) (fun _ => by first | exact ⟨matchA_refl, trivial⟩ | exact ⟨matchA_refl, matchA_refl, trivial⟩ | exact ⟨matchA_refl, matchA_refl, matchA_refl, trivial⟩ | simp only [encPk, encQ, go_sem, Nat.reduceAdd, Nat.reduceMul, Nat.reduceSub, Nat.reduceEqDiff, Nat.reduceLT, Nat.reduceLeDiff, Nat.reduceBEq, reduceIte, reduceCtorEq, Int.reduceAdd, Int.reduceLT, Int.reduceLE, Int.reduceGT, Int.reduceGE, Int.reduceEq, Int.reduceNe, Int.reduceBEq, Int.reduceBNe, Int.reduceToNat, Int.reduceNeg]) (by simp only [go_sem, Nat.reduceAdd, Nat.reduceMul, Nat.reduceSub, Nat.reduceEqDiff, Nat.reduceLT, Nat.reduceLeDiff, Nat.reduceBEq, reduceIte, reduceCtorEq, Int.reduceAdd, Int.reduceLT, Int.reduceLE, Int.reduceGT, Int.reduceGE, Int.reduceEq, Int.reduceNe, Int.reduceBEq, Int.reduceBNe, Int.reduceToNat, Int.reduceNeg]) rfl rfl ?_
  simp only [go_sem, Nat.reduceAdd, Nat.reduceMul, Nat.reduceSub, Nat.reduceEqDiff, Nat.reduceLT, Nat.reduceLeDiff, Nat.reduceBEq, reduceIte, reduceCtorEq, Int.reduceAdd, Int.reduceLT, Int.reduceLE, Int.reduceGT, Int.reduceGE, Int.reduceEq, Int.reduceNe, Int.reduceBEq, Int.reduceBNe, Int.reduceToNat, Int.reduceNeg]
  (repeat (with_reducible refine And.intro (by first | omega | (simp_all; done) | grind) ?_)); refine callO_pure (qFirst_ok a ha) b_queue_First (fun h => by first | exact h | (simp only [h, Bool.and_self, Bool.and_true])) (fun _ => by first | exact ⟨matchA_refl, trivial⟩ | exact ⟨matchA_refl, matchA_refl, trivial⟩ | exact ⟨matchA_refl, matchA_refl, matchA_refl, trivial⟩ | simp only [encPk, encQ, go_sem, Nat.reduceAdd, Nat.reduceMul, Nat.reduceSub, Nat.reduceEqDiff, Nat.reduceLT, Nat.reduceLeDiff, Nat.reduceBEq, reduceIte, reduceCtorEq, Int.reduceAdd, Int.reduceLT, Int.reduceLE, Int.reduceGT, Int.reduceGE, Int.reduceEq, Int.reduceNe, Int.reduceBEq, Int.reduceBNe, Int.reduceToNat, Int.reduceNeg]) (by simp only [go_sem, Nat.reduceAdd, Nat.reduceMul, Nat.reduceSub, Nat.reduceEqDiff, Nat.reduceLT, Nat.reduceLeDiff, Nat.reduceBEq, reduceIte, reduceCtorEq, Int.reduceAdd, Int.reduceLT, Int.reduceLE, Int.reduceGT, Int.reduceGE, Int.reduceEq, Int.reduceNe, Int.reduceBEq, Int.reduceBNe, Int.reduceToNat, Int.reduceNeg]) rfl rfl ?_
  simp only [encPk, go_sem, Nat.reduceAdd, Nat.reduceMul, Nat.reduceSub, Nat.reduceEqDiff, Nat.reduceLT, Nat.reduceLeDiff, Nat.reduceBEq, reduceIte, reduceCtorEq, Int.reduceAdd, Int.reduceLT, Int.reduceLE, Int.reduceGT, Int.reduceGE, Int.reduceEq, Int.reduceNe, Int.reduceBEq, Int.reduceBNe, Int.reduceToNat, Int.reduceNeg]
  (repeat (with_reducible refine And.intro (by first | omega | (simp_all; done) | grind) ?_)); refine callO_pure (from51_ok (qOffer a p).1 hs.1) b_farandolelaw51_From (fun h => by first | exact h | (simp only [h, Bool.and_self, Bool.and_true])) (fun _ => by first | exact ⟨matchA_refl, trivial⟩ | exact ⟨matchA_refl, matchA_refl, trivial⟩ | exact ⟨matchA_refl, matchA_refl, matchA_refl, trivial⟩ | simp only [encPk, encQ, go_sem, Nat.reduceAdd, Nat.reduceMul, Nat.reduceSub, Nat.reduceEqDiff, Nat.reduceLT, Nat.reduceLeDiff, Nat.reduceBEq, reduceIte, reduceCtorEq, Int.reduceAdd, Int.reduceLT, Int.reduceLE, Int.reduceGT, Int.reduceGE, Int.reduceEq, Int.reduceNe, Int.reduceBEq, Int.reduceBNe, Int.reduceToNat, Int.reduceNeg]) (by simp only [go_sem, Nat.reduceAdd, Nat.reduceMul, Nat.reduceSub, Nat.reduceEqDiff, Nat.reduceLT, Nat.reduceLeDiff, Nat.reduceBEq, reduceIte, reduceCtorEq, Int.reduceAdd, Int.reduceLT, Int.reduceLE, Int.reduceGT, Int.reduceGE, Int.reduceEq, Int.reduceNe, Int.reduceBEq, Int.reduceBNe, Int.reduceToNat, Int.reduceNeg]) rfl rfl ?_
  simp only [go_sem, Nat.reduceAdd, Nat.reduceMul, Nat.reduceSub, Nat.reduceEqDiff, Nat.reduceLT, Nat.reduceLeDiff, Nat.reduceBEq, reduceIte, reduceCtorEq, Int.reduceAdd, Int.reduceLT, Int.reduceLE, Int.reduceGT, Int.reduceGE, Int.reduceEq, Int.reduceNe, Int.reduceBEq, Int.reduceBNe, Int.reduceToNat, Int.reduceNeg]
  (repeat (with_reducible refine And.intro (by first | omega | (simp_all; done) | grind) ?_)); refine callO_pure (equal51_ok (qOffer a p).1 (qOffer a p).1 hs) b_farandoleref51_Equal (fun h => by first | exact h | (simp only [h, Bool.and_self, Bool.and_true])) (fun _ => by first | exact ⟨matchA_refl, trivial⟩ | exact ⟨matchA_refl, matchA_refl, trivial⟩ | exact ⟨matchA_refl, matchA_refl, matchA_refl, trivial⟩ | simp only [encPk, encQ, go_sem, Nat.reduceAdd, Nat.reduceMul, Nat.reduceSub, Nat.reduceEqDiff, Nat.reduceLT, Nat.reduceLeDiff, Nat.reduceBEq, reduceIte, reduceCtorEq, Int.reduceAdd, Int.reduceLT, Int.reduceLE, Int.reduceGT, Int.reduceGE, Int.reduceEq, Int.reduceNe, Int.reduceBEq, Int.reduceBNe, Int.reduceToNat, Int.reduceNeg]) (by simp only [go_sem, Nat.reduceAdd, Nat.reduceMul, Nat.reduceSub, Nat.reduceEqDiff, Nat.reduceLT, Nat.reduceLeDiff, Nat.reduceBEq, reduceIte, reduceCtorEq, Int.reduceAdd, Int.reduceLT, Int.reduceLE, Int.reduceGT, Int.reduceGE, Int.reduceEq, Int.reduceNe, Int.reduceBEq, Int.reduceBNe, Int.reduceToNat, Int.reduceNeg]) rfl rfl ?_
  simp only [go_sem, Nat.reduceAdd, Nat.reduceMul, Nat.reduceSub, Nat.reduceEqDiff, Nat.reduceLT, Nat.reduceLeDiff, Nat.reduceBEq, reduceIte, reduceCtorEq, Int.reduceAdd, Int.reduceLT, Int.reduceLE, Int.reduceGT, Int.reduceGE, Int.reduceEq, Int.reduceNe, Int.reduceBEq, Int.reduceBNe, Int.reduceToNat, Int.reduceNeg]
  (repeat (with_reducible refine And.intro (by first | omega | (simp_all; done) | grind) ?_)); refine callO_pure (qValid_ok (qOffer a p).1 hs) b_queue_Valid (fun h => by first | exact h | (simp only [h, Bool.and_self, Bool.and_true])) (fun _ => by first | exact ⟨matchA_refl, trivial⟩ | exact ⟨matchA_refl, matchA_refl, trivial⟩ | exact ⟨matchA_refl, matchA_refl, matchA_refl, trivial⟩ | simp only [encPk, encQ, go_sem, Nat.reduceAdd, Nat.reduceMul, Nat.reduceSub, Nat.reduceEqDiff, Nat.reduceLT, Nat.reduceLeDiff, Nat.reduceBEq, reduceIte, reduceCtorEq, Int.reduceAdd, Int.reduceLT, Int.reduceLE, Int.reduceGT, Int.reduceGE, Int.reduceEq, Int.reduceNe, Int.reduceBEq, Int.reduceBNe, Int.reduceToNat, Int.reduceNeg]) (by simp only [go_sem, Nat.reduceAdd, Nat.reduceMul, Nat.reduceSub, Nat.reduceEqDiff, Nat.reduceLT, Nat.reduceLeDiff, Nat.reduceBEq, reduceIte, reduceCtorEq, Int.reduceAdd, Int.reduceLT, Int.reduceLE, Int.reduceGT, Int.reduceGE, Int.reduceEq, Int.reduceNe, Int.reduceBEq, Int.reduceBNe, Int.reduceToNat, Int.reduceNeg]) rfl rfl ?_
  simp only [l2, go_sem, Nat.reduceAdd, Nat.reduceMul, Nat.reduceSub, Nat.reduceEqDiff, Nat.reduceLT, Nat.reduceLeDiff, Nat.reduceBEq, reduceIte, reduceCtorEq, Int.reduceAdd, Int.reduceLT, Int.reduceLE, Int.reduceGT, Int.reduceGE, Int.reduceEq, Int.reduceNe, Int.reduceBEq, Int.reduceBNe, Int.reduceToNat, Int.reduceNeg]
  (repeat (with_reducible refine And.intro (by first | omega | (simp_all; done) | grind) ?_)); refine callO_pure (to51_ok a ha.1) b_farandolelaw51_To (fun h => by first | exact h | (simp only [h, Bool.and_self, Bool.and_true])) (fun _ => by first | exact ⟨matchA_refl, trivial⟩ | exact ⟨matchA_refl, matchA_refl, trivial⟩ | exact ⟨matchA_refl, matchA_refl, matchA_refl, trivial⟩ | simp only [encPk, encQ, go_sem, Nat.reduceAdd, Nat.reduceMul, Nat.reduceSub, Nat.reduceEqDiff, Nat.reduceLT, Nat.reduceLeDiff, Nat.reduceBEq, reduceIte, reduceCtorEq, Int.reduceAdd, Int.reduceLT, Int.reduceLE, Int.reduceGT, Int.reduceGE, Int.reduceEq, Int.reduceNe, Int.reduceBEq, Int.reduceBNe, Int.reduceToNat, Int.reduceNeg]) (by simp only [go_sem, Nat.reduceAdd, Nat.reduceMul, Nat.reduceSub, Nat.reduceEqDiff, Nat.reduceLT, Nat.reduceLeDiff, Nat.reduceBEq, reduceIte, reduceCtorEq, Int.reduceAdd, Int.reduceLT, Int.reduceLE, Int.reduceGT, Int.reduceGE, Int.reduceEq, Int.reduceNe, Int.reduceBEq, Int.reduceBNe, Int.reduceToNat, Int.reduceNeg]) rfl rfl ?_
  simp only [go_sem, Nat.reduceAdd, Nat.reduceMul, Nat.reduceSub, Nat.reduceEqDiff, Nat.reduceLT, Nat.reduceLeDiff, Nat.reduceBEq, reduceIte, reduceCtorEq, Int.reduceAdd, Int.reduceLT, Int.reduceLE, Int.reduceGT, Int.reduceGE, Int.reduceEq, Int.reduceNe, Int.reduceBEq, Int.reduceBNe, Int.reduceToNat, Int.reduceNeg]
  (repeat (with_reducible refine And.intro (by first | omega | (simp_all; done) | grind) ?_)); refine callO_pure (qValid_ok a ha) b_queue_Valid (fun h => by first | exact h | (simp only [h, Bool.and_self, Bool.and_true])) (fun _ => by first | exact ⟨matchA_refl, trivial⟩ | exact ⟨matchA_refl, matchA_refl, trivial⟩ | exact ⟨matchA_refl, matchA_refl, matchA_refl, trivial⟩ | simp only [encPk, encQ, go_sem, Nat.reduceAdd, Nat.reduceMul, Nat.reduceSub, Nat.reduceEqDiff, Nat.reduceLT, Nat.reduceLeDiff, Nat.reduceBEq, reduceIte, reduceCtorEq, Int.reduceAdd, Int.reduceLT, Int.reduceLE, Int.reduceGT, Int.reduceGE, Int.reduceEq, Int.reduceNe, Int.reduceBEq, Int.reduceBNe, Int.reduceToNat, Int.reduceNeg]) (by simp only [go_sem, Nat.reduceAdd, Nat.reduceMul, Nat.reduceSub, Nat.reduceEqDiff, Nat.reduceLT, Nat.reduceLeDiff, Nat.reduceBEq, reduceIte, reduceCtorEq, Int.reduceAdd, Int.reduceLT, Int.reduceLE, Int.reduceGT, Int.reduceGE, Int.reduceEq, Int.reduceNe, Int.reduceBEq, Int.reduceBNe, Int.reduceToNat, Int.reduceNeg]) rfl rfl ?_
  simp only [go_sem, Nat.reduceAdd, Nat.reduceMul, Nat.reduceSub, Nat.reduceEqDiff, Nat.reduceLT, Nat.reduceLeDiff, Nat.reduceBEq, reduceIte, reduceCtorEq, Int.reduceAdd, Int.reduceLT, Int.reduceLE, Int.reduceGT, Int.reduceGE, Int.reduceEq, Int.reduceNe, Int.reduceBEq, Int.reduceBNe, Int.reduceToNat, Int.reduceNeg]
  (repeat (with_reducible refine And.intro (by first | omega | (simp_all; done) | grind) ?_)); refine callO_pure (cv) b_farandoleref51_Valid (fun h => by first | exact h | (simp only [h, Bool.and_self, Bool.and_true])) (fun _ => by first | exact ⟨matchA_refl, trivial⟩ | exact ⟨matchA_refl, matchA_refl, trivial⟩ | exact ⟨matchA_refl, matchA_refl, matchA_refl, trivial⟩ | simp only [encPk, encQ, go_sem, Nat.reduceAdd, Nat.reduceMul, Nat.reduceSub, Nat.reduceEqDiff, Nat.reduceLT, Nat.reduceLeDiff, Nat.reduceBEq, reduceIte, reduceCtorEq, Int.reduceAdd, Int.reduceLT, Int.reduceLE, Int.reduceGT, Int.reduceGE, Int.reduceEq, Int.reduceNe, Int.reduceBEq, Int.reduceBNe, Int.reduceToNat, Int.reduceNeg]) (by simp only [go_sem, Nat.reduceAdd, Nat.reduceMul, Nat.reduceSub, Nat.reduceEqDiff, Nat.reduceLT, Nat.reduceLeDiff, Nat.reduceBEq, reduceIte, reduceCtorEq, Int.reduceAdd, Int.reduceLT, Int.reduceLE, Int.reduceGT, Int.reduceGE, Int.reduceEq, Int.reduceNe, Int.reduceBEq, Int.reduceBNe, Int.reduceToNat, Int.reduceNeg]) rfl rfl ?_
  simp only [go_sem, Nat.reduceAdd, Nat.reduceMul, Nat.reduceSub, Nat.reduceEqDiff, Nat.reduceLT, Nat.reduceLeDiff, Nat.reduceBEq, reduceIte, reduceCtorEq, Int.reduceAdd, Int.reduceLT, Int.reduceLE, Int.reduceGT, Int.reduceGE, Int.reduceEq, Int.reduceNe, Int.reduceBEq, Int.reduceBNe, Int.reduceToNat, Int.reduceNeg]
  (repeat (with_reducible refine And.intro (by first | omega | (simp_all; done) | grind) ?_)); refine callO_pure (to51_ok a ha.1) b_farandolelaw51_To (fun h => by first | exact h | (simp only [h, Bool.and_self, Bool.and_true])) (fun _ => by first | exact ⟨matchA_refl, trivial⟩ | exact ⟨matchA_refl, matchA_refl, trivial⟩ | exact ⟨matchA_refl, matchA_refl, matchA_refl, trivial⟩ | simp only [encPk, encQ, go_sem, Nat.reduceAdd, Nat.reduceMul, Nat.reduceSub, Nat.reduceEqDiff, Nat.reduceLT, Nat.reduceLeDiff, Nat.reduceBEq, reduceIte, reduceCtorEq, Int.reduceAdd, Int.reduceLT, Int.reduceLE, Int.reduceGT, Int.reduceGE, Int.reduceEq, Int.reduceNe, Int.reduceBEq, Int.reduceBNe, Int.reduceToNat, Int.reduceNeg]) (by simp only [go_sem, Nat.reduceAdd, Nat.reduceMul, Nat.reduceSub, Nat.reduceEqDiff, Nat.reduceLT, Nat.reduceLeDiff, Nat.reduceBEq, reduceIte, reduceCtorEq, Int.reduceAdd, Int.reduceLT, Int.reduceLE, Int.reduceGT, Int.reduceGE, Int.reduceEq, Int.reduceNe, Int.reduceBEq, Int.reduceBNe, Int.reduceToNat, Int.reduceNeg]) rfl rfl ?_
  simp only [go_sem, Nat.reduceAdd, Nat.reduceMul, Nat.reduceSub, Nat.reduceEqDiff, Nat.reduceLT, Nat.reduceLeDiff, Nat.reduceBEq, reduceIte, reduceCtorEq, Int.reduceAdd, Int.reduceLT, Int.reduceLE, Int.reduceGT, Int.reduceGE, Int.reduceEq, Int.reduceNe, Int.reduceBEq, Int.reduceBNe, Int.reduceToNat, Int.reduceNeg]
  (repeat (with_reducible refine And.intro (by first | omega | (simp_all; done) | grind) ?_)); refine callO_pure (to51_ok b hb.1) b_farandolelaw51_To (fun h => by first | exact h | (simp only [h, Bool.and_self, Bool.and_true])) (fun _ => by first | exact ⟨matchA_refl, trivial⟩ | exact ⟨matchA_refl, matchA_refl, trivial⟩ | exact ⟨matchA_refl, matchA_refl, matchA_refl, trivial⟩ | simp only [encPk, encQ, go_sem, Nat.reduceAdd, Nat.reduceMul, Nat.reduceSub, Nat.reduceEqDiff, Nat.reduceLT, Nat.reduceLeDiff, Nat.reduceBEq, reduceIte, reduceCtorEq, Int.reduceAdd, Int.reduceLT, Int.reduceLE, Int.reduceGT, Int.reduceGE, Int.reduceEq, Int.reduceNe, Int.reduceBEq, Int.reduceBNe, Int.reduceToNat, Int.reduceNeg]) (by simp only [go_sem, Nat.reduceAdd, Nat.reduceMul, Nat.reduceSub, Nat.reduceEqDiff, Nat.reduceLT, Nat.reduceLeDiff, Nat.reduceBEq, reduceIte, reduceCtorEq, Int.reduceAdd, Int.reduceLT, Int.reduceLE, Int.reduceGT, Int.reduceGE, Int.reduceEq, Int.reduceNe, Int.reduceBEq, Int.reduceBNe, Int.reduceToNat, Int.reduceNeg]) rfl rfl ?_
  simp only [go_sem, Nat.reduceAdd, Nat.reduceMul, Nat.reduceSub, Nat.reduceEqDiff, Nat.reduceLT, Nat.reduceLeDiff, Nat.reduceBEq, reduceIte, reduceCtorEq, Int.reduceAdd, Int.reduceLT, Int.reduceLE, Int.reduceGT, Int.reduceGE, Int.reduceEq, Int.reduceNe, Int.reduceBEq, Int.reduceBNe, Int.reduceToNat, Int.reduceNeg]
  (repeat (with_reducible refine And.intro (by first | omega | (simp_all; done) | grind) ?_)); refine callO_pure (qEqual_ok a b ha) b_queue_Equal (fun h => by first | exact h | (simp only [h, Bool.and_self, Bool.and_true])) (fun _ => by first | exact ⟨matchA_refl, trivial⟩ | exact ⟨matchA_refl, matchA_refl, trivial⟩ | exact ⟨matchA_refl, matchA_refl, matchA_refl, trivial⟩ | simp only [encPk, encQ, go_sem, Nat.reduceAdd, Nat.reduceMul, Nat.reduceSub, Nat.reduceEqDiff, Nat.reduceLT, Nat.reduceLeDiff, Nat.reduceBEq, reduceIte, reduceCtorEq, Int.reduceAdd, Int.reduceLT, Int.reduceLE, Int.reduceGT, Int.reduceGE, Int.reduceEq, Int.reduceNe, Int.reduceBEq, Int.reduceBNe, Int.reduceToNat, Int.reduceNeg]) (by simp only [go_sem, Nat.reduceAdd, Nat.reduceMul, Nat.reduceSub, Nat.reduceEqDiff, Nat.reduceLT, Nat.reduceLeDiff, Nat.reduceBEq, reduceIte, reduceCtorEq, Int.reduceAdd, Int.reduceLT, Int.reduceLE, Int.reduceGT, Int.reduceGE, Int.reduceEq, Int.reduceNe, Int.reduceBEq, Int.reduceBNe, Int.reduceToNat, Int.reduceNeg]) rfl rfl ?_
  simp only [go_sem, Nat.reduceAdd, Nat.reduceMul, Nat.reduceSub, Nat.reduceEqDiff, Nat.reduceLT, Nat.reduceLeDiff, Nat.reduceBEq, reduceIte, reduceCtorEq, Int.reduceAdd, Int.reduceLT, Int.reduceLE, Int.reduceGT, Int.reduceGE, Int.reduceEq, Int.reduceNe, Int.reduceBEq, Int.reduceBNe, Int.reduceToNat, Int.reduceNeg]
  (repeat (with_reducible refine And.intro (by first | omega | (simp_all; done) | grind) ?_)); refine callO_pure (equal51_ok a b ha) b_farandoleref51_Equal (fun h => by first | exact h | (simp only [h, Bool.and_self, Bool.and_true])) (fun _ => by first | exact ⟨matchA_refl, trivial⟩ | exact ⟨matchA_refl, matchA_refl, trivial⟩ | exact ⟨matchA_refl, matchA_refl, matchA_refl, trivial⟩ | simp only [encPk, encQ, go_sem, Nat.reduceAdd, Nat.reduceMul, Nat.reduceSub, Nat.reduceEqDiff, Nat.reduceLT, Nat.reduceLeDiff, Nat.reduceBEq, reduceIte, reduceCtorEq, Int.reduceAdd, Int.reduceLT, Int.reduceLE, Int.reduceGT, Int.reduceGE, Int.reduceEq, Int.reduceNe, Int.reduceBEq, Int.reduceBNe, Int.reduceToNat, Int.reduceNeg]) (by simp only [go_sem, Nat.reduceAdd, Nat.reduceMul, Nat.reduceSub, Nat.reduceEqDiff, Nat.reduceLT, Nat.reduceLeDiff, Nat.reduceBEq, reduceIte, reduceCtorEq, Int.reduceAdd, Int.reduceLT, Int.reduceLE, Int.reduceGT, Int.reduceGE, Int.reduceEq, Int.reduceNe, Int.reduceBEq, Int.reduceBNe, Int.reduceToNat, Int.reduceNeg]) rfl rfl ?_
  simp only [go_sem, Nat.reduceAdd, Nat.reduceMul, Nat.reduceSub, Nat.reduceEqDiff, Nat.reduceLT, Nat.reduceLeDiff, Nat.reduceBEq, reduceIte, reduceCtorEq, Int.reduceAdd, Int.reduceLT, Int.reduceLE, Int.reduceGT, Int.reduceGE, Int.reduceEq, Int.reduceNe, Int.reduceBEq, Int.reduceBNe, Int.reduceToNat, Int.reduceNeg]
  (repeat (with_reducible refine And.intro (by first | omega | (simp_all; done) | grind) ?_)); refine AWp_cond _ rfl rfl (fun h => ?_) (fun h => ?_)
  · simp at h
  simp only [go_sem, Nat.reduceAdd, Nat.reduceMul, Nat.reduceSub, Nat.reduceEqDiff, Nat.reduceLT, Nat.reduceLeDiff, Nat.reduceBEq, reduceIte, reduceCtorEq, Int.reduceAdd, Int.reduceLT, Int.reduceLE, Int.reduceGT, Int.reduceGE, Int.reduceEq, Int.reduceNe, Int.reduceBEq, Int.reduceBNe, Int.reduceToNat, Int.reduceNeg]
  rcases Nat.eq_zero_or_pos a.items.length with h0 | h0
  · have hn : a.items = [] := List.eq_nil_of_length_eq_zero h0
    have hfst : qFirst a = (⟨0, 0, 0, 0, 0, 0, 0, [], []⟩, false) := by simp only [qFirst, hn]; rfl
    have ce := pkEqual_ok ⟨0, 0, 0, 0, 0, 0, 0, [], []⟩ ⟨0, 0, 0, 0, 0, 0, 0, [], []⟩ (Nat.zero_le _) (Nat.zero_le _)
    simp only [decide_true] at ce
    simp only [hn, hfst, List.map_nil, go_sem, Nat.reduceAdd, Nat.reduceMul, Nat.reduceSub, Nat.reduceEqDiff, Nat.reduceLT, Nat.reduceLeDiff, Nat.reduceBEq, reduceIte, reduceCtorEq, Int.reduceAdd, Int.reduceLT, Int.reduceLE, Int.reduceGT, Int.reduceGE, Int.reduceEq, Int.reduceNe, Int.reduceBEq, Int.reduceBNe, Int.reduceToNat, Int.reduceNeg]
    (repeat (with_reducible refine And.intro (by first | omega | (simp_all; done) | grind) ?_)); refine AWp_cond _ rfl rfl (fun h => ?_) (fun h => ?_)
    · simp only [encPk, List.map_nil, go_sem, Nat.reduceAdd, Nat.reduceMul, Nat.reduceSub, Nat.reduceEqDiff, Nat.reduceLT, Nat.reduceLeDiff, Nat.reduceBEq, reduceIte, reduceCtorEq, Int.reduceAdd, Int.reduceLT, Int.reduceLE, Int.reduceGT, Int.reduceGE, Int.reduceEq, Int.reduceNe, Int.reduceBEq, Int.reduceBNe, Int.reduceToNat, Int.reduceNeg]
      (repeat (with_reducible refine And.intro (by first | omega | (simp_all; done) | grind) ?_)); refine callO_pure (ce) b_packet_Equal (fun h => by first | exact h | (simp only [h, Bool.and_self, Bool.and_true])) (fun _ => by first | exact ⟨matchA_refl, trivial⟩ | exact ⟨matchA_refl, matchA_refl, trivial⟩ | exact ⟨matchA_refl, matchA_refl, matchA_refl, trivial⟩ | simp only [encPk, encQ, go_sem, Nat.reduceAdd, Nat.reduceMul, Nat.reduceSub, Nat.reduceEqDiff, Nat.reduceLT, Nat.reduceLeDiff, Nat.reduceBEq, reduceIte, reduceCtorEq, Int.reduceAdd, Int.reduceLT, Int.reduceLE, Int.reduceGT, Int.reduceGE, Int.reduceEq, Int.reduceNe, Int.reduceBEq, Int.reduceBNe, Int.reduceToNat, Int.reduceNeg]) (by simp only [go_sem, Nat.reduceAdd, Nat.reduceMul, Nat.reduceSub, Nat.reduceEqDiff, Nat.reduceLT, Nat.reduceLeDiff, Nat.reduceBEq, reduceIte, reduceCtorEq, Int.reduceAdd, Int.reduceLT, Int.reduceLE, Int.reduceGT, Int.reduceGE, Int.reduceEq, Int.reduceNe, Int.reduceBEq, Int.reduceBNe, Int.reduceToNat, Int.reduceNeg]) rfl rfl ?_
      simp only [go_sem, Nat.reduceAdd, Nat.reduceMul, Nat.reduceSub, Nat.reduceEqDiff, Nat.reduceLT, Nat.reduceLeDiff, Nat.reduceBEq, reduceIte, reduceCtorEq, Int.reduceAdd, Int.reduceLT, Int.reduceLE, Int.reduceGT, Int.reduceGE, Int.reduceEq, Int.reduceNe, Int.reduceBEq, Int.reduceBNe, Int.reduceToNat, Int.reduceNeg]
    · simp at h
  · obtain ⟨x, l, hn⟩ : ∃ x l, a.items = x :: l := by
      cases hi : a.items with
      | nil => simp [hi] at h0
      | cons x l => exact ⟨x, l, rfl⟩
    have hfst : qFirst a = (x, true) := by simp [qFirst, hn]
    have hx : x.Sm := ha.2 x (by simp [hn])
    have ce := pkEqual_ok x x hx.v hx.c
    simp only [decide_true] at ce
    simp only [hn, hfst, go_sem, Nat.reduceAdd, Nat.reduceMul, Nat.reduceSub, Nat.reduceEqDiff, Nat.reduceLT, Nat.reduceLeDiff, Nat.reduceBEq, reduceIte, reduceCtorEq, Int.reduceAdd, Int.reduceLT, Int.reduceLE, Int.reduceGT, Int.reduceGE, Int.reduceEq, Int.reduceNe, Int.reduceBEq, Int.reduceBNe, Int.reduceToNat, Int.reduceNeg]
    (repeat (with_reducible refine And.intro (by first | omega | (simp_all; done) | grind) ?_)); refine AWp_cond _ rfl rfl (fun h => ?_) (fun h => ?_)
    · simp at h; omega
    · simp only [encPk, go_sem, Nat.reduceAdd, Nat.reduceMul, Nat.reduceSub, Nat.reduceEqDiff, Nat.reduceLT, Nat.reduceLeDiff, Nat.reduceBEq, reduceIte, reduceCtorEq, Int.reduceAdd, Int.reduceLT, Int.reduceLE, Int.reduceGT, Int.reduceGE, Int.reduceEq, Int.reduceNe, Int.reduceBEq, Int.reduceBNe, Int.reduceToNat, Int.reduceNeg]
      (repeat (with_reducible refine And.intro (by first | omega | (simp_all; done) | grind) ?_)); refine callO_pure (ce) b_packet_Equal (fun h => by first | exact h | (simp only [h, Bool.and_self, Bool.and_true])) (fun _ => by first | exact ⟨matchA_refl, trivial⟩ | exact ⟨matchA_refl, matchA_refl, trivial⟩ | exact ⟨matchA_refl, matchA_refl, matchA_refl, trivial⟩ | simp only [encPk, encQ, go_sem, Nat.reduceAdd, Nat.reduceMul, Nat.reduceSub, Nat.reduceEqDiff, Nat.reduceLT, Nat.reduceLeDiff, Nat.reduceBEq, reduceIte, reduceCtorEq, Int.reduceAdd, Int.reduceLT, Int.reduceLE, Int.reduceGT, Int.reduceGE, Int.reduceEq, Int.reduceNe, Int.reduceBEq, Int.reduceBNe, Int.reduceToNat, Int.reduceNeg]) (by simp only [go_sem, Nat.reduceAdd, Nat.reduceMul, Nat.reduceSub, Nat.reduceEqDiff, Nat.reduceLT, Nat.reduceLeDiff, Nat.reduceBEq, reduceIte, reduceCtorEq, Int.reduceAdd, Int.reduceLT, Int.reduceLE, Int.reduceGT, Int.reduceGE, Int.reduceEq, Int.reduceNe, Int.reduceBEq, Int.reduceBNe, Int.reduceToNat, Int.reduceNeg]) rfl rfl ?_
      simp only [go_sem, Nat.reduceAdd, Nat.reduceMul, Nat.reduceSub, Nat.reduceEqDiff, Nat.reduceLT, Nat.reduceLeDiff, Nat.reduceBEq, reduceIte, reduceCtorEq, Int.reduceAdd, Int.reduceLT, Int.reduceLE, Int.reduceGT, Int.reduceGE, Int.reduceEq, Int.reduceNe, Int.reduceBEq, Int.reduceBNe, Int.reduceToNat, Int.reduceNeg]
end Go.Proofs.Ythcpckcgjplhiaa
