/- Layer 51's example. -/
import Derived.Test.YthcpckcgjplhiaaCj
namespace Go.Proofs.Ythcpckcgjplhiaa
open Go.Abs
set_option linter.unusedSimpArgs false
-- ENC encPk encQ

theorem off1 : qOffer ⟨0, 0, []⟩ (msg 1) = (⟨1, 0, [msg 1]⟩, 0) := by decide
theorem off2 : qOffer ⟨1, 0, [msg 1]⟩ (msg 1) = (qEmpty, 21) := by decide
theorem off3 : qOffer ⟨1, 0, [msg 1]⟩ (msg 3) = (qEmpty, 22) := by decide
theorem sm0 : (⟨0, 0, []⟩ : Qu).Sm := ⟨Nat.zero_le _, by simp⟩
theorem sm1 : (⟨1, 0, [msg 1]⟩ : Qu).Sm := ⟨by simp, by simp; exact msg_sm 1⟩

noncomputable def s_farandolelaw51_awake_r0 : List SOper := [
  ⟨(some 0), .mov (.k (.d (.bool false))), none⟩]
noncomputable def s_farandolelaw51_awake_r1 : List SOper := [
  ⟨(some 10), .build [(.int .i64 0), (.int .i64 0), .nilsl] [], none⟩,
  ⟨(some 11), .call (.k (.d (.func (.func 34) [] []))) [(.k (.d (.int .i64 1)))], none⟩,
  ⟨(some 12), .call (.k (.d (.func (.func 33) [] []))) [(.t 10), (.t 11)], none⟩,
  ⟨(some 9), .mov (.t 12), none⟩,
  ⟨(some 13), .extract 0 (.t 9), none⟩,
  ⟨(some 14), .extract 1 (.t 9), none⟩,
  ⟨(some 1), .alloc 1 [(.d (.int .i64 0)), (.d (.int .i64 0)), (.d .nilsl)], none⟩,
  ⟨none, .store (some 3) (.t 1) (.t 13), none⟩,
  ⟨(some 2), .mov (.t 14), none⟩]
noncomputable def s_farandolelaw51_awake_r2 : List SOper := [
  ⟨(some 16), .load (some 3) (.t 1), none⟩,
  ⟨(some 17), .call (.k (.d (.func (.func 34) [] []))) [(.k (.d (.int .i64 1)))], none⟩,
  ⟨(some 18), .call (.k (.d (.func (.func 33) [] []))) [(.t 16), (.t 17)], none⟩,
  ⟨(some 15), .mov (.t 18), none⟩,
  ⟨(some 19), .extract 0 (.t 15), none⟩,
  ⟨(some 20), .extract 1 (.t 15), none⟩,
  ⟨(some 3), .alloc 1 [(.d (.int .i64 0)), (.d (.int .i64 0)), (.d .nilsl)], none⟩,
  ⟨none, .store (some 3) (.t 3) (.t 19), none⟩,
  ⟨(some 4), .mov (.t 20), none⟩]
noncomputable def s_farandolelaw51_awake_r3 : List SOper := [
  ⟨(some 22), .load (some 3) (.t 1), none⟩,
  ⟨(some 23), .call (.k (.d (.func (.func 34) [] []))) [(.k (.d (.int .i64 3)))], none⟩,
  ⟨(some 24), .call (.k (.d (.func (.func 33) [] []))) [(.t 22), (.t 23)], none⟩,
  ⟨(some 21), .mov (.t 24), none⟩,
  ⟨(some 25), .extract 0 (.t 21), none⟩,
  ⟨(some 26), .extract 1 (.t 21), none⟩,
  ⟨(some 5), .alloc 1 [(.d (.int .i64 0)), (.d (.int .i64 0)), (.d .nilsl)], none⟩,
  ⟨none, .store (some 3) (.t 5) (.t 25), none⟩,
  ⟨(some 6), .mov (.t 26), none⟩]
noncomputable def s_farandolelaw51_awake_r4 : List SOper := [
  ⟨(some 28), .load (some 3) (.t 1), none⟩,
  ⟨(some 29), .call (.k (.d (.func (.func 35) [] []))) [(.t 28)], none⟩,
  ⟨(some 27), .mov (.t 29), none⟩,
  ⟨(some 30), .extract 0 (.t 27), none⟩,
  ⟨(some 31), .extract 1 (.t 27), none⟩,
  ⟨(some 7), .alloc 1 [(.d (.int .i64 0)), (.d (.int .i64 0)), (.d (.int .i64 0)), (.d (.int .i64 0)), (.d (.int .i64 0)), (.d (.int .i64 0)), (.d (.int .i64 0)), (.d .nilsl), (.d .nilsl)], none⟩,
  ⟨none, .store (some 9) (.t 7) (.t 30), none⟩,
  ⟨(some 8), .mov (.t 31), none⟩]
noncomputable def s_farandolelaw51_awake_r5 : List SOper := [
  ⟨(some 32), .mov (.t 2), none⟩,
  ⟨(some 33), .bin .eql (.t 32) (.k (.d (.int .i64 0))), none⟩,
  ⟨(some 34), .mov (.t 33), none⟩,
  ⟨(some 35), .mov (.t 4), (some (34, true))⟩,
  ⟨(some 36), .bin .eql (.t 35) (.k (.d (.int .i64 21))), (some (34, true))⟩,
  ⟨(some 37), .pick (.t 34) (.t 36) (.k (.d (.bool false))), none⟩,
  ⟨(some 38), .mov (.t 37), none⟩,
  ⟨(some 39), .mov (.t 6), (some (38, true))⟩,
  ⟨(some 40), .bin .eql (.t 39) (.k (.d (.int .i64 22))), (some (38, true))⟩,
  ⟨(some 41), .pick (.t 38) (.t 40) (.k (.d (.bool false))), none⟩,
  ⟨(some 42), .mov (.t 41), none⟩,
  ⟨(some 43), .mov (.t 8), (some (42, true))⟩,
  ⟨(some 44), .pick (.t 42) (.t 43) (.k (.d (.bool false))), none⟩,
  ⟨(some 45), .mov (.t 44), none⟩,
  ⟨(some 46), .load (some 9) (.t 7), (some (45, true))⟩,
  ⟨(some 47), .call (.k (.d (.func (.func 34) [] []))) [(.k (.d (.int .i64 1)))], (some (45, true))⟩,
  ⟨(some 48), .call (.k (.d (.func (.func 36) [] []))) [(.t 46), (.t 47)], (some (45, true))⟩,
  ⟨(some 49), .pick (.t 45) (.t 48) (.k (.d (.bool false))), none⟩,
  ⟨(some 0), .mov (.t 49), none⟩]
noncomputable def s_farandolelaw51_awake : SCode := (.seq (.region s_farandolelaw51_awake_r0 0 []) (.seq (.region s_farandolelaw51_awake_r1 1 []) (.seq (.region s_farandolelaw51_awake_r2 1 [(0, 1), (0, 6), (1, 6), (2, 6)]) (.seq (.region s_farandolelaw51_awake_r3 1 [(0, 1), (0, 6), (1, 6), (2, 6)]) (.seq (.region s_farandolelaw51_awake_r4 1 []) (.seq (.region s_farandolelaw51_awake_r5 0 [(14, 15)]) .ret))))))
theorem e_farandolelaw51_awake {P : Program} {k0 : Nat} {Q : SExit → St → Prop} {st : St} : AWp P k0 s_farandolelaw51_awake Q st = AWp P k0 (.seq (.region s_farandolelaw51_awake_r0 0 []) (.seq (.region s_farandolelaw51_awake_r1 1 []) (.seq (.region s_farandolelaw51_awake_r2 1 [(0, 1), (0, 6), (1, 6), (2, 6)]) (.seq (.region s_farandolelaw51_awake_r3 1 [(0, 1), (0, 6), (1, 6), (2, 6)]) (.seq (.region s_farandolelaw51_awake_r4 1 []) (.seq (.region s_farandolelaw51_awake_r5 0 [(14, 15)]) .ret)))))) Q st := rfl
theorem u_farandolelaw51_awake_r0 {P : Program} {o : Nat} {p : List (Nat × Nat)} {Q : SExit → St → Prop} {st : St} : goReg P s_farandolelaw51_awake_r0 o p Q st = goLit P (litOf s_farandolelaw51_awake_r0.eq_1) o p Q st := goReg_of _
theorem u_farandolelaw51_awake_r1 {P : Program} {o : Nat} {p : List (Nat × Nat)} {Q : SExit → St → Prop} {st : St} : goReg P s_farandolelaw51_awake_r1 o p Q st = goLit P (litOf s_farandolelaw51_awake_r1.eq_1) o p Q st := goReg_of _
theorem u_farandolelaw51_awake_r2 {P : Program} {o : Nat} {p : List (Nat × Nat)} {Q : SExit → St → Prop} {st : St} : goReg P s_farandolelaw51_awake_r2 o p Q st = goLit P (litOf s_farandolelaw51_awake_r2.eq_1) o p Q st := goReg_of _
theorem u_farandolelaw51_awake_r3 {P : Program} {o : Nat} {p : List (Nat × Nat)} {Q : SExit → St → Prop} {st : St} : goReg P s_farandolelaw51_awake_r3 o p Q st = goLit P (litOf s_farandolelaw51_awake_r3.eq_1) o p Q st := goReg_of _
theorem u_farandolelaw51_awake_r4 {P : Program} {o : Nat} {p : List (Nat × Nat)} {Q : SExit → St → Prop} {st : St} : goReg P s_farandolelaw51_awake_r4 o p Q st = goLit P (litOf s_farandolelaw51_awake_r4.eq_1) o p Q st := goReg_of _
theorem u_farandolelaw51_awake_r5 {P : Program} {o : Nat} {p : List (Nat × Nat)} {Q : SExit → St → Prop} {st : St} : goReg P s_farandolelaw51_awake_r5 o p Q st = goLit P (litOf s_farandolelaw51_awake_r5.eq_1) o p Q st := goReg_of _
attribute [go_sem] u_farandolelaw51_awake_r0 u_farandolelaw51_awake_r1 u_farandolelaw51_awake_r2 u_farandolelaw51_awake_r3 u_farandolelaw51_awake_r4 u_farandolelaw51_awake_r5 e_farandolelaw51_awake
set_option maxRecDepth 100000 in
theorem c_farandolelaw51_awake : Try.f25.body.bind (compCode Try.prog Try.f25.ntmps news) = some s_farandolelaw51_awake := by kernel_rfl
theorem r_farandolelaw51_awake : Try.f25.results.toList.mapM (compRes Try.prog) = some [(.tmp 0)] := by kernel_rfl
theorem n_farandolelaw51_awake : Try.f25.ntmps = 50 := by kernel_rfl
theorem b_farandolelaw51_awake : (Try.prog.funcs[25]?).any (fun fn => fn.body.isSome && !(fn.name == "runtime.NumGoroutine")) = true := by kernel_rfl
theorem ko_farandolelaw51_awake {args : List ASlot} {r : ASlot} {objs objs' : List AObj} (h : AWp Try.prog objs.length s_farandolelaw51_awake (bodyQ objs.length [(.tmp 0)] [r] objs') (entrySt args objs)) (hN : args.length ≤ 50 := by simp) (hw : ltB 16 (toksOf args ++ osToks objs) = true := by rfl) : ACall Try.prog 25 args objs r objs' :=
  acall_go (rs := [r]) follows Try.func25 c_farandolelaw51_awake r_farandolelaw51_awake h (by rw [n_farandolelaw51_awake]; exact hN) rfl hw
theorem k_farandolelaw51_awake {args : List ASlot} {r : ASlot} (h : AWp Try.prog 0 s_farandolelaw51_awake (bodyQ 0 [(.tmp 0)] [r] []) (entrySt args [])) (hN : args.length ≤ 50 := by simp) (hw : ltB 16 (toksOf args ++ osToks []) = true := by rfl) : ACall Try.prog 25 args [] r [] := ko_farandolelaw51_awake h hN hw



set_option maxRecDepth 10000 in
theorem awake51_ok : ACall Try.prog 25 [] [] (.d (.bool true)) [] := by
  have c1 := qOffer_ok ⟨0, 0, []⟩ (msg 1) sm0 (msg_sm 1)
  have c2 := qOffer_ok ⟨1, 0, [msg 1]⟩ (msg 1) sm1 (msg_sm 1)
  have c3 := qOffer_ok ⟨1, 0, [msg 1]⟩ (msg 3) sm1 (msg_sm 3)
  have c4 := qFirst_ok ⟨1, 0, [msg 1]⟩ sm1
  have c5 := pkEqual_ok (msg 1) (msg 1) (msg_sm 1).v (msg_sm 1).c
  rw [off1] at c1
  rw [off2] at c2
  rw [off3] at c3
  simp only [decide_true] at c5
  refine k_farandolelaw51_awake ?_
  simp only [e_farandolelaw51_awake, go_sem, Nat.reduceAdd, Nat.reduceMul, Nat.reduceSub, Nat.reduceEqDiff, Nat.reduceLT, Nat.reduceLeDiff, Nat.reduceBEq, reduceIte, reduceCtorEq, Int.reduceAdd, Int.reduceLT, Int.reduceLE, Int.reduceGT, Int.reduceGE, Int.reduceEq, Int.reduceNe, Int.reduceBEq, Int.reduceBNe, Int.reduceToNat, Int.reduceNeg]
  (repeat (with_reducible refine And.intro (by first | omega | (simp_all; done) | grind) ?_)); refine callO_pure (msg_ok 1) b_farandolelaw51_message (fun h => by first | exact h | (simp only [h, Bool.and_self, Bool.and_true])) (fun _ => by first | exact ⟨matchA_refl, trivial⟩ | exact ⟨matchA_refl, matchA_refl, trivial⟩ | exact ⟨matchA_refl, matchA_refl, matchA_refl, trivial⟩ | simp only [encPk, encQ, go_sem, Nat.reduceAdd, Nat.reduceMul, Nat.reduceSub, Nat.reduceEqDiff, Nat.reduceLT, Nat.reduceLeDiff, Nat.reduceBEq, reduceIte, reduceCtorEq, Int.reduceAdd, Int.reduceLT, Int.reduceLE, Int.reduceGT, Int.reduceGE, Int.reduceEq, Int.reduceNe, Int.reduceBEq, Int.reduceBNe, Int.reduceToNat, Int.reduceNeg]) (by simp only [go_sem, Nat.reduceAdd, Nat.reduceMul, Nat.reduceSub, Nat.reduceEqDiff, Nat.reduceLT, Nat.reduceLeDiff, Nat.reduceBEq, reduceIte, reduceCtorEq, Int.reduceAdd, Int.reduceLT, Int.reduceLE, Int.reduceGT, Int.reduceGE, Int.reduceEq, Int.reduceNe, Int.reduceBEq, Int.reduceBNe, Int.reduceToNat, Int.reduceNeg]) rfl rfl ?_
  try simp only [go_sem, Nat.reduceAdd, Nat.reduceMul, Nat.reduceSub, Nat.reduceEqDiff, Nat.reduceLT, Nat.reduceLeDiff, Nat.reduceBEq, reduceIte, reduceCtorEq, Int.reduceAdd, Int.reduceLT, Int.reduceLE, Int.reduceGT, Int.reduceGE, Int.reduceEq, Int.reduceNe, Int.reduceBEq, Int.reduceBNe, Int.reduceToNat, Int.reduceNeg]
  (repeat (with_reducible refine And.intro (by first | omega | (simp_all; done) | grind) ?_)); refine callO_pure (c1) b_queue_Offer (fun h => by first | exact h | (simp only [h, Bool.and_self, Bool.and_true])) (fun _ => by first | exact ⟨matchA_refl, trivial⟩ | exact ⟨matchA_refl, matchA_refl, trivial⟩ | exact ⟨matchA_refl, matchA_refl, matchA_refl, trivial⟩ | simp only [encPk, encQ, go_sem, Nat.reduceAdd, Nat.reduceMul, Nat.reduceSub, Nat.reduceEqDiff, Nat.reduceLT, Nat.reduceLeDiff, Nat.reduceBEq, reduceIte, reduceCtorEq, Int.reduceAdd, Int.reduceLT, Int.reduceLE, Int.reduceGT, Int.reduceGE, Int.reduceEq, Int.reduceNe, Int.reduceBEq, Int.reduceBNe, Int.reduceToNat, Int.reduceNeg]) (by simp only [go_sem, Nat.reduceAdd, Nat.reduceMul, Nat.reduceSub, Nat.reduceEqDiff, Nat.reduceLT, Nat.reduceLeDiff, Nat.reduceBEq, reduceIte, reduceCtorEq, Int.reduceAdd, Int.reduceLT, Int.reduceLE, Int.reduceGT, Int.reduceGE, Int.reduceEq, Int.reduceNe, Int.reduceBEq, Int.reduceBNe, Int.reduceToNat, Int.reduceNeg]) rfl rfl ?_
  simp only [encQ, go_sem, Nat.reduceAdd, Nat.reduceMul, Nat.reduceSub, Nat.reduceEqDiff, Nat.reduceLT, Nat.reduceLeDiff, Nat.reduceBEq, reduceIte, reduceCtorEq, Int.reduceAdd, Int.reduceLT, Int.reduceLE, Int.reduceGT, Int.reduceGE, Int.reduceEq, Int.reduceNe, Int.reduceBEq, Int.reduceBNe, Int.reduceToNat, Int.reduceNeg]
  (repeat (with_reducible refine And.intro (by first | omega | (simp_all; done) | grind) ?_)); refine callO_pure (msg_ok 1) b_farandolelaw51_message (fun h => by first | exact h | (simp only [h, Bool.and_self, Bool.and_true])) (fun _ => by first | exact ⟨matchA_refl, trivial⟩ | exact ⟨matchA_refl, matchA_refl, trivial⟩ | exact ⟨matchA_refl, matchA_refl, matchA_refl, trivial⟩ | simp only [encPk, encQ, go_sem, Nat.reduceAdd, Nat.reduceMul, Nat.reduceSub, Nat.reduceEqDiff, Nat.reduceLT, Nat.reduceLeDiff, Nat.reduceBEq, reduceIte, reduceCtorEq, Int.reduceAdd, Int.reduceLT, Int.reduceLE, Int.reduceGT, Int.reduceGE, Int.reduceEq, Int.reduceNe, Int.reduceBEq, Int.reduceBNe, Int.reduceToNat, Int.reduceNeg]) (by simp only [go_sem, Nat.reduceAdd, Nat.reduceMul, Nat.reduceSub, Nat.reduceEqDiff, Nat.reduceLT, Nat.reduceLeDiff, Nat.reduceBEq, reduceIte, reduceCtorEq, Int.reduceAdd, Int.reduceLT, Int.reduceLE, Int.reduceGT, Int.reduceGE, Int.reduceEq, Int.reduceNe, Int.reduceBEq, Int.reduceBNe, Int.reduceToNat, Int.reduceNeg]) rfl rfl ?_
  try simp only [go_sem, Nat.reduceAdd, Nat.reduceMul, Nat.reduceSub, Nat.reduceEqDiff, Nat.reduceLT, Nat.reduceLeDiff, Nat.reduceBEq, reduceIte, reduceCtorEq, Int.reduceAdd, Int.reduceLT, Int.reduceLE, Int.reduceGT, Int.reduceGE, Int.reduceEq, Int.reduceNe, Int.reduceBEq, Int.reduceBNe, Int.reduceToNat, Int.reduceNeg]
  (repeat (with_reducible refine And.intro (by first | omega | (simp_all; done) | grind) ?_)); refine callO_pure (c2) b_queue_Offer (fun h => by first | exact h | (simp only [h, Bool.and_self, Bool.and_true])) (fun _ => by first | exact ⟨matchA_refl, trivial⟩ | exact ⟨matchA_refl, matchA_refl, trivial⟩ | exact ⟨matchA_refl, matchA_refl, matchA_refl, trivial⟩ | simp only [encPk, encQ, go_sem, Nat.reduceAdd, Nat.reduceMul, Nat.reduceSub, Nat.reduceEqDiff, Nat.reduceLT, Nat.reduceLeDiff, Nat.reduceBEq, reduceIte, reduceCtorEq, Int.reduceAdd, Int.reduceLT, Int.reduceLE, Int.reduceGT, Int.reduceGE, Int.reduceEq, Int.reduceNe, Int.reduceBEq, Int.reduceBNe, Int.reduceToNat, Int.reduceNeg]) (by simp only [go_sem, Nat.reduceAdd, Nat.reduceMul, Nat.reduceSub, Nat.reduceEqDiff, Nat.reduceLT, Nat.reduceLeDiff, Nat.reduceBEq, reduceIte, reduceCtorEq, Int.reduceAdd, Int.reduceLT, Int.reduceLE, Int.reduceGT, Int.reduceGE, Int.reduceEq, Int.reduceNe, Int.reduceBEq, Int.reduceBNe, Int.reduceToNat, Int.reduceNeg]) rfl rfl ?_
  simp only [encQ, qEmpty, go_sem, Nat.reduceAdd, Nat.reduceMul, Nat.reduceSub, Nat.reduceEqDiff, Nat.reduceLT, Nat.reduceLeDiff, Nat.reduceBEq, reduceIte, reduceCtorEq, Int.reduceAdd, Int.reduceLT, Int.reduceLE, Int.reduceGT, Int.reduceGE, Int.reduceEq, Int.reduceNe, Int.reduceBEq, Int.reduceBNe, Int.reduceToNat, Int.reduceNeg]
  (repeat (with_reducible refine And.intro (by first | omega | (simp_all; done) | grind) ?_)); refine callO_pure (msg_ok 3) b_farandolelaw51_message (fun h => by first | exact h | (simp only [h, Bool.and_self, Bool.and_true])) (fun _ => by first | exact ⟨matchA_refl, trivial⟩ | exact ⟨matchA_refl, matchA_refl, trivial⟩ | exact ⟨matchA_refl, matchA_refl, matchA_refl, trivial⟩ | simp only [encPk, encQ, go_sem, Nat.reduceAdd, Nat.reduceMul, Nat.reduceSub, Nat.reduceEqDiff, Nat.reduceLT, Nat.reduceLeDiff, Nat.reduceBEq, reduceIte, reduceCtorEq, Int.reduceAdd, Int.reduceLT, Int.reduceLE, Int.reduceGT, Int.reduceGE, Int.reduceEq, Int.reduceNe, Int.reduceBEq, Int.reduceBNe, Int.reduceToNat, Int.reduceNeg]) (by simp only [go_sem, Nat.reduceAdd, Nat.reduceMul, Nat.reduceSub, Nat.reduceEqDiff, Nat.reduceLT, Nat.reduceLeDiff, Nat.reduceBEq, reduceIte, reduceCtorEq, Int.reduceAdd, Int.reduceLT, Int.reduceLE, Int.reduceGT, Int.reduceGE, Int.reduceEq, Int.reduceNe, Int.reduceBEq, Int.reduceBNe, Int.reduceToNat, Int.reduceNeg]) rfl rfl ?_
  try simp only [go_sem, Nat.reduceAdd, Nat.reduceMul, Nat.reduceSub, Nat.reduceEqDiff, Nat.reduceLT, Nat.reduceLeDiff, Nat.reduceBEq, reduceIte, reduceCtorEq, Int.reduceAdd, Int.reduceLT, Int.reduceLE, Int.reduceGT, Int.reduceGE, Int.reduceEq, Int.reduceNe, Int.reduceBEq, Int.reduceBNe, Int.reduceToNat, Int.reduceNeg]
  (repeat (with_reducible refine And.intro (by first | omega | (simp_all; done) | grind) ?_)); refine callO_pure (c3) b_queue_Offer (fun h => by first | exact h | (simp only [h, Bool.and_self, Bool.and_true])) (fun _ => by first | exact ⟨matchA_refl, trivial⟩ | exact ⟨matchA_refl, matchA_refl, trivial⟩ | exact ⟨matchA_refl, matchA_refl, matchA_refl, trivial⟩ | simp only [encPk, encQ, go_sem, Nat.reduceAdd, Nat.reduceMul, Nat.reduceSub, Nat.reduceEqDiff, Nat.reduceLT, Nat.reduceLeDiff, Nat.reduceBEq, reduceIte, reduceCtorEq, Int.reduceAdd, Int.reduceLT, Int.reduceLE, Int.reduceGT, Int.reduceGE, Int.reduceEq, Int.reduceNe, Int.reduceBEq, Int.reduceBNe, Int.reduceToNat, Int.reduceNeg]) (by simp only [go_sem, Nat.reduceAdd, Nat.reduceMul, Nat.reduceSub, Nat.reduceEqDiff, Nat.reduceLT, Nat.reduceLeDiff, Nat.reduceBEq, reduceIte, reduceCtorEq, Int.reduceAdd, Int.reduceLT, Int.reduceLE, Int.reduceGT, Int.reduceGE, Int.reduceEq, Int.reduceNe, Int.reduceBEq, Int.reduceBNe, Int.reduceToNat, Int.reduceNeg]) rfl rfl ?_
  simp only [encQ, qEmpty, go_sem, Nat.reduceAdd, Nat.reduceMul, Nat.reduceSub, Nat.reduceEqDiff, Nat.reduceLT, Nat.reduceLeDiff, Nat.reduceBEq, reduceIte, reduceCtorEq, Int.reduceAdd, Int.reduceLT, Int.reduceLE, Int.reduceGT, Int.reduceGE, Int.reduceEq, Int.reduceNe, Int.reduceBEq, Int.reduceBNe, Int.reduceToNat, Int.reduceNeg]
  (repeat (with_reducible refine And.intro (by first | omega | (simp_all; done) | grind) ?_)); refine callO_pure (c4) b_queue_First (fun h => by first | exact h | (simp only [h, Bool.and_self, Bool.and_true])) (fun _ => by first | exact ⟨matchA_refl, trivial⟩ | exact ⟨matchA_refl, matchA_refl, trivial⟩ | exact ⟨matchA_refl, matchA_refl, matchA_refl, trivial⟩ | simp only [encPk, encQ, go_sem, Nat.reduceAdd, Nat.reduceMul, Nat.reduceSub, Nat.reduceEqDiff, Nat.reduceLT, Nat.reduceLeDiff, Nat.reduceBEq, reduceIte, reduceCtorEq, Int.reduceAdd, Int.reduceLT, Int.reduceLE, Int.reduceGT, Int.reduceGE, Int.reduceEq, Int.reduceNe, Int.reduceBEq, Int.reduceBNe, Int.reduceToNat, Int.reduceNeg]) (by simp only [go_sem, Nat.reduceAdd, Nat.reduceMul, Nat.reduceSub, Nat.reduceEqDiff, Nat.reduceLT, Nat.reduceLeDiff, Nat.reduceBEq, reduceIte, reduceCtorEq, Int.reduceAdd, Int.reduceLT, Int.reduceLE, Int.reduceGT, Int.reduceGE, Int.reduceEq, Int.reduceNe, Int.reduceBEq, Int.reduceBNe, Int.reduceToNat, Int.reduceNeg]) rfl rfl ?_
  simp only [encPk, qFirst, go_sem, Nat.reduceAdd, Nat.reduceMul, Nat.reduceSub, Nat.reduceEqDiff, Nat.reduceLT, Nat.reduceLeDiff, Nat.reduceBEq, reduceIte, reduceCtorEq, Int.reduceAdd, Int.reduceLT, Int.reduceLE, Int.reduceGT, Int.reduceGE, Int.reduceEq, Int.reduceNe, Int.reduceBEq, Int.reduceBNe, Int.reduceToNat, Int.reduceNeg]
  (repeat (with_reducible refine And.intro (by first | omega | (simp_all; done) | grind) ?_)); refine callO_pure (msg_ok 1) b_farandolelaw51_message (fun h => by first | exact h | (simp only [h, Bool.and_self, Bool.and_true])) (fun _ => by first | exact ⟨matchA_refl, trivial⟩ | exact ⟨matchA_refl, matchA_refl, trivial⟩ | exact ⟨matchA_refl, matchA_refl, matchA_refl, trivial⟩ | simp only [encPk, encQ, go_sem, Nat.reduceAdd, Nat.reduceMul, Nat.reduceSub, Nat.reduceEqDiff, Nat.reduceLT, Nat.reduceLeDiff, Nat.reduceBEq, reduceIte, reduceCtorEq, Int.reduceAdd, Int.reduceLT, Int.reduceLE, Int.reduceGT, Int.reduceGE, Int.reduceEq, Int.reduceNe, Int.reduceBEq, Int.reduceBNe, Int.reduceToNat, Int.reduceNeg]) (by simp only [go_sem, Nat.reduceAdd, Nat.reduceMul, Nat.reduceSub, Nat.reduceEqDiff, Nat.reduceLT, Nat.reduceLeDiff, Nat.reduceBEq, reduceIte, reduceCtorEq, Int.reduceAdd, Int.reduceLT, Int.reduceLE, Int.reduceGT, Int.reduceGE, Int.reduceEq, Int.reduceNe, Int.reduceBEq, Int.reduceBNe, Int.reduceToNat, Int.reduceNeg]) rfl rfl ?_
  try simp only [go_sem, Nat.reduceAdd, Nat.reduceMul, Nat.reduceSub, Nat.reduceEqDiff, Nat.reduceLT, Nat.reduceLeDiff, Nat.reduceBEq, reduceIte, reduceCtorEq, Int.reduceAdd, Int.reduceLT, Int.reduceLE, Int.reduceGT, Int.reduceGE, Int.reduceEq, Int.reduceNe, Int.reduceBEq, Int.reduceBNe, Int.reduceToNat, Int.reduceNeg]
  (repeat (with_reducible refine And.intro (by first | omega | (simp_all; done) | grind) ?_)); refine callO_pure (c5) b_packet_Equal (fun h => by first | exact h | (simp only [h, Bool.and_self, Bool.and_true])) (fun _ => by first | exact ⟨matchA_refl, trivial⟩ | exact ⟨matchA_refl, matchA_refl, trivial⟩ | exact ⟨matchA_refl, matchA_refl, matchA_refl, trivial⟩ | simp only [encPk, encQ, go_sem, Nat.reduceAdd, Nat.reduceMul, Nat.reduceSub, Nat.reduceEqDiff, Nat.reduceLT, Nat.reduceLeDiff, Nat.reduceBEq, reduceIte, reduceCtorEq, Int.reduceAdd, Int.reduceLT, Int.reduceLE, Int.reduceGT, Int.reduceGE, Int.reduceEq, Int.reduceNe, Int.reduceBEq, Int.reduceBNe, Int.reduceToNat, Int.reduceNeg]) (by simp only [go_sem, Nat.reduceAdd, Nat.reduceMul, Nat.reduceSub, Nat.reduceEqDiff, Nat.reduceLT, Nat.reduceLeDiff, Nat.reduceBEq, reduceIte, reduceCtorEq, Int.reduceAdd, Int.reduceLT, Int.reduceLE, Int.reduceGT, Int.reduceGE, Int.reduceEq, Int.reduceNe, Int.reduceBEq, Int.reduceBNe, Int.reduceToNat, Int.reduceNeg]) rfl rfl ?_
  try simp only [go_sem, Nat.reduceAdd, Nat.reduceMul, Nat.reduceSub, Nat.reduceEqDiff, Nat.reduceLT, Nat.reduceLeDiff, Nat.reduceBEq, reduceIte, reduceCtorEq, Int.reduceAdd, Int.reduceLT, Int.reduceLE, Int.reduceGT, Int.reduceGE, Int.reduceEq, Int.reduceNe, Int.reduceBEq, Int.reduceBNe, Int.reduceToNat, Int.reduceNeg]
end Go.Proofs.Ythcpckcgjplhiaa
