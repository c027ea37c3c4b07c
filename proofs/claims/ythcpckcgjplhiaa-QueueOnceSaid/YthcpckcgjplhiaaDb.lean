/- QueueConsume. -/
import Derived.Test.YthcpckcgjplhiaaDa
import Derived.Test.YthcpckcgjplhiaaCk
import Derived.Test.YthcpckcgjplhiaaPa
namespace Go.Proofs.Ythcpckcgjplhiaa
open Go.Abs
set_option linter.unusedSimpArgs false
-- ENC encPk encQ

noncomputable def s_farandolelaw51_QueueConsume_r0 : List SOper := [
  ⟨(some 2), .box 1 (.t 0), none⟩,
  ⟨(some 4), .mov (.k (.d (.bool false))), none⟩]
noncomputable def s_farandolelaw51_QueueConsume_r1 : List SOper := [
  ⟨(some 9), .call (.k (.d (.func (.func 25) [] []))) [], none⟩,
  ⟨(some 10), .not (.t 9), none⟩]
noncomputable def s_farandolelaw51_QueueConsume_r2 : List SOper := [
  ⟨(some 4), .mov (.k (.d (.bool false))), none⟩]
noncomputable def s_farandolelaw51_QueueConsume_r3 : List SOper := [
  ⟨(some 11), .load (some 3) (.t 2), none⟩,
  ⟨(some 12), .call (.k (.d (.func (.func 26) [] []))) [(.t 11)], none⟩,
  ⟨(some 13), .not (.t 12), none⟩]
noncomputable def s_farandolelaw51_QueueConsume_r4 : List SOper := [
  ⟨(some 4), .mov (.k (.d (.bool true))), none⟩]
noncomputable def s_farandolelaw51_QueueConsume_r5 : List SOper := [
  ⟨(some 15), .load (some 3) (.t 2), none⟩,
  ⟨(some 16), .call (.k (.d (.func (.func 28) [] []))) [(.t 15)], none⟩,
  ⟨(some 17), .mov (.t 1), none⟩,
  ⟨(some 18), .call (.k (.d (.func (.func 27) [] []))) [(.t 16), (.t 17)], none⟩,
  ⟨(some 14), .mov (.t 18), none⟩,
  ⟨(some 19), .extract 0 (.t 14), none⟩,
  ⟨(some 20), .extract 1 (.t 14), none⟩,
  ⟨(some 5), .alloc 1 [(.d (.int .i64 0)), (.d (.int .i64 0)), (.d .nilsl)], none⟩,
  ⟨none, .store (some 3) (.t 5) (.t 19), none⟩,
  ⟨(some 6), .mov (.t 20), none⟩]
noncomputable def s_farandolelaw51_QueueConsume_r6 : List SOper := [
  ⟨(some 22), .load (some 3) (.t 2), none⟩,
  ⟨(some 23), .mov (.t 1), none⟩,
  ⟨(some 24), .call (.k (.d (.func (.func 29) [] []))) [(.t 22), (.t 23)], none⟩,
  ⟨(some 21), .mov (.t 24), none⟩,
  ⟨(some 25), .extract 0 (.t 21), none⟩,
  ⟨(some 26), .extract 1 (.t 21), none⟩,
  ⟨(some 7), .alloc 1 [(.d (.int .i64 0)), (.d (.int .i64 0)), (.d .nilsl)], none⟩,
  ⟨none, .store (some 3) (.t 7) (.t 25), none⟩,
  ⟨(some 8), .mov (.t 26), none⟩]
noncomputable def s_farandolelaw51_QueueConsume_r7 : List SOper := [
  ⟨(some 27), .mov (.t 6), none⟩,
  ⟨(some 28), .mov (.t 8), none⟩,
  ⟨(some 29), .bin .eql (.t 27) (.t 28), none⟩,
  ⟨(some 30), .mov (.t 29), none⟩,
  ⟨(some 31), .load (some 3) (.t 5), (some (30, true))⟩,
  ⟨(some 32), .call (.k (.d (.func (.func 31) [] []))) [(.t 31)], (some (30, true))⟩,
  ⟨(some 33), .load (some 3) (.t 7), (some (30, true))⟩,
  ⟨(some 34), .call (.k (.d (.func (.func 30) [] []))) [(.t 32), (.t 33)], (some (30, true))⟩,
  ⟨(some 35), .pick (.t 30) (.t 34) (.k (.d (.bool false))), none⟩,
  ⟨(some 36), .mov (.t 35), none⟩,
  ⟨(some 37), .load (some 3) (.t 5), (some (36, true))⟩,
  ⟨(some 38), .call (.k (.d (.func (.func 32) [] []))) [(.t 37)], (some (36, true))⟩,
  ⟨(some 39), .pick (.t 36) (.t 38) (.k (.d (.bool false))), none⟩,
  ⟨(some 4), .mov (.t 39), none⟩]
noncomputable def s_farandolelaw51_QueueConsume : SCode := (.seq (.region s_farandolelaw51_QueueConsume_r0 1 []) (.seq (.seq (.region s_farandolelaw51_QueueConsume_r1 0 []) (.cond (.t 10) (.seq (.region s_farandolelaw51_QueueConsume_r2 0 []) .ret) .skip)) (.seq (.seq (.region s_farandolelaw51_QueueConsume_r3 0 []) (.cond (.t 13) (.seq (.region s_farandolelaw51_QueueConsume_r4 0 []) .ret) .skip)) (.seq (.region s_farandolelaw51_QueueConsume_r5 1 []) (.seq (.region s_farandolelaw51_QueueConsume_r6 1 []) (.seq (.region s_farandolelaw51_QueueConsume_r7 0 []) .ret))))))
theorem e_farandolelaw51_QueueConsume {P : Program} {k0 : Nat} {Q : SExit → St → Prop} {st : St} : AWp P k0 s_farandolelaw51_QueueConsume Q st = AWp P k0 (.seq (.region s_farandolelaw51_QueueConsume_r0 1 []) (.seq (.seq (.region s_farandolelaw51_QueueConsume_r1 0 []) (.cond (.t 10) (.seq (.region s_farandolelaw51_QueueConsume_r2 0 []) .ret) .skip)) (.seq (.seq (.region s_farandolelaw51_QueueConsume_r3 0 []) (.cond (.t 13) (.seq (.region s_farandolelaw51_QueueConsume_r4 0 []) .ret) .skip)) (.seq (.region s_farandolelaw51_QueueConsume_r5 1 []) (.seq (.region s_farandolelaw51_QueueConsume_r6 1 []) (.seq (.region s_farandolelaw51_QueueConsume_r7 0 []) .ret)))))) Q st := rfl
theorem u_farandolelaw51_QueueConsume_r0 {P : Program} {o : Nat} {p : List (Nat × Nat)} {Q : SExit → St → Prop} {st : St} : goReg P s_farandolelaw51_QueueConsume_r0 o p Q st = goLit P (litOf s_farandolelaw51_QueueConsume_r0.eq_1) o p Q st := goReg_of _
theorem u_farandolelaw51_QueueConsume_r1 {P : Program} {o : Nat} {p : List (Nat × Nat)} {Q : SExit → St → Prop} {st : St} : goReg P s_farandolelaw51_QueueConsume_r1 o p Q st = goLit P (litOf s_farandolelaw51_QueueConsume_r1.eq_1) o p Q st := goReg_of _
theorem u_farandolelaw51_QueueConsume_r2 {P : Program} {o : Nat} {p : List (Nat × Nat)} {Q : SExit → St → Prop} {st : St} : goReg P s_farandolelaw51_QueueConsume_r2 o p Q st = goLit P (litOf s_farandolelaw51_QueueConsume_r2.eq_1) o p Q st := goReg_of _
theorem u_farandolelaw51_QueueConsume_r3 {P : Program} {o : Nat} {p : List (Nat × Nat)} {Q : SExit → St → Prop} {st : St} : goReg P s_farandolelaw51_QueueConsume_r3 o p Q st = goLit P (litOf s_farandolelaw51_QueueConsume_r3.eq_1) o p Q st := goReg_of _
theorem u_farandolelaw51_QueueConsume_r4 {P : Program} {o : Nat} {p : List (Nat × Nat)} {Q : SExit → St → Prop} {st : St} : goReg P s_farandolelaw51_QueueConsume_r4 o p Q st = goLit P (litOf s_farandolelaw51_QueueConsume_r4.eq_1) o p Q st := goReg_of _
theorem u_farandolelaw51_QueueConsume_r5 {P : Program} {o : Nat} {p : List (Nat × Nat)} {Q : SExit → St → Prop} {st : St} : goReg P s_farandolelaw51_QueueConsume_r5 o p Q st = goLit P (litOf s_farandolelaw51_QueueConsume_r5.eq_1) o p Q st := goReg_of _
theorem u_farandolelaw51_QueueConsume_r6 {P : Program} {o : Nat} {p : List (Nat × Nat)} {Q : SExit → St → Prop} {st : St} : goReg P s_farandolelaw51_QueueConsume_r6 o p Q st = goLit P (litOf s_farandolelaw51_QueueConsume_r6.eq_1) o p Q st := goReg_of _
theorem u_farandolelaw51_QueueConsume_r7 {P : Program} {o : Nat} {p : List (Nat × Nat)} {Q : SExit → St → Prop} {st : St} : goReg P s_farandolelaw51_QueueConsume_r7 o p Q st = goLit P (litOf s_farandolelaw51_QueueConsume_r7.eq_1) o p Q st := goReg_of _
attribute [go_sem] u_farandolelaw51_QueueConsume_r0 u_farandolelaw51_QueueConsume_r1 u_farandolelaw51_QueueConsume_r2 u_farandolelaw51_QueueConsume_r3 u_farandolelaw51_QueueConsume_r4 u_farandolelaw51_QueueConsume_r5 u_farandolelaw51_QueueConsume_r6 u_farandolelaw51_QueueConsume_r7 e_farandolelaw51_QueueConsume
set_option maxRecDepth 100000 in
theorem c_farandolelaw51_QueueConsume : Try.f4.body.bind (compCode Try.prog Try.f4.ntmps) = some s_farandolelaw51_QueueConsume := by kernel_rfl
theorem r_farandolelaw51_QueueConsume : Try.f4.results.toList.mapM (compRes Try.prog) = some [(.tmp 4)] := by kernel_rfl
theorem n_farandolelaw51_QueueConsume : Try.f4.ntmps = 40 := by kernel_rfl
theorem b_farandolelaw51_QueueConsume : (Try.prog.funcs[4]?).any (fun fn => fn.body.isSome && !(fn.name == "runtime.NumGoroutine")) = true := by kernel_rfl
theorem k_farandolelaw51_QueueConsume {args : List ASlot} {r : ASlot} (h : AWp Try.prog 0 s_farandolelaw51_QueueConsume (bodyQ 0 [(.tmp 4)] [r] []) (entrySt args [])) (hN : args.length ≤ 40 := by simp) (hw : ltB 16 (toksOf args) = true := by rfl) : ACall Try.prog 4 args [] r [] :=
  acall_go (rs := [r]) follows Try.func4 c_farandolelaw51_QueueConsume r_farandolelaw51_QueueConsume h (by rw [n_farandolelaw51_QueueConsume]; exact hN) rfl hw



theorem qEmpty_sm : qEmpty.Sm := ⟨Nat.zero_le _, by simp [qEmpty]⟩
theorem qConsume_sm {q : Qu} (hq : q.Sm) (seq : Int) : (qConsume q seq).1.Sm := by
  unfold qConsume
  split
  · exact qEmpty_sm
  split
  · exact qEmpty_sm
  split
  · exact qEmpty_sm
  · exact ⟨by have := hq.1; simp only [List.length_drop]; omega, fun p hp => hq.2 p (List.mem_of_mem_drop hp)⟩

theorem queueConsume_ok (q : Qu) (seq : Int) (h1 : q.items.length ≤ maxLen) (h2 : ∀ p ∈ q.items, p.values.length ≤ maxLen) :
    ACall Try.prog 4 [.d (.agg (encQ q)), .d (.int .i64 seq)] [] (.d (.bool true)) [] := by
  refine k_farandolelaw51_QueueConsume ?_
  simp only [e_farandolelaw51_QueueConsume, encQ, go_sem, Nat.reduceAdd, Nat.reduceMul, Nat.reduceSub, Nat.reduceEqDiff, Nat.reduceLT, Nat.reduceLeDiff, Nat.reduceBEq, reduceIte, reduceCtorEq, Int.reduceAdd, Int.reduceLT, Int.reduceLE, Int.reduceGT, Int.reduceGE, Int.reduceEq, Int.reduceNe, Int.reduceBEq, Int.reduceBNe, Int.reduceToNat, Int.reduceNeg]
  (repeat (with_reducible refine And.intro (by first | omega | (simp_all; done) | grind) ?_)); refine callO_pure (awake51_ok) b_farandolelaw51_awake (fun h => by first | exact h | (simp only [h, Bool.and_self, Bool.and_true])) (fun _ => by first | exact ⟨matchA_refl, trivial⟩ | exact ⟨matchA_refl, matchA_refl, trivial⟩ | exact ⟨matchA_refl, matchA_refl, matchA_refl, trivial⟩ | simp only [encPk, encQ, go_sem, Nat.reduceAdd, Nat.reduceMul, Nat.reduceSub, Nat.reduceEqDiff, Nat.reduceLT, Nat.reduceLeDiff, Nat.reduceBEq, reduceIte, reduceCtorEq, Int.reduceAdd, Int.reduceLT, Int.reduceLE, Int.reduceGT, Int.reduceGE, Int.reduceEq, Int.reduceNe, Int.reduceBEq, Int.reduceBNe, Int.reduceToNat, Int.reduceNeg]) (by simp only [go_sem, Nat.reduceAdd, Nat.reduceMul, Nat.reduceSub, Nat.reduceEqDiff, Nat.reduceLT, Nat.reduceLeDiff, Nat.reduceBEq, reduceIte, reduceCtorEq, Int.reduceAdd, Int.reduceLT, Int.reduceLE, Int.reduceGT, Int.reduceGE, Int.reduceEq, Int.reduceNe, Int.reduceBEq, Int.reduceBNe, Int.reduceToNat, Int.reduceNeg]) rfl rfl ?_
  simp only [go_sem, Nat.reduceAdd, Nat.reduceMul, Nat.reduceSub, Nat.reduceEqDiff, Nat.reduceLT, Nat.reduceLeDiff, Nat.reduceBEq, reduceIte, reduceCtorEq, Int.reduceAdd, Int.reduceLT, Int.reduceLE, Int.reduceGT, Int.reduceGE, Int.reduceEq, Int.reduceNe, Int.reduceBEq, Int.reduceBNe, Int.reduceToNat, Int.reduceNeg]
  refine AWp_cond _ rfl rfl (fun h => Bool.noConfusion h) (fun _ => ?_)
  simp only [go_sem, Nat.reduceAdd, Nat.reduceMul, Nat.reduceSub, Nat.reduceEqDiff, Nat.reduceLT, Nat.reduceLeDiff, Nat.reduceBEq, reduceIte, reduceCtorEq, Int.reduceAdd, Int.reduceLT, Int.reduceLE, Int.reduceGT, Int.reduceGE, Int.reduceEq, Int.reduceNe, Int.reduceBEq, Int.reduceBNe, Int.reduceToNat, Int.reduceNeg]
  (repeat (with_reducible refine And.intro (by first | omega | (simp_all; done) | grind) ?_)); refine callO_pure (fewQ_ok q h1 h2) b_farandoleref51_Few (fun h => by first | exact h | (simp only [h, Bool.and_self, Bool.and_true])) (fun _ => by first | exact ⟨matchA_refl, trivial⟩ | exact ⟨matchA_refl, matchA_refl, trivial⟩ | exact ⟨matchA_refl, matchA_refl, matchA_refl, trivial⟩ | simp only [encPk, encQ, go_sem, Nat.reduceAdd, Nat.reduceMul, Nat.reduceSub, Nat.reduceEqDiff, Nat.reduceLT, Nat.reduceLeDiff, Nat.reduceBEq, reduceIte, reduceCtorEq, Int.reduceAdd, Int.reduceLT, Int.reduceLE, Int.reduceGT, Int.reduceGE, Int.reduceEq, Int.reduceNe, Int.reduceBEq, Int.reduceBNe, Int.reduceToNat, Int.reduceNeg]) (by simp only [go_sem, Nat.reduceAdd, Nat.reduceMul, Nat.reduceSub, Nat.reduceEqDiff, Nat.reduceLT, Nat.reduceLeDiff, Nat.reduceBEq, reduceIte, reduceCtorEq, Int.reduceAdd, Int.reduceLT, Int.reduceLE, Int.reduceGT, Int.reduceGE, Int.reduceEq, Int.reduceNe, Int.reduceBEq, Int.reduceBNe, Int.reduceToNat, Int.reduceNeg]) rfl rfl ?_
  simp only [go_sem, Nat.reduceAdd, Nat.reduceMul, Nat.reduceSub, Nat.reduceEqDiff, Nat.reduceLT, Nat.reduceLeDiff, Nat.reduceBEq, reduceIte, reduceCtorEq, Int.reduceAdd, Int.reduceLT, Int.reduceLE, Int.reduceGT, Int.reduceGE, Int.reduceEq, Int.reduceNe, Int.reduceBEq, Int.reduceBNe, Int.reduceToNat, Int.reduceNeg]
  refine AWp_cond _ rfl rfl (fun h => ?_) (fun h => ?_)
  · simp only [go_sem, Nat.reduceAdd, Nat.reduceMul, Nat.reduceSub, Nat.reduceEqDiff, Nat.reduceLT, Nat.reduceLeDiff, Nat.reduceBEq, reduceIte, reduceCtorEq, Int.reduceAdd, Int.reduceLT, Int.reduceLE, Int.reduceGT, Int.reduceGE, Int.reduceEq, Int.reduceNe, Int.reduceBEq, Int.reduceBNe, Int.reduceToNat, Int.reduceNeg]
  have hf : fewQ q = true := by simpa using h
  obtain ⟨hq, h8⟩ := fewQ_sm hf
  obtain ⟨l1, l2⟩ := consume_law q seq
  have hs := qConsume_sm hq seq
  have c2 := consume51_ok q seq hq
  rw [← l1] at c2
  simp only [go_sem, Nat.reduceAdd, Nat.reduceMul, Nat.reduceSub, Nat.reduceEqDiff, Nat.reduceLT, Nat.reduceLeDiff, Nat.reduceBEq, reduceIte, reduceCtorEq, Int.reduceAdd, Int.reduceLT, Int.reduceLE, Int.reduceGT, Int.reduceGE, Int.reduceEq, Int.reduceNe, Int.reduceBEq, Int.reduceBNe, Int.reduceToNat, Int.reduceNeg]
  (repeat (with_reducible refine And.intro (by first | omega | (simp_all; done) | grind) ?_)); refine callO_pure (to51_ok q hq.1) b_farandolelaw51_To (fun h => by first | exact h | (simp only [h, Bool.and_self, Bool.and_true])) (fun _ => by first | exact ⟨matchA_refl, trivial⟩ | exact ⟨matchA_refl, matchA_refl, trivial⟩ | exact ⟨matchA_refl, matchA_refl, matchA_refl, trivial⟩ | simp only [encPk, encQ, go_sem, Nat.reduceAdd, Nat.reduceMul, Nat.reduceSub, Nat.reduceEqDiff, Nat.reduceLT, Nat.reduceLeDiff, Nat.reduceBEq, reduceIte, reduceCtorEq, Int.reduceAdd, Int.reduceLT, Int.reduceLE, Int.reduceGT, Int.reduceGE, Int.reduceEq, Int.reduceNe, Int.reduceBEq, Int.reduceBNe, Int.reduceToNat, Int.reduceNeg]) (by simp only [go_sem, Nat.reduceAdd, Nat.reduceMul, Nat.reduceSub, Nat.reduceEqDiff, Nat.reduceLT, Nat.reduceLeDiff, Nat.reduceBEq, reduceIte, reduceCtorEq, Int.reduceAdd, Int.reduceLT, Int.reduceLE, Int.reduceGT, Int.reduceGE, Int.reduceEq, Int.reduceNe, Int.reduceBEq, Int.reduceBNe, Int.reduceToNat, Int.reduceNeg]) rfl rfl ?_
  simp only [go_sem, Nat.reduceAdd, Nat.reduceMul, Nat.reduceSub, Nat.reduceEqDiff, Nat.reduceLT, Nat.reduceLeDiff, Nat.reduceBEq, reduceIte, reduceCtorEq, Int.reduceAdd, Int.reduceLT, Int.reduceLE, Int.reduceGT, Int.reduceGE, Int.reduceEq, Int.reduceNe, Int.reduceBEq, Int.reduceBNe, Int.reduceToNat, Int.reduceNeg]
  (repeat (with_reducible refine And.intro (by first | omega | (simp_all; done) | grind) ?_)); refine callO_pure (qConsume_ok q seq hq) b_queue_Consume (fun h => by first | exact h | (simp only [h, Bool.and_self, Bool.and_true])) (fun _ => by first | exact ⟨matchA_refl, trivial⟩ | exact ⟨matchA_refl, matchA_refl, trivial⟩ | exact ⟨matchA_refl, matchA_refl, matchA_refl, trivial⟩ | simp only [encPk, encQ, go_sem, Nat.reduceAdd, Nat.reduceMul, Nat.reduceSub, Nat.reduceEqDiff, Nat.reduceLT, Nat.reduceLeDiff, Nat.reduceBEq, reduceIte, reduceCtorEq, Int.reduceAdd, Int.reduceLT, Int.reduceLE, Int.reduceGT, Int.reduceGE, Int.reduceEq, Int.reduceNe, Int.reduceBEq, Int.reduceBNe, Int.reduceToNat, Int.reduceNeg]) (by simp only [go_sem, Nat.reduceAdd, Nat.reduceMul, Nat.reduceSub, Nat.reduceEqDiff, Nat.reduceLT, Nat.reduceLeDiff, Nat.reduceBEq, reduceIte, reduceCtorEq, Int.reduceAdd, Int.reduceLT, Int.reduceLE, Int.reduceGT, Int.reduceGE, Int.reduceEq, Int.reduceNe, Int.reduceBEq, Int.reduceBNe, Int.reduceToNat, Int.reduceNeg]) rfl rfl ?_
  simp only [encQ, go_sem, Nat.reduceAdd, Nat.reduceMul, Nat.reduceSub, Nat.reduceEqDiff, Nat.reduceLT, Nat.reduceLeDiff, Nat.reduceBEq, reduceIte, reduceCtorEq, Int.reduceAdd, Int.reduceLT, Int.reduceLE, Int.reduceGT, Int.reduceGE, Int.reduceEq, Int.reduceNe, Int.reduceBEq, Int.reduceBNe, Int.reduceToNat, Int.reduceNeg]
  (repeat (with_reducible refine And.intro (by first | omega | (simp_all; done) | grind) ?_)); refine callO_pure (c2) b_farandoleref51_Consume (fun h => by first | exact h | (simp only [h, Bool.and_self, Bool.and_true])) (fun _ => by first | exact ⟨matchA_refl, trivial⟩ | exact ⟨matchA_refl, matchA_refl, trivial⟩ | exact ⟨matchA_refl, matchA_refl, matchA_refl, trivial⟩ | simp only [encPk, encQ, go_sem, Nat.reduceAdd, Nat.reduceMul, Nat.reduceSub, Nat.reduceEqDiff, Nat.reduceLT, Nat.reduceLeDiff, Nat.reduceBEq, reduceIte, reduceCtorEq, Int.reduceAdd, Int.reduceLT, Int.reduceLE, Int.reduceGT, Int.reduceGE, Int.reduceEq, Int.reduceNe, Int.reduceBEq, Int.reduceBNe, Int.reduceToNat, Int.reduceNeg]) (by simp only [go_sem, Nat.reduceAdd, Nat.reduceMul, Nat.reduceSub, Nat.reduceEqDiff, Nat.reduceLT, Nat.reduceLeDiff, Nat.reduceBEq, reduceIte, reduceCtorEq, Int.reduceAdd, Int.reduceLT, Int.reduceLE, Int.reduceGT, Int.reduceGE, Int.reduceEq, Int.reduceNe, Int.reduceBEq, Int.reduceBNe, Int.reduceToNat, Int.reduceNeg]) rfl rfl ?_
  simp only [encQ, go_sem, Nat.reduceAdd, Nat.reduceMul, Nat.reduceSub, Nat.reduceEqDiff, Nat.reduceLT, Nat.reduceLeDiff, Nat.reduceBEq, reduceIte, reduceCtorEq, Int.reduceAdd, Int.reduceLT, Int.reduceLE, Int.reduceGT, Int.reduceGE, Int.reduceEq, Int.reduceNe, Int.reduceBEq, Int.reduceBNe, Int.reduceToNat, Int.reduceNeg]
  (repeat (with_reducible refine And.intro (by first | omega | (simp_all; done) | grind) ?_)); refine callO_pure (from51_ok (qConsume q seq).1 hs.1) b_farandolelaw51_From (fun h => by first | exact h | (simp only [h, Bool.and_self, Bool.and_true])) (fun _ => by first | exact ⟨matchA_refl, trivial⟩ | exact ⟨matchA_refl, matchA_refl, trivial⟩ | exact ⟨matchA_refl, matchA_refl, matchA_refl, trivial⟩ | simp only [encPk, encQ, go_sem, Nat.reduceAdd, Nat.reduceMul, Nat.reduceSub, Nat.reduceEqDiff, Nat.reduceLT, Nat.reduceLeDiff, Nat.reduceBEq, reduceIte, reduceCtorEq, Int.reduceAdd, Int.reduceLT, Int.reduceLE, Int.reduceGT, Int.reduceGE, Int.reduceEq, Int.reduceNe, Int.reduceBEq, Int.reduceBNe, Int.reduceToNat, Int.reduceNeg]) (by simp only [go_sem, Nat.reduceAdd, Nat.reduceMul, Nat.reduceSub, Nat.reduceEqDiff, Nat.reduceLT, Nat.reduceLeDiff, Nat.reduceBEq, reduceIte, reduceCtorEq, Int.reduceAdd, Int.reduceLT, Int.reduceLE, Int.reduceGT, Int.reduceGE, Int.reduceEq, Int.reduceNe, Int.reduceBEq, Int.reduceBNe, Int.reduceToNat, Int.reduceNeg]) rfl rfl ?_
  simp only [go_sem, Nat.reduceAdd, Nat.reduceMul, Nat.reduceSub, Nat.reduceEqDiff, Nat.reduceLT, Nat.reduceLeDiff, Nat.reduceBEq, reduceIte, reduceCtorEq, Int.reduceAdd, Int.reduceLT, Int.reduceLE, Int.reduceGT, Int.reduceGE, Int.reduceEq, Int.reduceNe, Int.reduceBEq, Int.reduceBNe, Int.reduceToNat, Int.reduceNeg]
  (repeat (with_reducible refine And.intro (by first | omega | (simp_all; done) | grind) ?_)); refine callO_pure (equal51_ok (qConsume q seq).1 (qConsume q seq).1 hs) b_farandoleref51_Equal (fun h => by first | exact h | (simp only [h, Bool.and_self, Bool.and_true])) (fun _ => by first | exact ⟨matchA_refl, trivial⟩ | exact ⟨matchA_refl, matchA_refl, trivial⟩ | exact ⟨matchA_refl, matchA_refl, matchA_refl, trivial⟩ | simp only [encPk, encQ, go_sem, Nat.reduceAdd, Nat.reduceMul, Nat.reduceSub, Nat.reduceEqDiff, Nat.reduceLT, Nat.reduceLeDiff, Nat.reduceBEq, reduceIte, reduceCtorEq, Int.reduceAdd, Int.reduceLT, Int.reduceLE, Int.reduceGT, Int.reduceGE, Int.reduceEq, Int.reduceNe, Int.reduceBEq, Int.reduceBNe, Int.reduceToNat, Int.reduceNeg]) (by simp only [go_sem, Nat.reduceAdd, Nat.reduceMul, Nat.reduceSub, Nat.reduceEqDiff, Nat.reduceLT, Nat.reduceLeDiff, Nat.reduceBEq, reduceIte, reduceCtorEq, Int.reduceAdd, Int.reduceLT, Int.reduceLE, Int.reduceGT, Int.reduceGE, Int.reduceEq, Int.reduceNe, Int.reduceBEq, Int.reduceBNe, Int.reduceToNat, Int.reduceNeg]) rfl rfl ?_
  simp only [go_sem, Nat.reduceAdd, Nat.reduceMul, Nat.reduceSub, Nat.reduceEqDiff, Nat.reduceLT, Nat.reduceLeDiff, Nat.reduceBEq, reduceIte, reduceCtorEq, Int.reduceAdd, Int.reduceLT, Int.reduceLE, Int.reduceGT, Int.reduceGE, Int.reduceEq, Int.reduceNe, Int.reduceBEq, Int.reduceBNe, Int.reduceToNat, Int.reduceNeg]
  (repeat (with_reducible refine And.intro (by first | omega | (simp_all; done) | grind) ?_)); refine callO_pure (qValid_ok (qConsume q seq).1 hs) b_queue_Valid (fun h => by first | exact h | (simp only [h, Bool.and_self, Bool.and_true])) (fun _ => by first | exact ⟨matchA_refl, trivial⟩ | exact ⟨matchA_refl, matchA_refl, trivial⟩ | exact ⟨matchA_refl, matchA_refl, matchA_refl, trivial⟩ | simp only [encPk, encQ, go_sem, Nat.reduceAdd, Nat.reduceMul, Nat.reduceSub, Nat.reduceEqDiff, Nat.reduceLT, Nat.reduceLeDiff, Nat.reduceBEq, reduceIte, reduceCtorEq, Int.reduceAdd, Int.reduceLT, Int.reduceLE, Int.reduceGT, Int.reduceGE, Int.reduceEq, Int.reduceNe, Int.reduceBEq, Int.reduceBNe, Int.reduceToNat, Int.reduceNeg]) (by simp only [go_sem, Nat.reduceAdd, Nat.reduceMul, Nat.reduceSub, Nat.reduceEqDiff, Nat.reduceLT, Nat.reduceLeDiff, Nat.reduceBEq, reduceIte, reduceCtorEq, Int.reduceAdd, Int.reduceLT, Int.reduceLE, Int.reduceGT, Int.reduceGE, Int.reduceEq, Int.reduceNe, Int.reduceBEq, Int.reduceBNe, Int.reduceToNat, Int.reduceNeg]) rfl rfl ?_
  simp only [l2, go_sem, Nat.reduceAdd, Nat.reduceMul, Nat.reduceSub, Nat.reduceEqDiff, Nat.reduceLT, Nat.reduceLeDiff, Nat.reduceBEq, reduceIte, reduceCtorEq, Int.reduceAdd, Int.reduceLT, Int.reduceLE, Int.reduceGT, Int.reduceGE, Int.reduceEq, Int.reduceNe, Int.reduceBEq, Int.reduceBNe, Int.reduceToNat, Int.reduceNeg]
end Go.Proofs.Ythcpckcgjplhiaa
