/- upgrade.Begin. -/
import Derived.Test.YthcpckcgjplhiaaGd
import Derived.Test.YthcpckcgjplhiaaFb
namespace Go.Proofs.Ythcpckcgjplhiaa
open Go.Abs
set_option linter.unusedSimpArgs false

section
variable {P : Program} {k0 o : Nat} {p : List (Nat × Nat)} {Q : SExit → St → Prop} {st : St}
noncomputable def s51br0 : List SOper := [
  ⟨some 2, .box 2 (.t 0), none⟩,
  ⟨some 4, .alloc 1 [(.d (.int .i64 0)), (.d .nilsl)], none⟩,
  ⟨some 5, .mov (.k (.d (.int .i64 0))), none⟩]
noncomputable def s51br1 : List SOper := [
  ⟨some 9, .load (some 2) (.t 2), none⟩,
  ⟨some 10, .call (.k (.d (.func (.func 59) [] []))) [(.t 9)], none⟩,
  ⟨some 11, .not (.t 10), none⟩,
  ⟨some 8, .mov (.t 11), none⟩]
noncomputable def s51br2 : List SOper := [
  ⟨some 12, .build [(.int .i64 0), .nilsl] [], none⟩,
  ⟨none, .store (some 2) (.t 4) (.t 12), none⟩,
  ⟨some 5, .mov (.k (.d (.int .i64 1))), none⟩]
noncomputable def s51br3 : List SOper := [
  ⟨some 14, .mov (.t 1), none⟩,
  ⟨some 15, .bin .lss (.t 14) (.k (.d (.int .i64 1))), none⟩,
  ⟨some 16, .mov (.t 15), none⟩,
  ⟨some 17, .mov (.t 1), some (16, false)⟩,
  ⟨some 18, .bin .gtr (.t 17) (.k (.d (.int .i64 32))), some (16, false)⟩,
  ⟨some 19, .pick (.t 16) (.k (.d (.bool true))) (.t 18), none⟩,
  ⟨some 13, .mov (.t 19), none⟩]
noncomputable def s51br4 : List SOper := [
  ⟨some 20, .build [(.int .i64 0), .nilsl] [], none⟩,
  ⟨none, .store (some 2) (.t 4) (.t 20), none⟩,
  ⟨some 5, .mov (.k (.d (.int .i64 2))), none⟩]
noncomputable def s51br5 : List SOper := [
  ⟨some 22, .load (some 2) (.t 2), none⟩,
  ⟨some 23, .mov (.t 1), none⟩,
  ⟨some 24, .call (.k (.d (.func (.func 85) [] []))) [(.t 22), (.t 23)], none⟩,
  ⟨some 21, .mov (.t 24), none⟩,
  ⟨some 25, .extract 0 (.t 21), none⟩,
  ⟨some 26, .extract 1 (.t 21), none⟩,
  ⟨some 6, .mov (.t 25), none⟩,
  ⟨some 7, .mov (.t 26), none⟩]
noncomputable def s51br6 : List SOper := [
  ⟨some 27, .mov (.t 7), none⟩]
noncomputable def s51br7 : List SOper := [
  ⟨some 28, .build [(.int .i64 0), .nilsl] [], none⟩,
  ⟨none, .store (some 2) (.t 4) (.t 28), none⟩,
  ⟨some 5, .mov (.k (.d (.int .i64 9))), none⟩]
noncomputable def s51br8 : List SOper := [
  ⟨some 29, .load (some 2) (.t 2), none⟩,
  ⟨some 30, .call (.k (.d (.func (.func 86) [] []))) [(.t 29)], none⟩,
  ⟨none, .store (some 2) (.t 2) (.t 30), none⟩]
noncomputable def s51br9 : List SOper := [
  ⟨some 31, .faddr 1 (.t 2), none⟩,
  ⟨some 32, .load none (.t 31), none⟩,
  ⟨some 33, .mov (.t 6), none⟩,
  ⟨some 34, .mov (.t 1), none⟩,
  ⟨some 35, .faddr 0 (.t 2), none⟩,
  ⟨some 36, .load none (.t 35), none⟩,
  ⟨some 37, .makeSlice false 1 1 [(.bool false)] (.t 36) (.t 36), none⟩,
  ⟨some 38, .faddr 0 (.t 2), none⟩,
  ⟨some 39, .load none (.t 38), none⟩,
  ⟨some 40, .makeSlice false 1 1 [(.bool false)] (.t 39) (.t 39), none⟩,
  ⟨some 41, .build [(.int .i64 0), (.int .i64 0), .nilsl, .nilsl] [(0, 1, (.t 34)), (1, 1, (.k (.d (.int .i64 1)))), (2, 1, (.t 37)), (3, 1, (.t 40))], none⟩,
  ⟨some 42, .buildSlice true 4 1 [(.int .i64 0), (.int .i64 0), .nilsl, .nilsl] [(0, 4, (.t 41))], none⟩,
  ⟨some 43, .call (.k (.d (.func (.func 87) [] []))) [(.t 32), (.t 33), (.t 42)], none⟩,
  ⟨some 44, .faddr 1 (.t 2), none⟩,
  ⟨none, .store none (.t 44) (.t 43), none⟩]
noncomputable def s51br10 : List SOper := [
  ⟨some 45, .load (some 2) (.t 2), none⟩,
  ⟨none, .store (some 2) (.t 4) (.t 45), none⟩,
  ⟨some 5, .mov (.k (.d (.int .i64 0))), none⟩]
noncomputable def s51b : SCode := (.seq (.region s51br0 2 []) (.seq (.block 0 (.seq (.region s51br1 0 []) (.cond (.t 8) (.seq (.region s51br2 0 []) (.pause .ret)) (.seq (.region s51br3 0 []) (.cond (.t 13) (.seq (.region s51br4 0 []) (.pause .ret)) .skip))))) (.seq (.region s51br5 0 []) (.seq (.seq (.region s51br6 0 []) (.cond (.t 27) (.seq (.region s51br7 0 []) (.pause .ret)) .skip)) (.seq (.region s51br8 5 []) (.seq (.pause (.region s51br9 0 [])) (.seq (.pause (.region s51br10 0 [])) (.pause .ret))))))))
theorem e51b : AWp P k0 s51b Q st = AWp P k0 (.seq (.region s51br0 2 []) (.seq (.block 0 (.seq (.region s51br1 0 []) (.cond (.t 8) (.seq (.region s51br2 0 []) (.pause .ret)) (.seq (.region s51br3 0 []) (.cond (.t 13) (.seq (.region s51br4 0 []) (.pause .ret)) .skip))))) (.seq (.region s51br5 0 []) (.seq (.seq (.region s51br6 0 []) (.cond (.t 27) (.seq (.region s51br7 0 []) (.pause .ret)) .skip)) (.seq (.region s51br8 5 []) (.seq (.pause (.region s51br9 0 [])) (.seq (.pause (.region s51br10 0 [])) (.pause .ret)))))))) Q st := rfl
theorem u51br0 : goReg P s51br0 o p Q st = goLit P (litOf s51br0.eq_1) o p Q st := goReg_of _
theorem u51br1 : goReg P s51br1 o p Q st = goLit P (litOf s51br1.eq_1) o p Q st := goReg_of _
theorem u51br2 : goReg P s51br2 o p Q st = goLit P (litOf s51br2.eq_1) o p Q st := goReg_of _
theorem u51br3 : goReg P s51br3 o p Q st = goLit P (litOf s51br3.eq_1) o p Q st := goReg_of _
theorem u51br4 : goReg P s51br4 o p Q st = goLit P (litOf s51br4.eq_1) o p Q st := goReg_of _
theorem u51br5 : goReg P s51br5 o p Q st = goLit P (litOf s51br5.eq_1) o p Q st := goReg_of _
theorem u51br6 : goReg P s51br6 o p Q st = goLit P (litOf s51br6.eq_1) o p Q st := goReg_of _
theorem u51br7 : goReg P s51br7 o p Q st = goLit P (litOf s51br7.eq_1) o p Q st := goReg_of _
theorem u51br8 : goReg P s51br8 o p Q st = goLit P (litOf s51br8.eq_1) o p Q st := goReg_of _
theorem u51br9 : goReg P s51br9 o p Q st = goLit P (litOf s51br9.eq_1) o p Q st := goReg_of _
theorem u51br10 : goReg P s51br10 o p Q st = goLit P (litOf s51br10.eq_1) o p Q st := goReg_of _
attribute [go_sem] u51br0 u51br1 u51br2 u51br3 u51br4 u51br5 u51br6 u51br7 u51br8 u51br9 u51br10 e51b
set_option maxRecDepth 100000 in
theorem F51b : FnIs Try.prog 51 Try.f51 [42] news s51b [.cell 4 (some 2), .tmp 5] 46 := ⟨follows, Try.func51, by kernel_rfl, by kernel_rfl, by kernel_rfl, by kernel_rfl⟩

end
theorem insert_body : (Try.prog.funcs[87]?).any (fun fn => fn.body.isSome && !(fn.name == "runtime.NumGoroutine")) = true := by rw [Try.func87]; rfl

theorem noToks_flatE : ∀ l : List En, noToks (flatE l) = true
  | [] => rfl
  | x :: l => by
    rw [flatE_cons]
    have := noToks_flatE l
    try simp only [this, go_sem, Nat.reduceAdd, Nat.reduceMul, Nat.reduceSub, Nat.reduceEqDiff, Nat.reduceLT, Nat.reduceLeDiff, Nat.reduceBEq, reduceIte, reduceCtorEq, Int.reduceAdd, Int.reduceLT, Int.reduceLE, Int.reduceGT, Int.reduceGE, Int.reduceEq, Int.reduceNe, Int.reduceBEq, Int.reduceBNe, Int.reduceToNat, Int.reduceNeg]
theorem ren_flatE (ι : List Nat) : ∀ l : List En, (flatE l).map (ASlot.ren1 ι) = flatE l
  | [] => rfl
  | x :: l => by
    rw [flatE_cons]
    have := ren_flatE ι l
    try simp only [List.map_cons, this, go_sem, Nat.reduceAdd, Nat.reduceMul, Nat.reduceSub, Nat.reduceEqDiff, Nat.reduceLT, Nat.reduceLeDiff, Nat.reduceBEq, reduceIte, reduceCtorEq, Int.reduceAdd, Int.reduceLT, Int.reduceLE, Int.reduceGT, Int.reduceGE, Int.reduceEq, Int.reduceNe, Int.reduceBEq, Int.reduceBNe, Int.reduceToNat, Int.reduceNeg]
attribute [go_sem] noToks_flatE ren_flatE
theorem en_len (l : List En) : ∀ r ∈ l.map encEn, r.length = 4 := by
  intro r hr
  obtain ⟨x, _, rfl⟩ := List.mem_map.1 hr
  rfl
theorem en_cell (l : List En) : ∀ d ∈ (l.map encEn).flatten, d.isCell = true := by
  intro d hd
  obtain ⟨r, hr, hd⟩ := List.mem_flatten.1 hd
  obtain ⟨x, _, rfl⟩ := List.mem_map.1 hr
  simp only [encEn, List.mem_cons, List.not_mem_nil, or_false] at hd
  rcases hd with rfl | rfl | rfl | rfl <;> rfl

def newE (roles s : Int) : En := ⟨s, 1, List.replicate roles.toNat false, List.replicate roles.toNat false⟩
def upBegin (m : Mg) (s : Int) : Mg × Int :=
  if !upValid m then (⟨0, []⟩, 1) else if decide (s < 1) || decide (s > 32) then (⟨0, []⟩, 2) else if (upFind m s).2 then (⟨0, []⟩, 9)
  else (⟨m.roles, m.ents.take (upFind m s).1 ++ [newE m.roles s] ++ m.ents.drop (upFind m s).1⟩, 0)

theorem upValid_roles {m : Mg} (h : upValid m = true) : 1 ≤ m.roles ∧ m.roles ≤ 6 := by
  simp only [upValid, Bool.and_eq_true, decide_eq_true_eq] at h
  exact h.2
theorem upFind_le (m : Mg) (s : Int) : (upFind m s).1 ≤ m.ents.length := by
  unfold upFind
  split
  · exact Nat.le_of_lt (idx_any (by assumption)).2
  · exact Nat.le_refl _

set_option maxRecDepth 10000 in
theorem upBegin_ok (m : Mg) (s : Int) (hm : m.Sm) : ACall Try.prog 51 [.d (.agg (encMg m)), .d (.int .i64 s)] [] (.tup [.d (.agg (encMg (upBegin m s).1)), .d (.int .i64 (upBegin m s).2)]) [] := by
  have hl := hm.1
  refine F51b.goT ?_
  try simp only [encMg, go_sem, Nat.reduceAdd, Nat.reduceMul, Nat.reduceSub, Nat.reduceEqDiff, Nat.reduceLT, Nat.reduceLeDiff, Nat.reduceBEq, reduceIte, reduceCtorEq, Int.reduceAdd, Int.reduceLT, Int.reduceLE, Int.reduceGT, Int.reduceGE, Int.reduceEq, Int.reduceNe, Int.reduceBEq, Int.reduceBNe, Int.reduceToNat, Int.reduceNeg]
  (repeat (with_reducible refine ob ?_)); first | refine cl F59 (upValid_ok m hm) ?_ | refine clF F59 (upValid_ok m hm) (fun _ => by simp only [encEn, encMg, go_sem, Nat.reduceAdd, Nat.reduceMul, Nat.reduceSub, Nat.reduceEqDiff, Nat.reduceLT, Nat.reduceLeDiff, Nat.reduceBEq, reduceIte, reduceCtorEq, Int.reduceAdd, Int.reduceLT, Int.reduceLE, Int.reduceGT, Int.reduceGE, Int.reduceEq, Int.reduceNe, Int.reduceBEq, Int.reduceBNe, Int.reduceToNat, Int.reduceNeg]) ?_
  try (refine ev ?_; try exact True.intro)
  (repeat (with_reducible refine ob ?_)); refine iff_ _ (fun h => ?_) (fun h => ?_)
  · have hb : upBegin m s = (⟨0, []⟩, 1) := by simp only [upBegin, h, if_true]
    try simp only [hb, List.map_nil, go_sem, Nat.reduceAdd, Nat.reduceMul, Nat.reduceSub, Nat.reduceEqDiff, Nat.reduceLT, Nat.reduceLeDiff, Nat.reduceBEq, reduceIte, reduceCtorEq, Int.reduceAdd, Int.reduceLT, Int.reduceLE, Int.reduceGT, Int.reduceGE, Int.reduceEq, Int.reduceNe, Int.reduceBEq, Int.reduceBNe, Int.reduceToNat, Int.reduceNeg]
    refine pu ?_
    try (refine ev ?_; try exact True.intro)
  have hv : upValid m = true := by simpa using h
  obtain ⟨hr1, hr2⟩ := upValid_roles hv
  try (refine ev ?_; try exact True.intro)
  (repeat (with_reducible refine ob ?_)); refine iff_ _ (fun h => ?_) (fun h => ?_)
  · have hb : upBegin m s = (⟨0, []⟩, 2) := by simp only [upBegin, hv, h]; rfl
    try simp only [hb, List.map_nil, go_sem, Nat.reduceAdd, Nat.reduceMul, Nat.reduceSub, Nat.reduceEqDiff, Nat.reduceLT, Nat.reduceLeDiff, Nat.reduceBEq, reduceIte, reduceCtorEq, Int.reduceAdd, Int.reduceLT, Int.reduceLE, Int.reduceGT, Int.reduceGE, Int.reduceEq, Int.reduceNe, Int.reduceBEq, Int.reduceBNe, Int.reduceToNat, Int.reduceNeg]
    refine pu ?_
    try (refine ev ?_; try exact True.intro)
  have hs := h
  try (refine ev ?_; try exact True.intro)
  (repeat (with_reducible refine ob ?_)); first | refine cl F85 (upFind_ok m s hm) ?_ | refine clF F85 (upFind_ok m s hm) (fun _ => by simp only [encEn, encMg, go_sem, Nat.reduceAdd, Nat.reduceMul, Nat.reduceSub, Nat.reduceEqDiff, Nat.reduceLT, Nat.reduceLeDiff, Nat.reduceBEq, reduceIte, reduceCtorEq, Int.reduceAdd, Int.reduceLT, Int.reduceLE, Int.reduceGT, Int.reduceGE, Int.reduceEq, Int.reduceNe, Int.reduceBEq, Int.reduceBNe, Int.reduceToNat, Int.reduceNeg]) ?_
  try (refine ev ?_; try exact True.intro)
  (repeat (with_reducible refine ob ?_)); refine iff_ _ (fun h => ?_) (fun h => ?_)
  · have hb : upBegin m s = (⟨0, []⟩, 9) := by simp only [upBegin, hv, hs, h]; rfl
    try simp only [hb, List.map_nil, go_sem, Nat.reduceAdd, Nat.reduceMul, Nat.reduceSub, Nat.reduceEqDiff, Nat.reduceLT, Nat.reduceLeDiff, Nat.reduceBEq, reduceIte, reduceCtorEq, Int.reduceAdd, Int.reduceLT, Int.reduceLE, Int.reduceGT, Int.reduceGE, Int.reduceEq, Int.reduceNe, Int.reduceBEq, Int.reduceBNe, Int.reduceToNat, Int.reduceNeg]
    refine pu ?_
    try (refine ev ?_; try exact True.intro)
  have hb : upBegin m s = (⟨m.roles, m.ents.take (upFind m s).1 ++ [newE m.roles s] ++ m.ents.drop (upFind m s).1⟩, 0) := by simp only [upBegin, hv, hs, h]; rfl
  try simp only [hb, go_sem, Nat.reduceAdd, Nat.reduceMul, Nat.reduceSub, Nat.reduceEqDiff, Nat.reduceLT, Nat.reduceLeDiff, Nat.reduceBEq, reduceIte, reduceCtorEq, Int.reduceAdd, Int.reduceLT, Int.reduceLE, Int.reduceGT, Int.reduceGE, Int.reduceEq, Int.reduceNe, Int.reduceBEq, Int.reduceBNe, Int.reduceToNat, Int.reduceNeg]
  refine clO [2, 3, 4] F86u (copied_ok m hm) ?_ (hfit := by first | exact ⟨matchA_refl, trivial⟩ | simp only [encMg, go_sem, Nat.reduceAdd, Nat.reduceMul, Nat.reduceSub, Nat.reduceEqDiff, Nat.reduceLT, Nat.reduceLeDiff, Nat.reduceBEq, reduceIte, reduceCtorEq, Int.reduceAdd, Int.reduceLT, Int.reduceLE, Int.reduceGT, Int.reduceGE, Int.reduceEq, Int.reduceNe, Int.reduceBEq, Int.reduceBNe, Int.reduceToNat, Int.reduceNeg])
  try (refine ev ?_; try exact True.intro)
  refine pu_o2u (.cell 0 1) 4 4 (m.ents.map encEn) ?_ rfl (en_len _) (en_cell _) (D.okWR_noPtr (noPtrR_En _)) (hn := by show (0 : Nat) ≠ 4; decide) (hp := by simp only [List.length_map]; rfl)
  refine pu ?_
  try (refine ev ?_; try exact True.intro)
  (repeat (with_reducible refine ob ?_))
  have hrow : encEn (newE m.roles s) = [.int .i64 s, .int .i64 1, .sl 1 (List.replicate m.roles.toNat [.bool false]), .sl 1 (List.replicate m.roles.toNat [.bool false])] := by simp only [encEn, newE, List.map_replicate, encB]
  have hnew : (m.ents.map encEn).take (upFind m s).1 ++ [encEn (newE m.roles s)] ++ (m.ents.map encEn).drop (upFind m s).1 = (m.ents.take (upFind m s).1 ++ [newE m.roles s] ++ m.ents.drop (upFind m s).1).map encEn := by simp
  have hins := insert_ok (m.ents.map encEn) (encEn (newE m.roles s)) (upFind m s).1 (by rw [List.length_map]; exact upFind_le m s) (by rw [List.length_map]; exact hl) rfl
  rw [hnew] at hins
  refine callO_any hins insert_body rfl ⟨by try simp only [hrow, go_sem, Nat.reduceAdd, Nat.reduceMul, Nat.reduceSub, Nat.reduceEqDiff, Nat.reduceLT, Nat.reduceLeDiff, Nat.reduceBEq, reduceIte, reduceCtorEq, Int.reduceAdd, Int.reduceLT, Int.reduceLE, Int.reduceGT, Int.reduceGE, Int.reduceEq, Int.reduceNe, Int.reduceBEq, Int.reduceBNe, Int.reduceToNat, Int.reduceNeg], by try simp only [noPtrR_En, encEn_noPtr, go_sem, Nat.reduceAdd, Nat.reduceMul, Nat.reduceSub, Nat.reduceEqDiff, Nat.reduceLT, Nat.reduceLeDiff, Nat.reduceBEq, reduceIte, reduceCtorEq, Int.reduceAdd, Int.reduceLT, Int.reduceLE, Int.reduceGT, Int.reduceGE, Int.reduceEq, Int.reduceNe, Int.reduceBEq, Int.reduceBNe, Int.reduceToNat, Int.reduceNeg], by simp only [handed]; simp, by simp only [handed]; simp⟩ (by simp [ASlot.toks]) (by simp [ASlot.toks]) ?_
  try (refine ev ?_; try exact True.intro)
  (repeat (with_reducible refine ob ?_))
  refine pu_u2own (.cell 0 1) 640 4 ((m.ents.take (upFind m s).1 ++ [newE m.roles s] ++ m.ents.drop (upFind m s).1).map encEn) ?_
  refine pu ?_
  try (refine ev ?_; try exact True.intro)
  refine pu ?_
  try (refine ev ?_; try exact True.intro)
  trace_state
end Go.Proofs.Ythcpckcgjplhiaa
