/- Functions of Go's slices package at the types of packets. -/
import Derived.Test.YthcpckcgjplhiaaCa
namespace Go.Proofs.Ythcpckcgjplhiaa
open Go.Abs
set_option linter.unusedSimpArgs false

/-- The number of the first element that a test lets by; -1: none. -/
def idx {α : Type} (f : α → Bool) (l : List α) : Int := if l.any f then (l.findIdx f : Int) else -1

theorem idx_none {α : Type} {f : α → Bool} {l : List α} {i : Nat} (h : (l.take i).any f = false) (hi : l.length ≤ i) : idx f l = -1 := by
  rw [List.take_of_length_le hi] at h
  simp [idx, h]

theorem idx_some {α : Type} {f : α → Bool} {l : List α} {i : Nat} (h : (l.take i).any f = false) (hi : i < l.length) (hf : f l[i] = true) : idx f l = (i : Int) := by
  have ha : l.any f = true := List.any_eq_true.2 ⟨l[i], List.getElem_mem hi, hf⟩
  have hx : l.findIdx f = i := by
    rw [List.findIdx_eq hi]
    refine ⟨hf, fun j hj => ?_⟩
    rw [List.any_eq_false] at h
    have hj' : j < (l.take i).length := by simp; omega
    have := h (l.take i)[j] (List.getElem_mem hj')
    simpa using this
  simp [idx, ha, hx]

theorem take_any_succ {α : Type} {f : α → Bool} {l : List α} {i : Nat} (h : (l.take i).any f = false) (hi : i < l.length) (hf : f l[i] = false) : (l.take (i + 1)).any f = false := by
  rw [List.take_succ_eq_append_getElem hi, List.any_append, h]
  simp [hf]

theorem idx_ge {α : Type} (f : α → Bool) (l : List α) : decide (idx f l ≥ 0) = l.any f := by
  unfold idx
  cases l.any f <;> simp

section
variable {P : Program} {k0 o : Nat} {p : List (Nat × Nat)} {Q : SExit → St → Prop} {st : St}
noncomputable def s120r0 : List SOper := [
  ⟨some 4, .mov (.k (.d (.int .i64 0))), none⟩]
noncomputable def s120r1 : List SOper := [
  ⟨some 6, .mov (.t 0), none⟩,
  ⟨some 7, .len (.t 6), none⟩,
  ⟨some 8, .mov (.k (.d (.int .i64 0))), none⟩]
noncomputable def s120r2 : List SOper := [
  ⟨some 9, .bin .lss (.t 8) (.t 7), none⟩]
noncomputable def s120r3 : List SOper := [
  ⟨some 10, .mov (.t 8), none⟩,
  ⟨some 5, .mov (.t 10), none⟩]
noncomputable def s120r4 : List SOper := [
  ⟨some 11, .mov (.t 1), none⟩,
  ⟨some 12, .mov (.t 0), none⟩,
  ⟨some 13, .mov (.t 5), none⟩,
  ⟨some 14, .iaddr 3 (.t 12) (.t 13), none⟩,
  ⟨some 15, .load (some 3) (.t 14), none⟩,
  ⟨some 16, .call (.t 11) [(.t 15)], none⟩]
noncomputable def s120r5 : List SOper := [
  ⟨some 17, .mov (.t 5), none⟩,
  ⟨some 4, .mov (.t 17), none⟩]
noncomputable def s120r6 : List SOper := [
  ⟨some 18, .bin .add (.t 8) (.k (.d (.int .i64 1))), none⟩,
  ⟨some 8, .mov (.t 18), none⟩]
noncomputable def s120l7 : SCode := (.seq (.region s120r2 0 []) (.seq (.cond (.t 9) .skip (.exit 0)) (.seq (.block 1 (.seq (.region s120r3 0 []) (.seq (.region s120r4 0 []) (.cond (.t 16) (.seq (.region s120r5 0 []) .ret) .skip)))) (.region s120r6 0 []))))
theorem e120l7 : AWp P k0 s120l7 Q st = AWp P k0 (.seq (.region s120r2 0 []) (.seq (.cond (.t 9) .skip (.exit 0)) (.seq (.block 1 (.seq (.region s120r3 0 []) (.seq (.region s120r4 0 []) (.cond (.t 16) (.seq (.region s120r5 0 []) .ret) .skip)))) (.region s120r6 0 [])))) Q st := rfl
noncomputable def s120r8 : List SOper := [
  ⟨some 4, .mov (.k (.d (.int .i64 (-1)))), none⟩]
noncomputable def s120 : SCode := (.seq (.region s120r0 0 []) (.seq (.seq (.region s120r1 0 []) (.block 0 (.loop s120l7))) (.seq (.region s120r8 0 []) .ret)))
theorem e120 : AWp P k0 s120 Q st = AWp P k0 (.seq (.region s120r0 0 []) (.seq (.seq (.region s120r1 0 []) (.block 0 (.loop s120l7))) (.seq (.region s120r8 0 []) .ret))) Q st := rfl
theorem u120r0 : goReg P s120r0 o p Q st = goLit P (litOf s120r0.eq_1) o p Q st := goReg_of _
theorem u120r1 : goReg P s120r1 o p Q st = goLit P (litOf s120r1.eq_1) o p Q st := goReg_of _
theorem u120r2 : goReg P s120r2 o p Q st = goLit P (litOf s120r2.eq_1) o p Q st := goReg_of _
theorem u120r3 : goReg P s120r3 o p Q st = goLit P (litOf s120r3.eq_1) o p Q st := goReg_of _
theorem u120r4 : goReg P s120r4 o p Q st = goLit P (litOf s120r4.eq_1) o p Q st := goReg_of _
theorem u120r5 : goReg P s120r5 o p Q st = goLit P (litOf s120r5.eq_1) o p Q st := goReg_of _
theorem u120r6 : goReg P s120r6 o p Q st = goLit P (litOf s120r6.eq_1) o p Q st := goReg_of _
theorem u120r8 : goReg P s120r8 o p Q st = goLit P (litOf s120r8.eq_1) o p Q st := goReg_of _
attribute [go_sem] u120r0 u120r1 u120r2 u120r3 u120r4 u120r5 u120r6 e120l7 u120r8 e120
set_option maxRecDepth 100000 in
theorem F120 : FnIs Try.prog 120 Try.f120 [] news s120 [.tmp 4] 19 := ⟨follows, Try.func120, by kernel_rfl, by kernel_rfl, by kernel_rfl, by kernel_rfl⟩

noncomputable def s121r0 : List SOper := [
  ⟨some 4, .mov (.k (.d (.int .i64 0))), none⟩]
noncomputable def s121r1 : List SOper := [
  ⟨some 6, .mov (.t 0), none⟩,
  ⟨some 7, .len (.t 6), none⟩,
  ⟨some 8, .mov (.k (.d (.int .i64 0))), none⟩]
noncomputable def s121r2 : List SOper := [
  ⟨some 9, .bin .lss (.t 8) (.t 7), none⟩]
noncomputable def s121r3 : List SOper := [
  ⟨some 10, .mov (.t 8), none⟩,
  ⟨some 5, .mov (.t 10), none⟩]
noncomputable def s121r4 : List SOper := [
  ⟨some 11, .mov (.t 1), none⟩,
  ⟨some 12, .mov (.t 0), none⟩,
  ⟨some 13, .mov (.t 5), none⟩,
  ⟨some 14, .iaddr 1 (.t 12) (.t 13), none⟩,
  ⟨some 15, .load none (.t 14), none⟩,
  ⟨some 16, .call (.t 11) [(.t 15)], none⟩]
noncomputable def s121r5 : List SOper := [
  ⟨some 17, .mov (.t 5), none⟩,
  ⟨some 4, .mov (.t 17), none⟩]
noncomputable def s121r6 : List SOper := [
  ⟨some 18, .bin .add (.t 8) (.k (.d (.int .i64 1))), none⟩,
  ⟨some 8, .mov (.t 18), none⟩]
noncomputable def s121l7 : SCode := (.seq (.region s121r2 0 []) (.seq (.cond (.t 9) .skip (.exit 0)) (.seq (.block 1 (.seq (.region s121r3 0 []) (.seq (.region s121r4 0 []) (.cond (.t 16) (.seq (.region s121r5 0 []) .ret) .skip)))) (.region s121r6 0 []))))
theorem e121l7 : AWp P k0 s121l7 Q st = AWp P k0 (.seq (.region s121r2 0 []) (.seq (.cond (.t 9) .skip (.exit 0)) (.seq (.block 1 (.seq (.region s121r3 0 []) (.seq (.region s121r4 0 []) (.cond (.t 16) (.seq (.region s121r5 0 []) .ret) .skip)))) (.region s121r6 0 [])))) Q st := rfl
noncomputable def s121r8 : List SOper := [
  ⟨some 4, .mov (.k (.d (.int .i64 (-1)))), none⟩]
noncomputable def s121 : SCode := (.seq (.region s121r0 0 []) (.seq (.seq (.region s121r1 0 []) (.block 0 (.loop s121l7))) (.seq (.region s121r8 0 []) .ret)))
theorem e121 : AWp P k0 s121 Q st = AWp P k0 (.seq (.region s121r0 0 []) (.seq (.seq (.region s121r1 0 []) (.block 0 (.loop s121l7))) (.seq (.region s121r8 0 []) .ret))) Q st := rfl
theorem u121r0 : goReg P s121r0 o p Q st = goLit P (litOf s121r0.eq_1) o p Q st := goReg_of _
theorem u121r1 : goReg P s121r1 o p Q st = goLit P (litOf s121r1.eq_1) o p Q st := goReg_of _
theorem u121r2 : goReg P s121r2 o p Q st = goLit P (litOf s121r2.eq_1) o p Q st := goReg_of _
theorem u121r3 : goReg P s121r3 o p Q st = goLit P (litOf s121r3.eq_1) o p Q st := goReg_of _
theorem u121r4 : goReg P s121r4 o p Q st = goLit P (litOf s121r4.eq_1) o p Q st := goReg_of _
theorem u121r5 : goReg P s121r5 o p Q st = goLit P (litOf s121r5.eq_1) o p Q st := goReg_of _
theorem u121r6 : goReg P s121r6 o p Q st = goLit P (litOf s121r6.eq_1) o p Q st := goReg_of _
theorem u121r8 : goReg P s121r8 o p Q st = goLit P (litOf s121r8.eq_1) o p Q st := goReg_of _
attribute [go_sem] u121r0 u121r1 u121r2 u121r3 u121r4 u121r5 u121r6 e121l7 u121r8 e121
set_option maxRecDepth 100000 in
theorem F121 : FnIs Try.prog 121 Try.f121 [] news s121 [.tmp 4] 19 := ⟨follows, Try.func121, by kernel_rfl, by kernel_rfl, by kernel_rfl, by kernel_rfl⟩

noncomputable def s103r0 : List SOper := [
  ⟨some 4, .mov (.k (.d (.bool false))), none⟩]
noncomputable def s103r1 : List SOper := [
  ⟨some 5, .mov (.t 0), none⟩,
  ⟨some 6, .mov (.t 1), none⟩,
  ⟨some 7, .call (.k (.d (.func (.func 120) [] []))) [(.t 5), (.t 6)], none⟩,
  ⟨some 8, .bin .geq (.t 7) (.k (.d (.int .i64 0))), none⟩,
  ⟨some 4, .mov (.t 8), none⟩]
noncomputable def s103 : SCode := (.seq (.region s103r0 0 []) (.seq (.region s103r1 0 []) .ret))
theorem e103 : AWp P k0 s103 Q st = AWp P k0 (.seq (.region s103r0 0 []) (.seq (.region s103r1 0 []) .ret)) Q st := rfl
theorem u103r0 : goReg P s103r0 o p Q st = goLit P (litOf s103r0.eq_1) o p Q st := goReg_of _
theorem u103r1 : goReg P s103r1 o p Q st = goLit P (litOf s103r1.eq_1) o p Q st := goReg_of _
attribute [go_sem] u103r0 u103r1 e103
set_option maxRecDepth 100000 in
theorem F103 : FnIs Try.prog 103 Try.f103 [] news s103 [.tmp 4] 9 := ⟨follows, Try.func103, by kernel_rfl, by kernel_rfl, by kernel_rfl, by kernel_rfl⟩

noncomputable def s106r0 : List SOper := [
  ⟨some 4, .mov (.k (.d (.bool false))), none⟩]
noncomputable def s106r1 : List SOper := [
  ⟨some 5, .mov (.t 0), none⟩,
  ⟨some 6, .mov (.t 1), none⟩,
  ⟨some 7, .call (.k (.d (.func (.func 121) [] []))) [(.t 5), (.t 6)], none⟩,
  ⟨some 8, .bin .geq (.t 7) (.k (.d (.int .i64 0))), none⟩,
  ⟨some 4, .mov (.t 8), none⟩]
noncomputable def s106 : SCode := (.seq (.region s106r0 0 []) (.seq (.region s106r1 0 []) .ret))
theorem e106 : AWp P k0 s106 Q st = AWp P k0 (.seq (.region s106r0 0 []) (.seq (.region s106r1 0 []) .ret)) Q st := rfl
theorem u106r0 : goReg P s106r0 o p Q st = goLit P (litOf s106r0.eq_1) o p Q st := goReg_of _
theorem u106r1 : goReg P s106r1 o p Q st = goLit P (litOf s106r1.eq_1) o p Q st := goReg_of _
attribute [go_sem] u106r0 u106r1 e106
set_option maxRecDepth 100000 in
theorem F106 : FnIs Try.prog 106 Try.f106 [] news s106 [.tmp 4] 9 := ⟨follows, Try.func106, by kernel_rfl, by kernel_rfl, by kernel_rfl, by kernel_rfl⟩

end

def Sidx {α : Type} (es : Nat) (enc : α → List D) (k : FuncId) (l : List α) (f : α → Bool) (i : { i : Nat // (l.take i).any f = false }) : St :=
  ⟨[(0, true, .d (.sl es (l.map enc))), (1, true, .d (.func (.func k) [] [])), (6, true, .d (.sl es (l.map enc))), (7, true, .d (.int .i64 l.length)), (8, true, .d (.int .i64 (i.val : Nat)))], [], [], 1⟩

theorem indexV_ok {k : FuncId} {f : AV → Bool} (hb : (Try.prog.funcs[k]?).any (fun fn => fn.body.isSome && !(fn.name == "runtime.NumGoroutine")) = true)
    (hf : ∀ v, ACall Try.prog k [.d (.agg (encAV v))] [] (.d (.bool (f v))) []) (l : List AV) (hl : l.length ≤ maxLen) :
    ACall Try.prog 120 [.d (.sl 3 (l.map encAV)), .d (.func (.func k) [] [])] [] (.d (.int .i64 (idx f l))) [] := by
  first | refine F120.go ?_ | refine F120.goT ?_
  simp only [go_sem, Nat.reduceAdd, Nat.reduceMul, Nat.reduceSub, Nat.reduceEqDiff, Nat.reduceLT, Nat.reduceLeDiff, Nat.reduceBEq, reduceIte, reduceCtorEq, Int.reduceAdd, Int.reduceLT, Int.reduceLE, Int.reduceGT, Int.reduceGE, Int.reduceEq, Int.reduceNe, Int.reduceBEq, Int.reduceBNe, Int.reduceToNat, Int.reduceNeg]
  refine AWp_loop (Sidx 3 encAV k l f) (fun i => l.length - i.val) ⟨0, rfl⟩ ?_ (fun i => ?_)
  · simp only [Sidx, noPtrR_map encAV_noPtr, go_sem, Nat.reduceAdd, Nat.reduceMul, Nat.reduceSub, Nat.reduceEqDiff, Nat.reduceLT, Nat.reduceLeDiff, Nat.reduceBEq, reduceIte, reduceCtorEq, Int.reduceAdd, Int.reduceLT, Int.reduceLE, Int.reduceGT, Int.reduceGE, Int.reduceEq, Int.reduceNe, Int.reduceBEq, Int.reduceBNe, Int.reduceToNat, Int.reduceNeg]
  · obtain ⟨i, hi⟩ := i
    simp only [Sidx, go_sem, Nat.reduceAdd, Nat.reduceMul, Nat.reduceSub, Nat.reduceEqDiff, Nat.reduceLT, Nat.reduceLeDiff, Nat.reduceBEq, reduceIte, reduceCtorEq, Int.reduceAdd, Int.reduceLT, Int.reduceLE, Int.reduceGT, Int.reduceGE, Int.reduceEq, Int.reduceNe, Int.reduceBEq, Int.reduceBNe, Int.reduceToNat, Int.reduceNeg]
    refine AWp_cond _ rfl rfl (fun h => ?_) (fun h => ?_)
    · have hil : i < l.length := by simpa using h
      simp only [getD_map encAV l hil, encAV, go_sem, Nat.reduceAdd, Nat.reduceMul, Nat.reduceSub, Nat.reduceEqDiff, Nat.reduceLT, Nat.reduceLeDiff, Nat.reduceBEq, reduceIte, reduceCtorEq, Int.reduceAdd, Int.reduceLT, Int.reduceLE, Int.reduceGT, Int.reduceGE, Int.reduceEq, Int.reduceNe, Int.reduceBEq, Int.reduceBNe, Int.reduceToNat, Int.reduceNeg]
      refine ⟨by omega, ?_⟩
      refine callO_pure (hf l[i]) hb (fun h => h) (fun _ => ⟨matchA_refl, trivial⟩) rfl rfl rfl ?_
      simp only [go_sem, Nat.reduceAdd, Nat.reduceMul, Nat.reduceSub, Nat.reduceEqDiff, Nat.reduceLT, Nat.reduceLeDiff, Nat.reduceBEq, reduceIte, reduceCtorEq, Int.reduceAdd, Int.reduceLT, Int.reduceLE, Int.reduceGT, Int.reduceGE, Int.reduceEq, Int.reduceNe, Int.reduceBEq, Int.reduceBNe, Int.reduceToNat, Int.reduceNeg]
      refine AWp_cond _ rfl rfl (fun h2 => ?_) (fun h2 => ?_)
      · simp only [idx_some hi hil h2, go_sem, Nat.reduceAdd, Nat.reduceMul, Nat.reduceSub, Nat.reduceEqDiff, Nat.reduceLT, Nat.reduceLeDiff, Nat.reduceBEq, reduceIte, reduceCtorEq, Int.reduceAdd, Int.reduceLT, Int.reduceLE, Int.reduceGT, Int.reduceGE, Int.reduceEq, Int.reduceNe, Int.reduceBEq, Int.reduceBNe, Int.reduceToNat, Int.reduceNeg]
      · simp only [go_sem, Nat.reduceAdd, Nat.reduceMul, Nat.reduceSub, Nat.reduceEqDiff, Nat.reduceLT, Nat.reduceLeDiff, Nat.reduceBEq, reduceIte, reduceCtorEq, Int.reduceAdd, Int.reduceLT, Int.reduceLE, Int.reduceGT, Int.reduceGE, Int.reduceEq, Int.reduceNe, Int.reduceBEq, Int.reduceBNe, Int.reduceToNat, Int.reduceNeg]
        refine ⟨⟨i + 1, take_any_succ hi hil h2⟩, ?_, by dsimp only; omega⟩
        simp only [Sidx, wrap_succ (show i < 9223372036854775807 by unfold maxLen at hl; omega), noPtrR_map encAV_noPtr, go_sem, Nat.reduceAdd, Nat.reduceMul, Nat.reduceSub, Nat.reduceEqDiff, Nat.reduceLT, Nat.reduceLeDiff, Nat.reduceBEq, reduceIte, reduceCtorEq, Int.reduceAdd, Int.reduceLT, Int.reduceLE, Int.reduceGT, Int.reduceGE, Int.reduceEq, Int.reduceNe, Int.reduceBEq, Int.reduceBNe, Int.reduceToNat, Int.reduceNeg]
    · have hil : l.length ≤ i := by simpa using h
      simp only [idx_none hi hil, go_sem, Nat.reduceAdd, Nat.reduceMul, Nat.reduceSub, Nat.reduceEqDiff, Nat.reduceLT, Nat.reduceLeDiff, Nat.reduceBEq, reduceIte, reduceCtorEq, Int.reduceAdd, Int.reduceLT, Int.reduceLE, Int.reduceGT, Int.reduceGE, Int.reduceEq, Int.reduceNe, Int.reduceBEq, Int.reduceBNe, Int.reduceToNat, Int.reduceNeg]
theorem indexI_ok {k : FuncId} {f : Int → Bool} (hb : (Try.prog.funcs[k]?).any (fun fn => fn.body.isSome && !(fn.name == "runtime.NumGoroutine")) = true)
    (hf : ∀ v, ACall Try.prog k [.d (.int .i64 v)] [] (.d (.bool (f v))) []) (l : List Int) (hl : l.length ≤ maxLen) :
    ACall Try.prog 121 [.d (.sl 1 (l.map encI)), .d (.func (.func k) [] [])] [] (.d (.int .i64 (idx f l))) [] := by
  first | refine F121.go ?_ | refine F121.goT ?_
  simp only [go_sem, Nat.reduceAdd, Nat.reduceMul, Nat.reduceSub, Nat.reduceEqDiff, Nat.reduceLT, Nat.reduceLeDiff, Nat.reduceBEq, reduceIte, reduceCtorEq, Int.reduceAdd, Int.reduceLT, Int.reduceLE, Int.reduceGT, Int.reduceGE, Int.reduceEq, Int.reduceNe, Int.reduceBEq, Int.reduceBNe, Int.reduceToNat, Int.reduceNeg]
  refine AWp_loop (Sidx 1 encI k l f) (fun i => l.length - i.val) ⟨0, rfl⟩ ?_ (fun i => ?_)
  · simp only [Sidx, noPtrR_map encI_noPtr, go_sem, Nat.reduceAdd, Nat.reduceMul, Nat.reduceSub, Nat.reduceEqDiff, Nat.reduceLT, Nat.reduceLeDiff, Nat.reduceBEq, reduceIte, reduceCtorEq, Int.reduceAdd, Int.reduceLT, Int.reduceLE, Int.reduceGT, Int.reduceGE, Int.reduceEq, Int.reduceNe, Int.reduceBEq, Int.reduceBNe, Int.reduceToNat, Int.reduceNeg]
  · obtain ⟨i, hi⟩ := i
    simp only [Sidx, go_sem, Nat.reduceAdd, Nat.reduceMul, Nat.reduceSub, Nat.reduceEqDiff, Nat.reduceLT, Nat.reduceLeDiff, Nat.reduceBEq, reduceIte, reduceCtorEq, Int.reduceAdd, Int.reduceLT, Int.reduceLE, Int.reduceGT, Int.reduceGE, Int.reduceEq, Int.reduceNe, Int.reduceBEq, Int.reduceBNe, Int.reduceToNat, Int.reduceNeg]
    refine AWp_cond _ rfl rfl (fun h => ?_) (fun h => ?_)
    · have hil : i < l.length := by simpa using h
      simp only [getD_map encI l hil, encI, go_sem, Nat.reduceAdd, Nat.reduceMul, Nat.reduceSub, Nat.reduceEqDiff, Nat.reduceLT, Nat.reduceLeDiff, Nat.reduceBEq, reduceIte, reduceCtorEq, Int.reduceAdd, Int.reduceLT, Int.reduceLE, Int.reduceGT, Int.reduceGE, Int.reduceEq, Int.reduceNe, Int.reduceBEq, Int.reduceBNe, Int.reduceToNat, Int.reduceNeg]
      refine ⟨by omega, ?_⟩
      refine callO_pure (hf l[i]) hb (fun h => h) (fun _ => ⟨matchA_refl, trivial⟩) rfl rfl rfl ?_
      simp only [go_sem, Nat.reduceAdd, Nat.reduceMul, Nat.reduceSub, Nat.reduceEqDiff, Nat.reduceLT, Nat.reduceLeDiff, Nat.reduceBEq, reduceIte, reduceCtorEq, Int.reduceAdd, Int.reduceLT, Int.reduceLE, Int.reduceGT, Int.reduceGE, Int.reduceEq, Int.reduceNe, Int.reduceBEq, Int.reduceBNe, Int.reduceToNat, Int.reduceNeg]
      refine AWp_cond _ rfl rfl (fun h2 => ?_) (fun h2 => ?_)
      · simp only [idx_some hi hil h2, go_sem, Nat.reduceAdd, Nat.reduceMul, Nat.reduceSub, Nat.reduceEqDiff, Nat.reduceLT, Nat.reduceLeDiff, Nat.reduceBEq, reduceIte, reduceCtorEq, Int.reduceAdd, Int.reduceLT, Int.reduceLE, Int.reduceGT, Int.reduceGE, Int.reduceEq, Int.reduceNe, Int.reduceBEq, Int.reduceBNe, Int.reduceToNat, Int.reduceNeg]
      · simp only [go_sem, Nat.reduceAdd, Nat.reduceMul, Nat.reduceSub, Nat.reduceEqDiff, Nat.reduceLT, Nat.reduceLeDiff, Nat.reduceBEq, reduceIte, reduceCtorEq, Int.reduceAdd, Int.reduceLT, Int.reduceLE, Int.reduceGT, Int.reduceGE, Int.reduceEq, Int.reduceNe, Int.reduceBEq, Int.reduceBNe, Int.reduceToNat, Int.reduceNeg]
        refine ⟨⟨i + 1, take_any_succ hi hil h2⟩, ?_, by dsimp only; omega⟩
        simp only [Sidx, wrap_succ (show i < 9223372036854775807 by unfold maxLen at hl; omega), noPtrR_map encI_noPtr, go_sem, Nat.reduceAdd, Nat.reduceMul, Nat.reduceSub, Nat.reduceEqDiff, Nat.reduceLT, Nat.reduceLeDiff, Nat.reduceBEq, reduceIte, reduceCtorEq, Int.reduceAdd, Int.reduceLT, Int.reduceLE, Int.reduceGT, Int.reduceGE, Int.reduceEq, Int.reduceNe, Int.reduceBEq, Int.reduceBNe, Int.reduceToNat, Int.reduceNeg]
    · have hil : l.length ≤ i := by simpa using h
      simp only [idx_none hi hil, go_sem, Nat.reduceAdd, Nat.reduceMul, Nat.reduceSub, Nat.reduceEqDiff, Nat.reduceLT, Nat.reduceLeDiff, Nat.reduceBEq, reduceIte, reduceCtorEq, Int.reduceAdd, Int.reduceLT, Int.reduceLE, Int.reduceGT, Int.reduceGE, Int.reduceEq, Int.reduceNe, Int.reduceBEq, Int.reduceBNe, Int.reduceToNat, Int.reduceNeg]

theorem containsV_ok {k : FuncId} {f : AV → Bool} (hb : (Try.prog.funcs[k]?).any (fun fn => fn.body.isSome && !(fn.name == "runtime.NumGoroutine")) = true)
    (hf : ∀ v, ACall Try.prog k [.d (.agg (encAV v))] [] (.d (.bool (f v))) []) (l : List AV) (hl : l.length ≤ maxLen) :
    ACall Try.prog 103 [.d (.sl 3 (l.map encAV)), .d (.func (.func k) [] [])] [] (.d (.bool (l.any f))) [] := by
  first | refine F103.go ?_ | refine F103.goT ?_
  simp only [go_sem, Nat.reduceAdd, Nat.reduceMul, Nat.reduceSub, Nat.reduceEqDiff, Nat.reduceLT, Nat.reduceLeDiff, Nat.reduceBEq, reduceIte, reduceCtorEq, Int.reduceAdd, Int.reduceLT, Int.reduceLE, Int.reduceGT, Int.reduceGE, Int.reduceEq, Int.reduceNe, Int.reduceBEq, Int.reduceBNe, Int.reduceToNat, Int.reduceNeg]
  refine callO_pure (indexV_ok hb hf l hl) F120.body (fun h => h) (fun _ => ⟨matchA_refl, matchA_refl, trivial⟩) (by simp [ASlot.noPtr, D.noPtr, D.noPtrL, noPtrR_map encAV_noPtr]) rfl rfl ?_
  simp only [idx_ge, go_sem, Nat.reduceAdd, Nat.reduceMul, Nat.reduceSub, Nat.reduceEqDiff, Nat.reduceLT, Nat.reduceLeDiff, Nat.reduceBEq, reduceIte, reduceCtorEq, Int.reduceAdd, Int.reduceLT, Int.reduceLE, Int.reduceGT, Int.reduceGE, Int.reduceEq, Int.reduceNe, Int.reduceBEq, Int.reduceBNe, Int.reduceToNat, Int.reduceNeg]


theorem containsI_ok {k : FuncId} {f : Int → Bool} (hb : (Try.prog.funcs[k]?).any (fun fn => fn.body.isSome && !(fn.name == "runtime.NumGoroutine")) = true)
    (hf : ∀ v, ACall Try.prog k [.d (.int .i64 v)] [] (.d (.bool (f v))) []) (l : List Int) (hl : l.length ≤ maxLen) :
    ACall Try.prog 106 [.d (.sl 1 (l.map encI)), .d (.func (.func k) [] [])] [] (.d (.bool (l.any f))) [] := by
  first | refine F106.go ?_ | refine F106.goT ?_
  simp only [go_sem, Nat.reduceAdd, Nat.reduceMul, Nat.reduceSub, Nat.reduceEqDiff, Nat.reduceLT, Nat.reduceLeDiff, Nat.reduceBEq, reduceIte, reduceCtorEq, Int.reduceAdd, Int.reduceLT, Int.reduceLE, Int.reduceGT, Int.reduceGE, Int.reduceEq, Int.reduceNe, Int.reduceBEq, Int.reduceBNe, Int.reduceToNat, Int.reduceNeg]
  refine callO_pure (indexI_ok hb hf l hl) F121.body (fun h => h) (fun _ => ⟨matchA_refl, matchA_refl, trivial⟩) (by simp [ASlot.noPtr, D.noPtr, D.noPtrL, noPtrR_map encI_noPtr]) rfl rfl ?_
  simp only [idx_ge, go_sem, Nat.reduceAdd, Nat.reduceMul, Nat.reduceSub, Nat.reduceEqDiff, Nat.reduceLT, Nat.reduceLeDiff, Nat.reduceBEq, reduceIte, reduceCtorEq, Int.reduceAdd, Int.reduceLT, Int.reduceLE, Int.reduceGT, Int.reduceGE, Int.reduceEq, Int.reduceNe, Int.reduceBEq, Int.reduceBNe, Int.reduceToNat, Int.reduceNeg]


section
variable {P : Program} {k0 o : Nat} {p : List (Nat × Nat)} {Q : SExit → St → Prop} {st : St}
noncomputable def s80r0 : List SOper := [
  ⟨some 1, .box 1 (.t 0), none⟩,
  ⟨some 2, .mov (.k (.d (.bool false))), none⟩]
noncomputable def s80r1 : List SOper := [
  ⟨some 3, .load (some 9) (.t 1), none⟩,
  ⟨some 4, .call (.k (.d (.func (.func 102) [] []))) [(.t 3)], none⟩,
  ⟨some 5, .mov (.t 4), none⟩,
  ⟨some 6, .faddr 2 (.t 1), some (5, true)⟩,
  ⟨some 7, .load none (.t 6), some (5, true)⟩,
  ⟨some 8, .bin .eql (.t 7) (.k (.d (.int .i64 0))), some (5, true)⟩,
  ⟨some 9, .mov (.t 8), some (5, true)⟩,
  ⟨some 10, .faddr 2 (.t 1), some (9, false)⟩,
  ⟨some 11, .load none (.t 10), some (9, false)⟩,
  ⟨some 12, .bin .eql (.t 11) (.k (.d (.int .i64 1))), some (9, false)⟩,
  ⟨some 13, .pick (.t 9) (.k (.d (.bool true))) (.t 12), some (5, true)⟩,
  ⟨some 14, .pick (.t 5) (.t 13) (.k (.d (.bool false))), none⟩,
  ⟨some 15, .mov (.t 14), none⟩,
  ⟨some 16, .faddr 6 (.t 1), some (15, true)⟩,
  ⟨some 17, .load none (.t 16), some (15, true)⟩,
  ⟨some 18, .bin .geq (.t 17) (.k (.d (.int .i64 0))), some (15, true)⟩,
  ⟨some 19, .pick (.t 15) (.t 18) (.k (.d (.bool false))), none⟩,
  ⟨some 20, .mov (.t 19), none⟩,
  ⟨some 21, .faddr 6 (.t 1), some (20, true)⟩,
  ⟨some 22, .load none (.t 21), some (20, true)⟩,
  ⟨some 23, .bin .lss (.t 22) (.k (.d (.int .i64 40))), some (20, true)⟩,
  ⟨some 24, .pick (.t 20) (.t 23) (.k (.d (.bool false))), none⟩,
  ⟨some 25, .mov (.t 24), none⟩,
  ⟨some 26, .faddr 7 (.t 1), some (25, true)⟩,
  ⟨some 27, .load none (.t 26), some (25, true)⟩,
  ⟨some 28, .len (.t 27), some (25, true)⟩,
  ⟨some 29, .bin .leq (.t 28) (.k (.d (.int .i64 4))), some (25, true)⟩,
  ⟨some 30, .pick (.t 25) (.t 29) (.k (.d (.bool false))), none⟩,
  ⟨some 31, .mov (.t 30), none⟩,
  ⟨some 32, .faddr 8 (.t 1), some (31, true)⟩,
  ⟨some 33, .load none (.t 32), some (31, true)⟩,
  ⟨some 34, .len (.t 33), some (31, true)⟩,
  ⟨some 35, .bin .leq (.t 34) (.k (.d (.int .i64 6))), some (31, true)⟩,
  ⟨some 36, .pick (.t 31) (.t 35) (.k (.d (.bool false))), none⟩,
  ⟨some 37, .mov (.t 36), none⟩,
  ⟨some 38, .faddr 7 (.t 1), some (37, true)⟩,
  ⟨some 39, .load none (.t 38), some (37, true)⟩,
  ⟨some 40, .call (.k (.d (.func (.func 103) [] []))) [(.t 39), (.k (.d (.func (.func 104) [] [])))], some (37, true)⟩,
  ⟨some 41, .not (.t 40), some (37, true)⟩,
  ⟨some 42, .pick (.t 37) (.t 41) (.k (.d (.bool false))), none⟩,
  ⟨some 43, .mov (.t 42), none⟩,
  ⟨some 44, .faddr 8 (.t 1), some (43, true)⟩,
  ⟨some 45, .load none (.t 44), some (43, true)⟩,
  ⟨some 46, .call (.k (.d (.func (.func 106) [] []))) [(.t 45), (.k (.d (.func (.func 107) [] [])))], some (43, true)⟩,
  ⟨some 47, .not (.t 46), some (43, true)⟩,
  ⟨some 48, .pick (.t 43) (.t 47) (.k (.d (.bool false))), none⟩,
  ⟨some 2, .mov (.t 48), none⟩]
noncomputable def s80 : SCode := (.seq (.region s80r0 1 []) (.seq (.region s80r1 0 []) .ret))
theorem e80 : AWp P k0 s80 Q st = AWp P k0 (.seq (.region s80r0 1 []) (.seq (.region s80r1 0 []) .ret)) Q st := rfl
theorem u80r0 : goReg P s80r0 o p Q st = goLit P (litOf s80r0.eq_1) o p Q st := goReg_of _
theorem u80r1 : goReg P s80r1 o p Q st = goLit P (litOf s80r1.eq_1) o p Q st := goReg_of _
attribute [go_sem] u80r0 u80r1 e80
set_option maxRecDepth 100000 in
theorem F80 : FnIs Try.prog 80 Try.f80 [] news s80 [.tmp 2] 49 := ⟨follows, Try.func80, by kernel_rfl, by kernel_rfl, by kernel_rfl, by kernel_rfl⟩

noncomputable def s47r0 : List SOper := [
  ⟨some 1, .box 1 (.t 0), none⟩,
  ⟨some 2, .mov (.k (.d (.bool false))), none⟩]
noncomputable def s47r1 : List SOper := [
  ⟨some 4, .build [.nilfunc] [(0, 1, (.k (.d (.func (.func 80) [] []))))], none⟩,
  ⟨some 5, .build [.nilfunc] [(0, 1, (.k (.d (.func (.func 81) [] []))))], none⟩,
  ⟨some 6, .build [.nilfunc] [(0, 1, (.k (.d (.func (.func 82) [] []))))], none⟩,
  ⟨some 7, .build [.nilfunc] [(0, 1, (.k (.d (.func (.func 82) [] []))))], none⟩,
  ⟨some 8, .buildSlice false 1 5 [.nilfunc] [(1, 1, (.t 4)), (2, 1, (.t 5)), (3, 1, (.t 6)), (4, 1, (.t 7))], none⟩,
  ⟨some 3, .mov (.t 8), none⟩]
noncomputable def s47r2 : List SOper := [
  ⟨some 9, .faddr 0 (.t 1), none⟩,
  ⟨some 10, .load none (.t 9), none⟩,
  ⟨some 11, .bin .geq (.t 10) (.k (.d (.int .i64 1))), none⟩,
  ⟨some 12, .mov (.t 11), none⟩,
  ⟨some 13, .faddr 0 (.t 1), some (12, true)⟩,
  ⟨some 14, .load none (.t 13), some (12, true)⟩,
  ⟨some 15, .bin .leq (.t 14) (.k (.d (.int .i64 4))), some (12, true)⟩,
  ⟨some 16, .pick (.t 12) (.t 15) (.k (.d (.bool false))), none⟩,
  ⟨some 17, .mov (.t 16), none⟩,
  ⟨some 18, .faddr 1 (.t 1), some (17, true)⟩,
  ⟨some 19, .load none (.t 18), some (17, true)⟩,
  ⟨some 20, .bin .geq (.t 19) (.k (.d (.int .i64 1))), some (17, true)⟩,
  ⟨some 21, .pick (.t 17) (.t 20) (.k (.d (.bool false))), none⟩,
  ⟨some 22, .mov (.t 21), none⟩,
  ⟨some 23, .faddr 1 (.t 1), some (22, true)⟩,
  ⟨some 24, .load none (.t 23), some (22, true)⟩,
  ⟨some 25, .bin .leq (.t 24) (.k (.d (.int .i64 32))), some (22, true)⟩,
  ⟨some 26, .pick (.t 22) (.t 25) (.k (.d (.bool false))), none⟩,
  ⟨some 27, .mov (.t 26), none⟩,
  ⟨some 28, .mov (.t 3), some (27, true)⟩,
  ⟨some 29, .faddr 0 (.t 1), some (27, true)⟩,
  ⟨some 30, .load none (.t 29), some (27, true)⟩,
  ⟨some 31, .iaddr 1 (.t 28) (.t 30), some (27, true)⟩,
  ⟨some 32, .faddr 0 (.t 31), some (27, true)⟩,
  ⟨some 33, .load none (.t 32), some (27, true)⟩,
  ⟨some 34, .load (some 9) (.t 1), some (27, true)⟩,
  ⟨some 35, .call (.t 33) [(.t 34)], some (27, true)⟩,
  ⟨some 36, .pick (.t 27) (.t 35) (.k (.d (.bool false))), none⟩,
  ⟨some 2, .mov (.t 36), none⟩]
noncomputable def s47 : SCode := (.seq (.region s47r0 1 []) (.seq (.region s47r1 0 []) (.seq (.region s47r2 0 []) .ret)))
theorem e47 : AWp P k0 s47 Q st = AWp P k0 (.seq (.region s47r0 1 []) (.seq (.region s47r1 0 []) (.seq (.region s47r2 0 []) .ret))) Q st := rfl
theorem u47r0 : goReg P s47r0 o p Q st = goLit P (litOf s47r0.eq_1) o p Q st := goReg_of _
theorem u47r1 : goReg P s47r1 o p Q st = goLit P (litOf s47r1.eq_1) o p Q st := goReg_of _
theorem u47r2 : goReg P s47r2 o p Q st = goLit P (litOf s47r2.eq_1) o p Q st := goReg_of _
attribute [go_sem] u47r0 u47r1 u47r2 e47
set_option maxRecDepth 100000 in
theorem F47 : FnIs Try.prog 47 Try.f47 [] news s47 [.tmp 2] 37 := ⟨follows, Try.func47, by kernel_rfl, by kernel_rfl, by kernel_rfl, by kernel_rfl⟩

end

def data (p : Pk) : Bool := numbered p && (p.epoch == 0 || p.epoch == 1) && decide (p.label ≥ 0) && decide (p.label < 40) && decide ((p.values.length : Int) ≤ 4) && decide ((p.clock.length : Int) ≤ 6) && !(p.values.any fun v => !proper v) && !(p.clock.any fun n => decide (n < 0) || decide (n > 1099511627776))

theorem data_ok (p : Pk) (h1 : p.values.length ≤ maxLen) (h2 : p.clock.length ≤ maxLen) : ACall Try.prog 80 [.d (.agg (encPk p))] [] (.d (.bool (data p))) [] := by
  first | refine F80.go ?_ | refine F80.goT ?_
  simp only [encPk, go_sem, Nat.reduceAdd, Nat.reduceMul, Nat.reduceSub, Nat.reduceEqDiff, Nat.reduceLT, Nat.reduceLeDiff, Nat.reduceBEq, reduceIte, reduceCtorEq, Int.reduceAdd, Int.reduceLT, Int.reduceLE, Int.reduceGT, Int.reduceGE, Int.reduceEq, Int.reduceNe, Int.reduceBEq, Int.reduceBNe, Int.reduceToNat, Int.reduceNeg]
  refine callO_pure (numbered_ok p) F102.body (fun h => h) (fun _ => ⟨matchA_refl, trivial⟩) (noPtr_pk p) rfl rfl ?_
  simp only [go_sem, Nat.reduceAdd, Nat.reduceMul, Nat.reduceSub, Nat.reduceEqDiff, Nat.reduceLT, Nat.reduceLeDiff, Nat.reduceBEq, reduceIte, reduceCtorEq, Int.reduceAdd, Int.reduceLT, Int.reduceLE, Int.reduceGT, Int.reduceGE, Int.reduceEq, Int.reduceNe, Int.reduceBEq, Int.reduceBNe, Int.reduceToNat, Int.reduceNeg]
  refine ⟨by simp_all, ?_⟩
  refine callO_pure (containsV_ok F104.body data1_ok p.values h1) F103.body (fun h => h) (fun _ => ⟨matchA_refl, matchA_refl, trivial⟩) (by simp [ASlot.noPtr, D.noPtr, D.noPtrL, noPtrR_map encAV_noPtr]) rfl rfl ?_
  simp only [go_sem, Nat.reduceAdd, Nat.reduceMul, Nat.reduceSub, Nat.reduceEqDiff, Nat.reduceLT, Nat.reduceLeDiff, Nat.reduceBEq, reduceIte, reduceCtorEq, Int.reduceAdd, Int.reduceLT, Int.reduceLE, Int.reduceGT, Int.reduceGE, Int.reduceEq, Int.reduceNe, Int.reduceBEq, Int.reduceBNe, Int.reduceToNat, Int.reduceNeg]
  refine callO_pure (containsI_ok F107.body data2_ok p.clock h2) F106.body (fun h => h) (fun _ => ⟨matchA_refl, matchA_refl, trivial⟩) (by simp [ASlot.noPtr, D.noPtr, D.noPtrL, noPtrR_map encI_noPtr]) rfl rfl ?_
  simp only [go_sem, Nat.reduceAdd, Nat.reduceMul, Nat.reduceSub, Nat.reduceEqDiff, Nat.reduceLT, Nat.reduceLeDiff, Nat.reduceBEq, reduceIte, reduceCtorEq, Int.reduceAdd, Int.reduceLT, Int.reduceLE, Int.reduceGT, Int.reduceGE, Int.reduceEq, Int.reduceNe, Int.reduceBEq, Int.reduceBNe, Int.reduceToNat, Int.reduceNeg]
  rfl

def kindOk (p : Pk) : Bool := decide (p.kind ≥ 1) && decide (p.kind ≤ 4) && decide (p.sess ≥ 1) && decide (p.sess ≤ 32)
def packetValid (p : Pk) : Bool := kindOk p && (if p.kind = 1 then data p else if p.kind = 2 then ack p else order p)

theorem packetValid_ok (p : Pk) (h1 : p.values.length ≤ maxLen) (h2 : p.clock.length ≤ maxLen) : ACall Try.prog 47 [.d (.agg (encPk p))] [] (.d (.bool (packetValid p))) [] := by
  first | refine F47.go ?_ | refine F47.goT ?_
  simp only [encPk, go_sem, Nat.reduceAdd, Nat.reduceMul, Nat.reduceSub, Nat.reduceEqDiff, Nat.reduceLT, Nat.reduceLeDiff, Nat.reduceBEq, reduceIte, reduceCtorEq, Int.reduceAdd, Int.reduceLT, Int.reduceLE, Int.reduceGT, Int.reduceGE, Int.reduceEq, Int.reduceNe, Int.reduceBEq, Int.reduceBNe, Int.reduceToNat, Int.reduceNeg]
  have hk : (decide (p.kind ≥ 1) && decide (p.kind ≤ 4) && decide (p.sess ≥ 1) && decide (p.sess ≤ 32)) = kindOk p := rfl
  simp only [hk]
  cases hG : kindOk p with
  | false =>
    simp only [go_sem, Nat.reduceAdd, Nat.reduceMul, Nat.reduceSub, Nat.reduceEqDiff, Nat.reduceLT, Nat.reduceLeDiff, Nat.reduceBEq, reduceIte, reduceCtorEq, Int.reduceAdd, Int.reduceLT, Int.reduceLE, Int.reduceGT, Int.reduceGE, Int.reduceEq, Int.reduceNe, Int.reduceBEq, Int.reduceBNe, Int.reduceToNat, Int.reduceNeg]
    refine callO_off (.bool false) rfl ?_
    simp only [packetValid, hG, go_sem, Nat.reduceAdd, Nat.reduceMul, Nat.reduceSub, Nat.reduceEqDiff, Nat.reduceLT, Nat.reduceLeDiff, Nat.reduceBEq, reduceIte, reduceCtorEq, Int.reduceAdd, Int.reduceLT, Int.reduceLE, Int.reduceGT, Int.reduceGE, Int.reduceEq, Int.reduceNe, Int.reduceBEq, Int.reduceBNe, Int.reduceToNat, Int.reduceNeg]
  | true =>
    have h4 : p.kind = 1 ∨ p.kind = 2 ∨ p.kind = 3 ∨ p.kind = 4 := by simp [kindOk] at hG; omega
    rcases h4 with hp | hp | hp | hp <;> simp only [hp, Int.reduceToNat, Int.reduceLE, Int.reduceLT, go_sem, Nat.reduceAdd, Nat.reduceMul, Nat.reduceSub, Nat.reduceEqDiff, Nat.reduceLT, Nat.reduceLeDiff, Nat.reduceBEq, reduceIte, reduceCtorEq, Int.reduceAdd, Int.reduceLT, Int.reduceLE, Int.reduceGT, Int.reduceGE, Int.reduceEq, Int.reduceNe, Int.reduceBEq, Int.reduceBNe, Int.reduceToNat, Int.reduceNeg]
    · refine callO_pure (data_ok p h1 h2) F80.body (fun h => h) (fun _ => ⟨by simp [matchA, ASlot.eqvD, D.eqv_refl, encPk, hp], trivial⟩) (noPtr_pk p) rfl rfl ?_
      simp only [packetValid, hG, hp, go_sem, Nat.reduceAdd, Nat.reduceMul, Nat.reduceSub, Nat.reduceEqDiff, Nat.reduceLT, Nat.reduceLeDiff, Nat.reduceBEq, reduceIte, reduceCtorEq, Int.reduceAdd, Int.reduceLT, Int.reduceLE, Int.reduceGT, Int.reduceGE, Int.reduceEq, Int.reduceNe, Int.reduceBEq, Int.reduceBNe, Int.reduceToNat, Int.reduceNeg]
    · refine callO_pure (ack_ok p) F81.body (fun h => h) (fun _ => ⟨by simp [matchA, ASlot.eqvD, D.eqv_refl, encPk, hp], trivial⟩) (noPtr_pk p) rfl rfl ?_
      simp only [packetValid, hG, hp, go_sem, Nat.reduceAdd, Nat.reduceMul, Nat.reduceSub, Nat.reduceEqDiff, Nat.reduceLT, Nat.reduceLeDiff, Nat.reduceBEq, reduceIte, reduceCtorEq, Int.reduceAdd, Int.reduceLT, Int.reduceLE, Int.reduceGT, Int.reduceGE, Int.reduceEq, Int.reduceNe, Int.reduceBEq, Int.reduceBNe, Int.reduceToNat, Int.reduceNeg]
    · refine callO_pure (order_ok p) F82.body (fun h => h) (fun _ => ⟨by simp [matchA, ASlot.eqvD, D.eqv_refl, encPk, hp], trivial⟩) (noPtr_pk p) rfl rfl ?_
      simp only [packetValid, hG, hp, go_sem, Nat.reduceAdd, Nat.reduceMul, Nat.reduceSub, Nat.reduceEqDiff, Nat.reduceLT, Nat.reduceLeDiff, Nat.reduceBEq, reduceIte, reduceCtorEq, Int.reduceAdd, Int.reduceLT, Int.reduceLE, Int.reduceGT, Int.reduceGE, Int.reduceEq, Int.reduceNe, Int.reduceBEq, Int.reduceBNe, Int.reduceToNat, Int.reduceNeg]
    · refine callO_pure (order_ok p) F82.body (fun h => h) (fun _ => ⟨by simp [matchA, ASlot.eqvD, D.eqv_refl, encPk, hp], trivial⟩) (noPtr_pk p) rfl rfl ?_
      simp only [packetValid, hG, hp, go_sem, Nat.reduceAdd, Nat.reduceMul, Nat.reduceSub, Nat.reduceEqDiff, Nat.reduceLT, Nat.reduceLeDiff, Nat.reduceBEq, reduceIte, reduceCtorEq, Int.reduceAdd, Int.reduceLT, Int.reduceLE, Int.reduceGT, Int.reduceGE, Int.reduceEq, Int.reduceNe, Int.reduceBEq, Int.reduceBNe, Int.reduceToNat, Int.reduceNeg]
end Go.Proofs.Ythcpckcgjplhiaa
