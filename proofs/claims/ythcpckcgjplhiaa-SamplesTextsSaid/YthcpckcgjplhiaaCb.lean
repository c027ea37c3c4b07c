/- Functions of Go's slices package at the types of packets. -/
import Derived.Test.YthcpckcgjplhiaaCa
namespace Go.Proofs.Ythcpckcgjplhiaa
open Go.Abs
set_option linter.unusedSimpArgs false

/-- The number of the first element that a test lets by; -1: none. -/
def idx {α : Type} (f : α → Bool) (l : List α) : Int := if l.any f then (l.findIdx f : Int) else -1

theorem idx_none {α : Type} {f : α → Bool} {l : List α} {i : Nat} (h : (l.take i).any f = false) (hi : l.length ≤ i) : idx f l = -1 := by
  rw [List.take_of_length_le hi] at h
  simp [idx, h]

theorem idx_some {α : Type} {f : α → Bool} {l : List α} {i : Nat} (h : (l.take i).any f = false) (hi : i < l.length) (hf : f l[i] = true) : idx f l = (i : Int) := by
  have ha : l.any f = true := List.any_eq_true.2 ⟨l[i], List.getElem_mem hi, hf⟩
  have hx : l.findIdx f = i := by
    rw [List.findIdx_eq hi]
    refine ⟨hf, fun j hj => ?_⟩
    rw [List.any_eq_false] at h
    have hj' : j < (l.take i).length := by simp; omega
    have := h (l.take i)[j] (List.getElem_mem hj')
    simpa using this
  simp [idx, ha, hx]

theorem take_any_succ {α : Type} {f : α → Bool} {l : List α} {i : Nat} (h : (l.take i).any f = false) (hi : i < l.length) (hf : f l[i] = false) : (l.take (i + 1)).any f = false := by
  rw [List.take_succ_eq_append_getElem hi, List.any_append, h]
  simp [hf]

theorem idx_ge {α : Type} (f : α → Bool) (l : List α) : decide (idx f l ≥ 0) = l.any f := by
  unfold idx
  cases l.any f <;> simp

noncomputable def s_slices_IndexFunc___api_Value_api_Value__r0 : List SOper := [
  ⟨(some 4), .mov (.k (.d (.int .i64 0))), none⟩]
noncomputable def s_slices_IndexFunc___api_Value_api_Value__r1 : List SOper := [
  ⟨(some 6), .mov (.t 0), none⟩,
  ⟨(some 7), .len (.t 6), none⟩,
  ⟨(some 8), .mov (.k (.d (.int .i64 0))), none⟩]
noncomputable def s_slices_IndexFunc___api_Value_api_Value__r2 : List SOper := [
  ⟨(some 9), .bin .lss (.t 8) (.t 7), none⟩]
noncomputable def s_slices_IndexFunc___api_Value_api_Value__r3 : List SOper := [
  ⟨(some 10), .mov (.t 8), none⟩,
  ⟨(some 5), .mov (.t 10), none⟩]
noncomputable def s_slices_IndexFunc___api_Value_api_Value__r4 : List SOper := [
  ⟨(some 11), .mov (.t 1), none⟩,
  ⟨(some 12), .mov (.t 0), none⟩,
  ⟨(some 13), .mov (.t 5), none⟩,
  ⟨(some 14), .iaddr 3 (.t 12) (.t 13), none⟩,
  ⟨(some 15), .load (some 3) (.t 14), none⟩,
  ⟨(some 16), .call (.t 11) [(.t 15)], none⟩]
noncomputable def s_slices_IndexFunc___api_Value_api_Value__r5 : List SOper := [
  ⟨(some 17), .mov (.t 5), none⟩,
  ⟨(some 4), .mov (.t 17), none⟩]
noncomputable def s_slices_IndexFunc___api_Value_api_Value__r6 : List SOper := [
  ⟨(some 18), .bin .add (.t 8) (.k (.d (.int .i64 1))), none⟩,
  ⟨(some 8), .mov (.t 18), none⟩]
noncomputable def s_slices_IndexFunc___api_Value_api_Value__l7 : SCode := (.seq (.region s_slices_IndexFunc___api_Value_api_Value__r2 0 []) (.seq (.cond (.t 9) .skip (.exit 0)) (.seq (.block 1 (.seq (.region s_slices_IndexFunc___api_Value_api_Value__r3 0 []) (.seq (.region s_slices_IndexFunc___api_Value_api_Value__r4 0 []) (.cond (.t 16) (.seq (.region s_slices_IndexFunc___api_Value_api_Value__r5 0 []) .ret) .skip)))) (.region s_slices_IndexFunc___api_Value_api_Value__r6 0 []))))
theorem e_slices_IndexFunc___api_Value_api_Value__l7 {P : Program} {k0 : Nat} {Q : SExit → St → Prop} {st : St} : AWp P k0 s_slices_IndexFunc___api_Value_api_Value__l7 Q st = AWp P k0 (.seq (.region s_slices_IndexFunc___api_Value_api_Value__r2 0 []) (.seq (.cond (.t 9) .skip (.exit 0)) (.seq (.block 1 (.seq (.region s_slices_IndexFunc___api_Value_api_Value__r3 0 []) (.seq (.region s_slices_IndexFunc___api_Value_api_Value__r4 0 []) (.cond (.t 16) (.seq (.region s_slices_IndexFunc___api_Value_api_Value__r5 0 []) .ret) .skip)))) (.region s_slices_IndexFunc___api_Value_api_Value__r6 0 [])))) Q st := rfl
noncomputable def s_slices_IndexFunc___api_Value_api_Value__r8 : List SOper := [
  ⟨(some 4), .mov (.k (.d (.int .i64 (-1)))), none⟩]
noncomputable def s_slices_IndexFunc___api_Value_api_Value_ : SCode := (.seq (.region s_slices_IndexFunc___api_Value_api_Value__r0 0 []) (.seq (.seq (.region s_slices_IndexFunc___api_Value_api_Value__r1 0 []) (.block 0 (.loop s_slices_IndexFunc___api_Value_api_Value__l7))) (.seq (.region s_slices_IndexFunc___api_Value_api_Value__r8 0 []) .ret)))
theorem e_slices_IndexFunc___api_Value_api_Value_ {P : Program} {k0 : Nat} {Q : SExit → St → Prop} {st : St} : AWp P k0 s_slices_IndexFunc___api_Value_api_Value_ Q st = AWp P k0 (.seq (.region s_slices_IndexFunc___api_Value_api_Value__r0 0 []) (.seq (.seq (.region s_slices_IndexFunc___api_Value_api_Value__r1 0 []) (.block 0 (.loop s_slices_IndexFunc___api_Value_api_Value__l7))) (.seq (.region s_slices_IndexFunc___api_Value_api_Value__r8 0 []) .ret))) Q st := rfl
theorem u_slices_IndexFunc___api_Value_api_Value__r0 {P : Program} {o : Nat} {p : List (Nat × Nat)} {Q : SExit → St → Prop} {st : St} : goReg P s_slices_IndexFunc___api_Value_api_Value__r0 o p Q st = goLit P (litOf s_slices_IndexFunc___api_Value_api_Value__r0.eq_1) o p Q st := goReg_of _
theorem u_slices_IndexFunc___api_Value_api_Value__r1 {P : Program} {o : Nat} {p : List (Nat × Nat)} {Q : SExit → St → Prop} {st : St} : goReg P s_slices_IndexFunc___api_Value_api_Value__r1 o p Q st = goLit P (litOf s_slices_IndexFunc___api_Value_api_Value__r1.eq_1) o p Q st := goReg_of _
theorem u_slices_IndexFunc___api_Value_api_Value__r2 {P : Program} {o : Nat} {p : List (Nat × Nat)} {Q : SExit → St → Prop} {st : St} : goReg P s_slices_IndexFunc___api_Value_api_Value__r2 o p Q st = goLit P (litOf s_slices_IndexFunc___api_Value_api_Value__r2.eq_1) o p Q st := goReg_of _
theorem u_slices_IndexFunc___api_Value_api_Value__r3 {P : Program} {o : Nat} {p : List (Nat × Nat)} {Q : SExit → St → Prop} {st : St} : goReg P s_slices_IndexFunc___api_Value_api_Value__r3 o p Q st = goLit P (litOf s_slices_IndexFunc___api_Value_api_Value__r3.eq_1) o p Q st := goReg_of _
theorem u_slices_IndexFunc___api_Value_api_Value__r4 {P : Program} {o : Nat} {p : List (Nat × Nat)} {Q : SExit → St → Prop} {st : St} : goReg P s_slices_IndexFunc___api_Value_api_Value__r4 o p Q st = goLit P (litOf s_slices_IndexFunc___api_Value_api_Value__r4.eq_1) o p Q st := goReg_of _
theorem u_slices_IndexFunc___api_Value_api_Value__r5 {P : Program} {o : Nat} {p : List (Nat × Nat)} {Q : SExit → St → Prop} {st : St} : goReg P s_slices_IndexFunc___api_Value_api_Value__r5 o p Q st = goLit P (litOf s_slices_IndexFunc___api_Value_api_Value__r5.eq_1) o p Q st := goReg_of _
theorem u_slices_IndexFunc___api_Value_api_Value__r6 {P : Program} {o : Nat} {p : List (Nat × Nat)} {Q : SExit → St → Prop} {st : St} : goReg P s_slices_IndexFunc___api_Value_api_Value__r6 o p Q st = goLit P (litOf s_slices_IndexFunc___api_Value_api_Value__r6.eq_1) o p Q st := goReg_of _
theorem u_slices_IndexFunc___api_Value_api_Value__r8 {P : Program} {o : Nat} {p : List (Nat × Nat)} {Q : SExit → St → Prop} {st : St} : goReg P s_slices_IndexFunc___api_Value_api_Value__r8 o p Q st = goLit P (litOf s_slices_IndexFunc___api_Value_api_Value__r8.eq_1) o p Q st := goReg_of _
attribute [go_sem] u_slices_IndexFunc___api_Value_api_Value__r0 u_slices_IndexFunc___api_Value_api_Value__r1 u_slices_IndexFunc___api_Value_api_Value__r2 u_slices_IndexFunc___api_Value_api_Value__r3 u_slices_IndexFunc___api_Value_api_Value__r4 u_slices_IndexFunc___api_Value_api_Value__r5 u_slices_IndexFunc___api_Value_api_Value__r6 e_slices_IndexFunc___api_Value_api_Value__l7 u_slices_IndexFunc___api_Value_api_Value__r8 e_slices_IndexFunc___api_Value_api_Value_
set_option maxRecDepth 100000 in
theorem c_slices_IndexFunc___api_Value_api_Value_ : Try.f120.body.bind (compCode Try.prog Try.f120.ntmps news) = some s_slices_IndexFunc___api_Value_api_Value_ := by kernel_rfl
theorem r_slices_IndexFunc___api_Value_api_Value_ : Try.f120.results.toList.mapM (compRes Try.prog) = some [(.tmp 4)] := by kernel_rfl
theorem n_slices_IndexFunc___api_Value_api_Value_ : Try.f120.ntmps = 19 := by kernel_rfl
theorem b_slices_IndexFunc___api_Value_api_Value_ : (Try.prog.funcs[120]?).any (fun fn => fn.body.isSome && !(fn.name == "runtime.NumGoroutine")) = true := by kernel_rfl
theorem ko_slices_IndexFunc___api_Value_api_Value_ {args : List ASlot} {r : ASlot} {objs objs' : List AObj} (h : AWp Try.prog objs.length s_slices_IndexFunc___api_Value_api_Value_ (bodyQ objs.length [(.tmp 4)] [r] objs') (entrySt args objs)) (hN : args.length ≤ 19 := by simp) (hw : ltB 16 (toksOf args ++ osToks objs) = true := by rfl) : ACall Try.prog 120 args objs r objs' :=
  acall_go (rs := [r]) follows Try.func120 c_slices_IndexFunc___api_Value_api_Value_ r_slices_IndexFunc___api_Value_api_Value_ h (by rw [n_slices_IndexFunc___api_Value_api_Value_]; exact hN) rfl hw
theorem k_slices_IndexFunc___api_Value_api_Value_ {args : List ASlot} {r : ASlot} (h : AWp Try.prog 0 s_slices_IndexFunc___api_Value_api_Value_ (bodyQ 0 [(.tmp 4)] [r] []) (entrySt args [])) (hN : args.length ≤ 19 := by simp) (hw : ltB 16 (toksOf args ++ osToks []) = true := by rfl) : ACall Try.prog 120 args [] r [] := ko_slices_IndexFunc___api_Value_api_Value_ h hN hw

noncomputable def s_slices_IndexFunc___int_int__r0 : List SOper := [
  ⟨(some 4), .mov (.k (.d (.int .i64 0))), none⟩]
noncomputable def s_slices_IndexFunc___int_int__r1 : List SOper := [
  ⟨(some 6), .mov (.t 0), none⟩,
  ⟨(some 7), .len (.t 6), none⟩,
  ⟨(some 8), .mov (.k (.d (.int .i64 0))), none⟩]
noncomputable def s_slices_IndexFunc___int_int__r2 : List SOper := [
  ⟨(some 9), .bin .lss (.t 8) (.t 7), none⟩]
noncomputable def s_slices_IndexFunc___int_int__r3 : List SOper := [
  ⟨(some 10), .mov (.t 8), none⟩,
  ⟨(some 5), .mov (.t 10), none⟩]
noncomputable def s_slices_IndexFunc___int_int__r4 : List SOper := [
  ⟨(some 11), .mov (.t 1), none⟩,
  ⟨(some 12), .mov (.t 0), none⟩,
  ⟨(some 13), .mov (.t 5), none⟩,
  ⟨(some 14), .iaddr 1 (.t 12) (.t 13), none⟩,
  ⟨(some 15), .load none (.t 14), none⟩,
  ⟨(some 16), .call (.t 11) [(.t 15)], none⟩]
noncomputable def s_slices_IndexFunc___int_int__r5 : List SOper := [
  ⟨(some 17), .mov (.t 5), none⟩,
  ⟨(some 4), .mov (.t 17), none⟩]
noncomputable def s_slices_IndexFunc___int_int__r6 : List SOper := [
  ⟨(some 18), .bin .add (.t 8) (.k (.d (.int .i64 1))), none⟩,
  ⟨(some 8), .mov (.t 18), none⟩]
noncomputable def s_slices_IndexFunc___int_int__l7 : SCode := (.seq (.region s_slices_IndexFunc___int_int__r2 0 []) (.seq (.cond (.t 9) .skip (.exit 0)) (.seq (.block 1 (.seq (.region s_slices_IndexFunc___int_int__r3 0 []) (.seq (.region s_slices_IndexFunc___int_int__r4 0 []) (.cond (.t 16) (.seq (.region s_slices_IndexFunc___int_int__r5 0 []) .ret) .skip)))) (.region s_slices_IndexFunc___int_int__r6 0 []))))
theorem e_slices_IndexFunc___int_int__l7 {P : Program} {k0 : Nat} {Q : SExit → St → Prop} {st : St} : AWp P k0 s_slices_IndexFunc___int_int__l7 Q st = AWp P k0 (.seq (.region s_slices_IndexFunc___int_int__r2 0 []) (.seq (.cond (.t 9) .skip (.exit 0)) (.seq (.block 1 (.seq (.region s_slices_IndexFunc___int_int__r3 0 []) (.seq (.region s_slices_IndexFunc___int_int__r4 0 []) (.cond (.t 16) (.seq (.region s_slices_IndexFunc___int_int__r5 0 []) .ret) .skip)))) (.region s_slices_IndexFunc___int_int__r6 0 [])))) Q st := rfl
noncomputable def s_slices_IndexFunc___int_int__r8 : List SOper := [
  ⟨(some 4), .mov (.k (.d (.int .i64 (-1)))), none⟩]
noncomputable def s_slices_IndexFunc___int_int_ : SCode := (.seq (.region s_slices_IndexFunc___int_int__r0 0 []) (.seq (.seq (.region s_slices_IndexFunc___int_int__r1 0 []) (.block 0 (.loop s_slices_IndexFunc___int_int__l7))) (.seq (.region s_slices_IndexFunc___int_int__r8 0 []) .ret)))
theorem e_slices_IndexFunc___int_int_ {P : Program} {k0 : Nat} {Q : SExit → St → Prop} {st : St} : AWp P k0 s_slices_IndexFunc___int_int_ Q st = AWp P k0 (.seq (.region s_slices_IndexFunc___int_int__r0 0 []) (.seq (.seq (.region s_slices_IndexFunc___int_int__r1 0 []) (.block 0 (.loop s_slices_IndexFunc___int_int__l7))) (.seq (.region s_slices_IndexFunc___int_int__r8 0 []) .ret))) Q st := rfl
theorem u_slices_IndexFunc___int_int__r0 {P : Program} {o : Nat} {p : List (Nat × Nat)} {Q : SExit → St → Prop} {st : St} : goReg P s_slices_IndexFunc___int_int__r0 o p Q st = goLit P (litOf s_slices_IndexFunc___int_int__r0.eq_1) o p Q st := goReg_of _
theorem u_slices_IndexFunc___int_int__r1 {P : Program} {o : Nat} {p : List (Nat × Nat)} {Q : SExit → St → Prop} {st : St} : goReg P s_slices_IndexFunc___int_int__r1 o p Q st = goLit P (litOf s_slices_IndexFunc___int_int__r1.eq_1) o p Q st := goReg_of _
theorem u_slices_IndexFunc___int_int__r2 {P : Program} {o : Nat} {p : List (Nat × Nat)} {Q : SExit → St → Prop} {st : St} : goReg P s_slices_IndexFunc___int_int__r2 o p Q st = goLit P (litOf s_slices_IndexFunc___int_int__r2.eq_1) o p Q st := goReg_of _
theorem u_slices_IndexFunc___int_int__r3 {P : Program} {o : Nat} {p : List (Nat × Nat)} {Q : SExit → St → Prop} {st : St} : goReg P s_slices_IndexFunc___int_int__r3 o p Q st = goLit P (litOf s_slices_IndexFunc___int_int__r3.eq_1) o p Q st := goReg_of _
theorem u_slices_IndexFunc___int_int__r4 {P : Program} {o : Nat} {p : List (Nat × Nat)} {Q : SExit → St → Prop} {st : St} : goReg P s_slices_IndexFunc___int_int__r4 o p Q st = goLit P (litOf s_slices_IndexFunc___int_int__r4.eq_1) o p Q st := goReg_of _
theorem u_slices_IndexFunc___int_int__r5 {P : Program} {o : Nat} {p : List (Nat × Nat)} {Q : SExit → St → Prop} {st : St} : goReg P s_slices_IndexFunc___int_int__r5 o p Q st = goLit P (litOf s_slices_IndexFunc___int_int__r5.eq_1) o p Q st := goReg_of _
theorem u_slices_IndexFunc___int_int__r6 {P : Program} {o : Nat} {p : List (Nat × Nat)} {Q : SExit → St → Prop} {st : St} : goReg P s_slices_IndexFunc___int_int__r6 o p Q st = goLit P (litOf s_slices_IndexFunc___int_int__r6.eq_1) o p Q st := goReg_of _
theorem u_slices_IndexFunc___int_int__r8 {P : Program} {o : Nat} {p : List (Nat × Nat)} {Q : SExit → St → Prop} {st : St} : goReg P s_slices_IndexFunc___int_int__r8 o p Q st = goLit P (litOf s_slices_IndexFunc___int_int__r8.eq_1) o p Q st := goReg_of _
attribute [go_sem] u_slices_IndexFunc___int_int__r0 u_slices_IndexFunc___int_int__r1 u_slices_IndexFunc___int_int__r2 u_slices_IndexFunc___int_int__r3 u_slices_IndexFunc___int_int__r4 u_slices_IndexFunc___int_int__r5 u_slices_IndexFunc___int_int__r6 e_slices_IndexFunc___int_int__l7 u_slices_IndexFunc___int_int__r8 e_slices_IndexFunc___int_int_
set_option maxRecDepth 100000 in
theorem c_slices_IndexFunc___int_int_ : Try.f121.body.bind (compCode Try.prog Try.f121.ntmps news) = some s_slices_IndexFunc___int_int_ := by kernel_rfl
theorem r_slices_IndexFunc___int_int_ : Try.f121.results.toList.mapM (compRes Try.prog) = some [(.tmp 4)] := by kernel_rfl
theorem n_slices_IndexFunc___int_int_ : Try.f121.ntmps = 19 := by kernel_rfl
theorem b_slices_IndexFunc___int_int_ : (Try.prog.funcs[121]?).any (fun fn => fn.body.isSome && !(fn.name == "runtime.NumGoroutine")) = true := by kernel_rfl
theorem ko_slices_IndexFunc___int_int_ {args : List ASlot} {r : ASlot} {objs objs' : List AObj} (h : AWp Try.prog objs.length s_slices_IndexFunc___int_int_ (bodyQ objs.length [(.tmp 4)] [r] objs') (entrySt args objs)) (hN : args.length ≤ 19 := by simp) (hw : ltB 16 (toksOf args ++ osToks objs) = true := by rfl) : ACall Try.prog 121 args objs r objs' :=
  acall_go (rs := [r]) follows Try.func121 c_slices_IndexFunc___int_int_ r_slices_IndexFunc___int_int_ h (by rw [n_slices_IndexFunc___int_int_]; exact hN) rfl hw
theorem k_slices_IndexFunc___int_int_ {args : List ASlot} {r : ASlot} (h : AWp Try.prog 0 s_slices_IndexFunc___int_int_ (bodyQ 0 [(.tmp 4)] [r] []) (entrySt args [])) (hN : args.length ≤ 19 := by simp) (hw : ltB 16 (toksOf args ++ osToks []) = true := by rfl) : ACall Try.prog 121 args [] r [] := ko_slices_IndexFunc___int_int_ h hN hw

noncomputable def s_slices_ContainsFunc___api_Value_api_Value__r0 : List SOper := [
  ⟨(some 4), .mov (.k (.d (.bool false))), none⟩]
noncomputable def s_slices_ContainsFunc___api_Value_api_Value__r1 : List SOper := [
  ⟨(some 5), .mov (.t 0), none⟩,
  ⟨(some 6), .mov (.t 1), none⟩,
  ⟨(some 7), .call (.k (.d (.func (.func 120) [] []))) [(.t 5), (.t 6)], none⟩,
  ⟨(some 8), .bin .geq (.t 7) (.k (.d (.int .i64 0))), none⟩,
  ⟨(some 4), .mov (.t 8), none⟩]
noncomputable def s_slices_ContainsFunc___api_Value_api_Value_ : SCode := (.seq (.region s_slices_ContainsFunc___api_Value_api_Value__r0 0 []) (.seq (.region s_slices_ContainsFunc___api_Value_api_Value__r1 0 []) .ret))
theorem e_slices_ContainsFunc___api_Value_api_Value_ {P : Program} {k0 : Nat} {Q : SExit → St → Prop} {st : St} : AWp P k0 s_slices_ContainsFunc___api_Value_api_Value_ Q st = AWp P k0 (.seq (.region s_slices_ContainsFunc___api_Value_api_Value__r0 0 []) (.seq (.region s_slices_ContainsFunc___api_Value_api_Value__r1 0 []) .ret)) Q st := rfl
theorem u_slices_ContainsFunc___api_Value_api_Value__r0 {P : Program} {o : Nat} {p : List (Nat × Nat)} {Q : SExit → St → Prop} {st : St} : goReg P s_slices_ContainsFunc___api_Value_api_Value__r0 o p Q st = goLit P (litOf s_slices_ContainsFunc___api_Value_api_Value__r0.eq_1) o p Q st := goReg_of _
theorem u_slices_ContainsFunc___api_Value_api_Value__r1 {P : Program} {o : Nat} {p : List (Nat × Nat)} {Q : SExit → St → Prop} {st : St} : goReg P s_slices_ContainsFunc___api_Value_api_Value__r1 o p Q st = goLit P (litOf s_slices_ContainsFunc___api_Value_api_Value__r1.eq_1) o p Q st := goReg_of _
attribute [go_sem] u_slices_ContainsFunc___api_Value_api_Value__r0 u_slices_ContainsFunc___api_Value_api_Value__r1 e_slices_ContainsFunc___api_Value_api_Value_
set_option maxRecDepth 100000 in
theorem c_slices_ContainsFunc___api_Value_api_Value_ : Try.f103.body.bind (compCode Try.prog Try.f103.ntmps news) = some s_slices_ContainsFunc___api_Value_api_Value_ := by kernel_rfl
theorem r_slices_ContainsFunc___api_Value_api_Value_ : Try.f103.results.toList.mapM (compRes Try.prog) = some [(.tmp 4)] := by kernel_rfl
theorem n_slices_ContainsFunc___api_Value_api_Value_ : Try.f103.ntmps = 9 := by kernel_rfl
theorem b_slices_ContainsFunc___api_Value_api_Value_ : (Try.prog.funcs[103]?).any (fun fn => fn.body.isSome && !(fn.name == "runtime.NumGoroutine")) = true := by kernel_rfl
theorem ko_slices_ContainsFunc___api_Value_api_Value_ {args : List ASlot} {r : ASlot} {objs objs' : List AObj} (h : AWp Try.prog objs.length s_slices_ContainsFunc___api_Value_api_Value_ (bodyQ objs.length [(.tmp 4)] [r] objs') (entrySt args objs)) (hN : args.length ≤ 9 := by simp) (hw : ltB 16 (toksOf args ++ osToks objs) = true := by rfl) : ACall Try.prog 103 args objs r objs' :=
  acall_go (rs := [r]) follows Try.func103 c_slices_ContainsFunc___api_Value_api_Value_ r_slices_ContainsFunc___api_Value_api_Value_ h (by rw [n_slices_ContainsFunc___api_Value_api_Value_]; exact hN) rfl hw
theorem k_slices_ContainsFunc___api_Value_api_Value_ {args : List ASlot} {r : ASlot} (h : AWp Try.prog 0 s_slices_ContainsFunc___api_Value_api_Value_ (bodyQ 0 [(.tmp 4)] [r] []) (entrySt args [])) (hN : args.length ≤ 9 := by simp) (hw : ltB 16 (toksOf args ++ osToks []) = true := by rfl) : ACall Try.prog 103 args [] r [] := ko_slices_ContainsFunc___api_Value_api_Value_ h hN hw

noncomputable def s_slices_ContainsFunc___int_int__r0 : List SOper := [
  ⟨(some 4), .mov (.k (.d (.bool false))), none⟩]
noncomputable def s_slices_ContainsFunc___int_int__r1 : List SOper := [
  ⟨(some 5), .mov (.t 0), none⟩,
  ⟨(some 6), .mov (.t 1), none⟩,
  ⟨(some 7), .call (.k (.d (.func (.func 121) [] []))) [(.t 5), (.t 6)], none⟩,
  ⟨(some 8), .bin .geq (.t 7) (.k (.d (.int .i64 0))), none⟩,
  ⟨(some 4), .mov (.t 8), none⟩]
noncomputable def s_slices_ContainsFunc___int_int_ : SCode := (.seq (.region s_slices_ContainsFunc___int_int__r0 0 []) (.seq (.region s_slices_ContainsFunc___int_int__r1 0 []) .ret))
theorem e_slices_ContainsFunc___int_int_ {P : Program} {k0 : Nat} {Q : SExit → St → Prop} {st : St} : AWp P k0 s_slices_ContainsFunc___int_int_ Q st = AWp P k0 (.seq (.region s_slices_ContainsFunc___int_int__r0 0 []) (.seq (.region s_slices_ContainsFunc___int_int__r1 0 []) .ret)) Q st := rfl
theorem u_slices_ContainsFunc___int_int__r0 {P : Program} {o : Nat} {p : List (Nat × Nat)} {Q : SExit → St → Prop} {st : St} : goReg P s_slices_ContainsFunc___int_int__r0 o p Q st = goLit P (litOf s_slices_ContainsFunc___int_int__r0.eq_1) o p Q st := goReg_of _
theorem u_slices_ContainsFunc___int_int__r1 {P : Program} {o : Nat} {p : List (Nat × Nat)} {Q : SExit → St → Prop} {st : St} : goReg P s_slices_ContainsFunc___int_int__r1 o p Q st = goLit P (litOf s_slices_ContainsFunc___int_int__r1.eq_1) o p Q st := goReg_of _
attribute [go_sem] u_slices_ContainsFunc___int_int__r0 u_slices_ContainsFunc___int_int__r1 e_slices_ContainsFunc___int_int_
set_option maxRecDepth 100000 in
theorem c_slices_ContainsFunc___int_int_ : Try.f106.body.bind (compCode Try.prog Try.f106.ntmps news) = some s_slices_ContainsFunc___int_int_ := by kernel_rfl
theorem r_slices_ContainsFunc___int_int_ : Try.f106.results.toList.mapM (compRes Try.prog) = some [(.tmp 4)] := by kernel_rfl
theorem n_slices_ContainsFunc___int_int_ : Try.f106.ntmps = 9 := by kernel_rfl
theorem b_slices_ContainsFunc___int_int_ : (Try.prog.funcs[106]?).any (fun fn => fn.body.isSome && !(fn.name == "runtime.NumGoroutine")) = true := by kernel_rfl
theorem ko_slices_ContainsFunc___int_int_ {args : List ASlot} {r : ASlot} {objs objs' : List AObj} (h : AWp Try.prog objs.length s_slices_ContainsFunc___int_int_ (bodyQ objs.length [(.tmp 4)] [r] objs') (entrySt args objs)) (hN : args.length ≤ 9 := by simp) (hw : ltB 16 (toksOf args ++ osToks objs) = true := by rfl) : ACall Try.prog 106 args objs r objs' :=
  acall_go (rs := [r]) follows Try.func106 c_slices_ContainsFunc___int_int_ r_slices_ContainsFunc___int_int_ h (by rw [n_slices_ContainsFunc___int_int_]; exact hN) rfl hw
theorem k_slices_ContainsFunc___int_int_ {args : List ASlot} {r : ASlot} (h : AWp Try.prog 0 s_slices_ContainsFunc___int_int_ (bodyQ 0 [(.tmp 4)] [r] []) (entrySt args [])) (hN : args.length ≤ 9 := by simp) (hw : ltB 16 (toksOf args ++ osToks []) = true := by rfl) : ACall Try.prog 106 args [] r [] := ko_slices_ContainsFunc___int_int_ h hN hw



def Sidx {α : Type} (es : Nat) (enc : α → List D) (k : FuncId) (l : List α) (f : α → Bool) (i : { i : Nat // (l.take i).any f = false }) : St :=
  ⟨[(0, true, .d (.sl es (l.map enc))), (1, true, .d (.func (.func k) [] [])), (6, true, .d (.sl es (l.map enc))), (7, true, .d (.int .i64 l.length)), (8, true, .d (.int .i64 (i.val : Nat)))], [], [], 1⟩

theorem indexV_ok {k : FuncId} {f : AV → Bool} (hb : (Try.prog.funcs[k]?).any (fun fn => fn.body.isSome && !(fn.name == "runtime.NumGoroutine")) = true)
    (hf : ∀ v, ACall Try.prog k [.d (.agg (encAV v))] [] (.d (.bool (f v))) []) (l : List AV) (hl : l.length ≤ maxLen) :
    ACall Try.prog 120 [.d (.sl 3 (l.map encAV)), .d (.func (.func k) [] [])] [] (.d (.int .i64 (idx f l))) [] := by
  refine k_slices_IndexFunc___api_Value_api_Value_ ?_
  simp only [e_slices_IndexFunc___api_Value_api_Value_, go_sem, Nat.reduceAdd, Nat.reduceMul, Nat.reduceSub, Nat.reduceEqDiff, Nat.reduceLT, Nat.reduceLeDiff, Nat.reduceBEq, reduceIte, reduceCtorEq, Int.reduceAdd, Int.reduceLT, Int.reduceLE, Int.reduceGT, Int.reduceGE, Int.reduceEq, Int.reduceNe, Int.reduceBEq, Int.reduceBNe, Int.reduceToNat, Int.reduceNeg]
  refine AWp_loop (Sidx 3 encAV k l f) (fun i => l.length - i.val) ⟨0, rfl⟩ ?_ (fun i => ?_)
  · simp only [Sidx, noPtrR_map encAV_noPtr, go_sem, Nat.reduceAdd, Nat.reduceMul, Nat.reduceSub, Nat.reduceEqDiff, Nat.reduceLT, Nat.reduceLeDiff, Nat.reduceBEq, reduceIte, reduceCtorEq, Int.reduceAdd, Int.reduceLT, Int.reduceLE, Int.reduceGT, Int.reduceGE, Int.reduceEq, Int.reduceNe, Int.reduceBEq, Int.reduceBNe, Int.reduceToNat, Int.reduceNeg]
  · obtain ⟨i, hi⟩ := i
    simp only [Sidx, go_sem, Nat.reduceAdd, Nat.reduceMul, Nat.reduceSub, Nat.reduceEqDiff, Nat.reduceLT, Nat.reduceLeDiff, Nat.reduceBEq, reduceIte, reduceCtorEq, Int.reduceAdd, Int.reduceLT, Int.reduceLE, Int.reduceGT, Int.reduceGE, Int.reduceEq, Int.reduceNe, Int.reduceBEq, Int.reduceBNe, Int.reduceToNat, Int.reduceNeg]
    refine AWp_cond _ rfl rfl (fun h => ?_) (fun h => ?_)
    · have hil : i < l.length := by simpa using h
      simp only [getD_map encAV l hil, encAV, go_sem, Nat.reduceAdd, Nat.reduceMul, Nat.reduceSub, Nat.reduceEqDiff, Nat.reduceLT, Nat.reduceLeDiff, Nat.reduceBEq, reduceIte, reduceCtorEq, Int.reduceAdd, Int.reduceLT, Int.reduceLE, Int.reduceGT, Int.reduceGE, Int.reduceEq, Int.reduceNe, Int.reduceBEq, Int.reduceBNe, Int.reduceToNat, Int.reduceNeg]
      refine ⟨by omega, ?_⟩
      refine callO_pure (hf l[i]) hb (fun h => h) (fun _ => ⟨matchA_refl, trivial⟩) rfl rfl rfl ?_
      simp only [go_sem, Nat.reduceAdd, Nat.reduceMul, Nat.reduceSub, Nat.reduceEqDiff, Nat.reduceLT, Nat.reduceLeDiff, Nat.reduceBEq, reduceIte, reduceCtorEq, Int.reduceAdd, Int.reduceLT, Int.reduceLE, Int.reduceGT, Int.reduceGE, Int.reduceEq, Int.reduceNe, Int.reduceBEq, Int.reduceBNe, Int.reduceToNat, Int.reduceNeg]
      refine AWp_cond _ rfl rfl (fun h2 => ?_) (fun h2 => ?_)
      · simp only [idx_some hi hil h2, go_sem, Nat.reduceAdd, Nat.reduceMul, Nat.reduceSub, Nat.reduceEqDiff, Nat.reduceLT, Nat.reduceLeDiff, Nat.reduceBEq, reduceIte, reduceCtorEq, Int.reduceAdd, Int.reduceLT, Int.reduceLE, Int.reduceGT, Int.reduceGE, Int.reduceEq, Int.reduceNe, Int.reduceBEq, Int.reduceBNe, Int.reduceToNat, Int.reduceNeg]
      · simp only [go_sem, Nat.reduceAdd, Nat.reduceMul, Nat.reduceSub, Nat.reduceEqDiff, Nat.reduceLT, Nat.reduceLeDiff, Nat.reduceBEq, reduceIte, reduceCtorEq, Int.reduceAdd, Int.reduceLT, Int.reduceLE, Int.reduceGT, Int.reduceGE, Int.reduceEq, Int.reduceNe, Int.reduceBEq, Int.reduceBNe, Int.reduceToNat, Int.reduceNeg]
        refine ⟨⟨i + 1, take_any_succ hi hil h2⟩, ?_, by dsimp only; omega⟩
        simp only [Sidx, wrap_succ (show i < 9223372036854775807 by unfold maxLen at hl; omega), noPtrR_map encAV_noPtr, go_sem, Nat.reduceAdd, Nat.reduceMul, Nat.reduceSub, Nat.reduceEqDiff, Nat.reduceLT, Nat.reduceLeDiff, Nat.reduceBEq, reduceIte, reduceCtorEq, Int.reduceAdd, Int.reduceLT, Int.reduceLE, Int.reduceGT, Int.reduceGE, Int.reduceEq, Int.reduceNe, Int.reduceBEq, Int.reduceBNe, Int.reduceToNat, Int.reduceNeg]
    · have hil : l.length ≤ i := by simpa using h
      simp only [idx_none hi hil, go_sem, Nat.reduceAdd, Nat.reduceMul, Nat.reduceSub, Nat.reduceEqDiff, Nat.reduceLT, Nat.reduceLeDiff, Nat.reduceBEq, reduceIte, reduceCtorEq, Int.reduceAdd, Int.reduceLT, Int.reduceLE, Int.reduceGT, Int.reduceGE, Int.reduceEq, Int.reduceNe, Int.reduceBEq, Int.reduceBNe, Int.reduceToNat, Int.reduceNeg]
theorem indexI_ok {k : FuncId} {f : Int → Bool} (hb : (Try.prog.funcs[k]?).any (fun fn => fn.body.isSome && !(fn.name == "runtime.NumGoroutine")) = true)
    (hf : ∀ v, ACall Try.prog k [.d (.int .i64 v)] [] (.d (.bool (f v))) []) (l : List Int) (hl : l.length ≤ maxLen) :
    ACall Try.prog 121 [.d (.sl 1 (l.map encI)), .d (.func (.func k) [] [])] [] (.d (.int .i64 (idx f l))) [] := by
  refine k_slices_IndexFunc___int_int_ ?_
  simp only [e_slices_IndexFunc___int_int_, go_sem, Nat.reduceAdd, Nat.reduceMul, Nat.reduceSub, Nat.reduceEqDiff, Nat.reduceLT, Nat.reduceLeDiff, Nat.reduceBEq, reduceIte, reduceCtorEq, Int.reduceAdd, Int.reduceLT, Int.reduceLE, Int.reduceGT, Int.reduceGE, Int.reduceEq, Int.reduceNe, Int.reduceBEq, Int.reduceBNe, Int.reduceToNat, Int.reduceNeg]
  refine AWp_loop (Sidx 1 encI k l f) (fun i => l.length - i.val) ⟨0, rfl⟩ ?_ (fun i => ?_)
  · simp only [Sidx, noPtrR_map encI_noPtr, go_sem, Nat.reduceAdd, Nat.reduceMul, Nat.reduceSub, Nat.reduceEqDiff, Nat.reduceLT, Nat.reduceLeDiff, Nat.reduceBEq, reduceIte, reduceCtorEq, Int.reduceAdd, Int.reduceLT, Int.reduceLE, Int.reduceGT, Int.reduceGE, Int.reduceEq, Int.reduceNe, Int.reduceBEq, Int.reduceBNe, Int.reduceToNat, Int.reduceNeg]
  · obtain ⟨i, hi⟩ := i
    simp only [Sidx, go_sem, Nat.reduceAdd, Nat.reduceMul, Nat.reduceSub, Nat.reduceEqDiff, Nat.reduceLT, Nat.reduceLeDiff, Nat.reduceBEq, reduceIte, reduceCtorEq, Int.reduceAdd, Int.reduceLT, Int.reduceLE, Int.reduceGT, Int.reduceGE, Int.reduceEq, Int.reduceNe, Int.reduceBEq, Int.reduceBNe, Int.reduceToNat, Int.reduceNeg]
    refine AWp_cond _ rfl rfl (fun h => ?_) (fun h => ?_)
    · have hil : i < l.length := by simpa using h
      simp only [getD_map encI l hil, encI, go_sem, Nat.reduceAdd, Nat.reduceMul, Nat.reduceSub, Nat.reduceEqDiff, Nat.reduceLT, Nat.reduceLeDiff, Nat.reduceBEq, reduceIte, reduceCtorEq, Int.reduceAdd, Int.reduceLT, Int.reduceLE, Int.reduceGT, Int.reduceGE, Int.reduceEq, Int.reduceNe, Int.reduceBEq, Int.reduceBNe, Int.reduceToNat, Int.reduceNeg]
      refine ⟨by omega, ?_⟩
      refine callO_pure (hf l[i]) hb (fun h => h) (fun _ => ⟨matchA_refl, trivial⟩) rfl rfl rfl ?_
      simp only [go_sem, Nat.reduceAdd, Nat.reduceMul, Nat.reduceSub, Nat.reduceEqDiff, Nat.reduceLT, Nat.reduceLeDiff, Nat.reduceBEq, reduceIte, reduceCtorEq, Int.reduceAdd, Int.reduceLT, Int.reduceLE, Int.reduceGT, Int.reduceGE, Int.reduceEq, Int.reduceNe, Int.reduceBEq, Int.reduceBNe, Int.reduceToNat, Int.reduceNeg]
      refine AWp_cond _ rfl rfl (fun h2 => ?_) (fun h2 => ?_)
      · simp only [idx_some hi hil h2, go_sem, Nat.reduceAdd, Nat.reduceMul, Nat.reduceSub, Nat.reduceEqDiff, Nat.reduceLT, Nat.reduceLeDiff, Nat.reduceBEq, reduceIte, reduceCtorEq, Int.reduceAdd, Int.reduceLT, Int.reduceLE, Int.reduceGT, Int.reduceGE, Int.reduceEq, Int.reduceNe, Int.reduceBEq, Int.reduceBNe, Int.reduceToNat, Int.reduceNeg]
      · simp only [go_sem, Nat.reduceAdd, Nat.reduceMul, Nat.reduceSub, Nat.reduceEqDiff, Nat.reduceLT, Nat.reduceLeDiff, Nat.reduceBEq, reduceIte, reduceCtorEq, Int.reduceAdd, Int.reduceLT, Int.reduceLE, Int.reduceGT, Int.reduceGE, Int.reduceEq, Int.reduceNe, Int.reduceBEq, Int.reduceBNe, Int.reduceToNat, Int.reduceNeg]
        refine ⟨⟨i + 1, take_any_succ hi hil h2⟩, ?_, by dsimp only; omega⟩
        simp only [Sidx, wrap_succ (show i < 9223372036854775807 by unfold maxLen at hl; omega), noPtrR_map encI_noPtr, go_sem, Nat.reduceAdd, Nat.reduceMul, Nat.reduceSub, Nat.reduceEqDiff, Nat.reduceLT, Nat.reduceLeDiff, Nat.reduceBEq, reduceIte, reduceCtorEq, Int.reduceAdd, Int.reduceLT, Int.reduceLE, Int.reduceGT, Int.reduceGE, Int.reduceEq, Int.reduceNe, Int.reduceBEq, Int.reduceBNe, Int.reduceToNat, Int.reduceNeg]
    · have hil : l.length ≤ i := by simpa using h
      simp only [idx_none hi hil, go_sem, Nat.reduceAdd, Nat.reduceMul, Nat.reduceSub, Nat.reduceEqDiff, Nat.reduceLT, Nat.reduceLeDiff, Nat.reduceBEq, reduceIte, reduceCtorEq, Int.reduceAdd, Int.reduceLT, Int.reduceLE, Int.reduceGT, Int.reduceGE, Int.reduceEq, Int.reduceNe, Int.reduceBEq, Int.reduceBNe, Int.reduceToNat, Int.reduceNeg]

theorem containsV_ok {k : FuncId} {f : AV → Bool} (hb : (Try.prog.funcs[k]?).any (fun fn => fn.body.isSome && !(fn.name == "runtime.NumGoroutine")) = true)
    (hf : ∀ v, ACall Try.prog k [.d (.agg (encAV v))] [] (.d (.bool (f v))) []) (l : List AV) (hl : l.length ≤ maxLen) :
    ACall Try.prog 103 [.d (.sl 3 (l.map encAV)), .d (.func (.func k) [] [])] [] (.d (.bool (l.any f))) [] := by
  refine k_slices_ContainsFunc___api_Value_api_Value_ ?_
  simp only [e_slices_ContainsFunc___api_Value_api_Value_, go_sem, Nat.reduceAdd, Nat.reduceMul, Nat.reduceSub, Nat.reduceEqDiff, Nat.reduceLT, Nat.reduceLeDiff, Nat.reduceBEq, reduceIte, reduceCtorEq, Int.reduceAdd, Int.reduceLT, Int.reduceLE, Int.reduceGT, Int.reduceGE, Int.reduceEq, Int.reduceNe, Int.reduceBEq, Int.reduceBNe, Int.reduceToNat, Int.reduceNeg]
  refine callO_pure (indexV_ok hb hf l hl) b_slices_IndexFunc___api_Value_api_Value_ (fun h => h) (fun _ => ⟨matchA_refl, matchA_refl, trivial⟩) (by simp [ASlot.noPtr, D.noPtr, D.noPtrL, noPtrR_map encAV_noPtr]) rfl rfl ?_
  simp only [idx_ge, go_sem, Nat.reduceAdd, Nat.reduceMul, Nat.reduceSub, Nat.reduceEqDiff, Nat.reduceLT, Nat.reduceLeDiff, Nat.reduceBEq, reduceIte, reduceCtorEq, Int.reduceAdd, Int.reduceLT, Int.reduceLE, Int.reduceGT, Int.reduceGE, Int.reduceEq, Int.reduceNe, Int.reduceBEq, Int.reduceBNe, Int.reduceToNat, Int.reduceNeg]


theorem containsI_ok {k : FuncId} {f : Int → Bool} (hb : (Try.prog.funcs[k]?).any (fun fn => fn.body.isSome && !(fn.name == "runtime.NumGoroutine")) = true)
    (hf : ∀ v, ACall Try.prog k [.d (.int .i64 v)] [] (.d (.bool (f v))) []) (l : List Int) (hl : l.length ≤ maxLen) :
    ACall Try.prog 106 [.d (.sl 1 (l.map encI)), .d (.func (.func k) [] [])] [] (.d (.bool (l.any f))) [] := by
  refine k_slices_ContainsFunc___int_int_ ?_
  simp only [e_slices_ContainsFunc___int_int_, go_sem, Nat.reduceAdd, Nat.reduceMul, Nat.reduceSub, Nat.reduceEqDiff, Nat.reduceLT, Nat.reduceLeDiff, Nat.reduceBEq, reduceIte, reduceCtorEq, Int.reduceAdd, Int.reduceLT, Int.reduceLE, Int.reduceGT, Int.reduceGE, Int.reduceEq, Int.reduceNe, Int.reduceBEq, Int.reduceBNe, Int.reduceToNat, Int.reduceNeg]
  refine callO_pure (indexI_ok hb hf l hl) b_slices_IndexFunc___int_int_ (fun h => h) (fun _ => ⟨matchA_refl, matchA_refl, trivial⟩) (by simp [ASlot.noPtr, D.noPtr, D.noPtrL, noPtrR_map encI_noPtr]) rfl rfl ?_
  simp only [idx_ge, go_sem, Nat.reduceAdd, Nat.reduceMul, Nat.reduceSub, Nat.reduceEqDiff, Nat.reduceLT, Nat.reduceLeDiff, Nat.reduceBEq, reduceIte, reduceCtorEq, Int.reduceAdd, Int.reduceLT, Int.reduceLE, Int.reduceGT, Int.reduceGE, Int.reduceEq, Int.reduceNe, Int.reduceBEq, Int.reduceBNe, Int.reduceToNat, Int.reduceNeg]


noncomputable def s__packet_Packet__data_r0 : List SOper := [
  ⟨(some 1), .box 1 (.t 0), none⟩,
  ⟨(some 2), .mov (.k (.d (.bool false))), none⟩]
noncomputable def s__packet_Packet__data_r1 : List SOper := [
  ⟨(some 3), .load (some 9) (.t 1), none⟩,
  ⟨(some 4), .call (.k (.d (.func (.func 102) [] []))) [(.t 3)], none⟩,
  ⟨(some 5), .mov (.t 4), none⟩,
  ⟨(some 6), .faddr 2 (.t 1), (some (5, true))⟩,
  ⟨(some 7), .load none (.t 6), (some (5, true))⟩,
  ⟨(some 8), .bin .eql (.t 7) (.k (.d (.int .i64 0))), (some (5, true))⟩,
  ⟨(some 9), .mov (.t 8), (some (5, true))⟩,
  ⟨(some 10), .faddr 2 (.t 1), (some (9, false))⟩,
  ⟨(some 11), .load none (.t 10), (some (9, false))⟩,
  ⟨(some 12), .bin .eql (.t 11) (.k (.d (.int .i64 1))), (some (9, false))⟩,
  ⟨(some 13), .pick (.t 9) (.k (.d (.bool true))) (.t 12), (some (5, true))⟩,
  ⟨(some 14), .pick (.t 5) (.t 13) (.k (.d (.bool false))), none⟩,
  ⟨(some 15), .mov (.t 14), none⟩,
  ⟨(some 16), .faddr 6 (.t 1), (some (15, true))⟩,
  ⟨(some 17), .load none (.t 16), (some (15, true))⟩,
  ⟨(some 18), .bin .geq (.t 17) (.k (.d (.int .i64 0))), (some (15, true))⟩,
  ⟨(some 19), .pick (.t 15) (.t 18) (.k (.d (.bool false))), none⟩,
  ⟨(some 20), .mov (.t 19), none⟩,
  ⟨(some 21), .faddr 6 (.t 1), (some (20, true))⟩,
  ⟨(some 22), .load none (.t 21), (some (20, true))⟩,
  ⟨(some 23), .bin .lss (.t 22) (.k (.d (.int .i64 40))), (some (20, true))⟩,
  ⟨(some 24), .pick (.t 20) (.t 23) (.k (.d (.bool false))), none⟩,
  ⟨(some 25), .mov (.t 24), none⟩,
  ⟨(some 26), .faddr 7 (.t 1), (some (25, true))⟩,
  ⟨(some 27), .load none (.t 26), (some (25, true))⟩,
  ⟨(some 28), .len (.t 27), (some (25, true))⟩,
  ⟨(some 29), .bin .leq (.t 28) (.k (.d (.int .i64 4))), (some (25, true))⟩,
  ⟨(some 30), .pick (.t 25) (.t 29) (.k (.d (.bool false))), none⟩,
  ⟨(some 31), .mov (.t 30), none⟩,
  ⟨(some 32), .faddr 8 (.t 1), (some (31, true))⟩,
  ⟨(some 33), .load none (.t 32), (some (31, true))⟩,
  ⟨(some 34), .len (.t 33), (some (31, true))⟩,
  ⟨(some 35), .bin .leq (.t 34) (.k (.d (.int .i64 6))), (some (31, true))⟩,
  ⟨(some 36), .pick (.t 31) (.t 35) (.k (.d (.bool false))), none⟩,
  ⟨(some 37), .mov (.t 36), none⟩,
  ⟨(some 38), .faddr 7 (.t 1), (some (37, true))⟩,
  ⟨(some 39), .load none (.t 38), (some (37, true))⟩,
  ⟨(some 40), .call (.k (.d (.func (.func 103) [] []))) [(.t 39), (.k (.d (.func (.func 104) [] [])))], (some (37, true))⟩,
  ⟨(some 41), .not (.t 40), (some (37, true))⟩,
  ⟨(some 42), .pick (.t 37) (.t 41) (.k (.d (.bool false))), none⟩,
  ⟨(some 43), .mov (.t 42), none⟩,
  ⟨(some 44), .faddr 8 (.t 1), (some (43, true))⟩,
  ⟨(some 45), .load none (.t 44), (some (43, true))⟩,
  ⟨(some 46), .call (.k (.d (.func (.func 106) [] []))) [(.t 45), (.k (.d (.func (.func 107) [] [])))], (some (43, true))⟩,
  ⟨(some 47), .not (.t 46), (some (43, true))⟩,
  ⟨(some 48), .pick (.t 43) (.t 47) (.k (.d (.bool false))), none⟩,
  ⟨(some 2), .mov (.t 48), none⟩]
noncomputable def s__packet_Packet__data : SCode := (.seq (.region s__packet_Packet__data_r0 1 []) (.seq (.region s__packet_Packet__data_r1 0 []) .ret))
theorem e__packet_Packet__data {P : Program} {k0 : Nat} {Q : SExit → St → Prop} {st : St} : AWp P k0 s__packet_Packet__data Q st = AWp P k0 (.seq (.region s__packet_Packet__data_r0 1 []) (.seq (.region s__packet_Packet__data_r1 0 []) .ret)) Q st := rfl
theorem u__packet_Packet__data_r0 {P : Program} {o : Nat} {p : List (Nat × Nat)} {Q : SExit → St → Prop} {st : St} : goReg P s__packet_Packet__data_r0 o p Q st = goLit P (litOf s__packet_Packet__data_r0.eq_1) o p Q st := goReg_of _
theorem u__packet_Packet__data_r1 {P : Program} {o : Nat} {p : List (Nat × Nat)} {Q : SExit → St → Prop} {st : St} : goReg P s__packet_Packet__data_r1 o p Q st = goLit P (litOf s__packet_Packet__data_r1.eq_1) o p Q st := goReg_of _
attribute [go_sem] u__packet_Packet__data_r0 u__packet_Packet__data_r1 e__packet_Packet__data
set_option maxRecDepth 100000 in
theorem c__packet_Packet__data : Try.f80.body.bind (compCode Try.prog Try.f80.ntmps news) = some s__packet_Packet__data := by kernel_rfl
theorem r__packet_Packet__data : Try.f80.results.toList.mapM (compRes Try.prog) = some [(.tmp 2)] := by kernel_rfl
theorem n__packet_Packet__data : Try.f80.ntmps = 49 := by kernel_rfl
theorem b__packet_Packet__data : (Try.prog.funcs[80]?).any (fun fn => fn.body.isSome && !(fn.name == "runtime.NumGoroutine")) = true := by kernel_rfl
theorem ko__packet_Packet__data {args : List ASlot} {r : ASlot} {objs objs' : List AObj} (h : AWp Try.prog objs.length s__packet_Packet__data (bodyQ objs.length [(.tmp 2)] [r] objs') (entrySt args objs)) (hN : args.length ≤ 49 := by simp) (hw : ltB 16 (toksOf args ++ osToks objs) = true := by rfl) : ACall Try.prog 80 args objs r objs' :=
  acall_go (rs := [r]) follows Try.func80 c__packet_Packet__data r__packet_Packet__data h (by rw [n__packet_Packet__data]; exact hN) rfl hw
theorem k__packet_Packet__data {args : List ASlot} {r : ASlot} (h : AWp Try.prog 0 s__packet_Packet__data (bodyQ 0 [(.tmp 2)] [r] []) (entrySt args [])) (hN : args.length ≤ 49 := by simp) (hw : ltB 16 (toksOf args ++ osToks []) = true := by rfl) : ACall Try.prog 80 args [] r [] := ko__packet_Packet__data h hN hw

noncomputable def s_packet_Valid_r0 : List SOper := [
  ⟨(some 1), .box 1 (.t 0), none⟩,
  ⟨(some 2), .mov (.k (.d (.bool false))), none⟩]
noncomputable def s_packet_Valid_r1 : List SOper := [
  ⟨(some 4), .build [.nilfunc] [(0, 1, (.k (.d (.func (.func 80) [] []))))], none⟩,
  ⟨(some 5), .build [.nilfunc] [(0, 1, (.k (.d (.func (.func 81) [] []))))], none⟩,
  ⟨(some 6), .build [.nilfunc] [(0, 1, (.k (.d (.func (.func 82) [] []))))], none⟩,
  ⟨(some 7), .build [.nilfunc] [(0, 1, (.k (.d (.func (.func 82) [] []))))], none⟩,
  ⟨(some 8), .buildSlice 1 5 [.nilfunc] [(1, 1, (.t 4)), (2, 1, (.t 5)), (3, 1, (.t 6)), (4, 1, (.t 7))], none⟩,
  ⟨(some 3), .mov (.t 8), none⟩]
noncomputable def s_packet_Valid_r2 : List SOper := [
  ⟨(some 9), .faddr 0 (.t 1), none⟩,
  ⟨(some 10), .load none (.t 9), none⟩,
  ⟨(some 11), .bin .geq (.t 10) (.k (.d (.int .i64 1))), none⟩,
  ⟨(some 12), .mov (.t 11), none⟩,
  ⟨(some 13), .faddr 0 (.t 1), (some (12, true))⟩,
  ⟨(some 14), .load none (.t 13), (some (12, true))⟩,
  ⟨(some 15), .bin .leq (.t 14) (.k (.d (.int .i64 4))), (some (12, true))⟩,
  ⟨(some 16), .pick (.t 12) (.t 15) (.k (.d (.bool false))), none⟩,
  ⟨(some 17), .mov (.t 16), none⟩,
  ⟨(some 18), .faddr 1 (.t 1), (some (17, true))⟩,
  ⟨(some 19), .load none (.t 18), (some (17, true))⟩,
  ⟨(some 20), .bin .geq (.t 19) (.k (.d (.int .i64 1))), (some (17, true))⟩,
  ⟨(some 21), .pick (.t 17) (.t 20) (.k (.d (.bool false))), none⟩,
  ⟨(some 22), .mov (.t 21), none⟩,
  ⟨(some 23), .faddr 1 (.t 1), (some (22, true))⟩,
  ⟨(some 24), .load none (.t 23), (some (22, true))⟩,
  ⟨(some 25), .bin .leq (.t 24) (.k (.d (.int .i64 32))), (some (22, true))⟩,
  ⟨(some 26), .pick (.t 22) (.t 25) (.k (.d (.bool false))), none⟩,
  ⟨(some 27), .mov (.t 26), none⟩,
  ⟨(some 28), .mov (.t 3), (some (27, true))⟩,
  ⟨(some 29), .faddr 0 (.t 1), (some (27, true))⟩,
  ⟨(some 30), .load none (.t 29), (some (27, true))⟩,
  ⟨(some 31), .iaddr 1 (.t 28) (.t 30), (some (27, true))⟩,
  ⟨(some 32), .faddr 0 (.t 31), (some (27, true))⟩,
  ⟨(some 33), .load none (.t 32), (some (27, true))⟩,
  ⟨(some 34), .load (some 9) (.t 1), (some (27, true))⟩,
  ⟨(some 35), .call (.t 33) [(.t 34)], (some (27, true))⟩,
  ⟨(some 36), .pick (.t 27) (.t 35) (.k (.d (.bool false))), none⟩,
  ⟨(some 2), .mov (.t 36), none⟩]
noncomputable def s_packet_Valid : SCode := (.seq (.region s_packet_Valid_r0 1 []) (.seq (.region s_packet_Valid_r1 0 []) (.seq (.region s_packet_Valid_r2 0 []) .ret)))
theorem e_packet_Valid {P : Program} {k0 : Nat} {Q : SExit → St → Prop} {st : St} : AWp P k0 s_packet_Valid Q st = AWp P k0 (.seq (.region s_packet_Valid_r0 1 []) (.seq (.region s_packet_Valid_r1 0 []) (.seq (.region s_packet_Valid_r2 0 []) .ret))) Q st := rfl
theorem u_packet_Valid_r0 {P : Program} {o : Nat} {p : List (Nat × Nat)} {Q : SExit → St → Prop} {st : St} : goReg P s_packet_Valid_r0 o p Q st = goLit P (litOf s_packet_Valid_r0.eq_1) o p Q st := goReg_of _
theorem u_packet_Valid_r1 {P : Program} {o : Nat} {p : List (Nat × Nat)} {Q : SExit → St → Prop} {st : St} : goReg P s_packet_Valid_r1 o p Q st = goLit P (litOf s_packet_Valid_r1.eq_1) o p Q st := goReg_of _
theorem u_packet_Valid_r2 {P : Program} {o : Nat} {p : List (Nat × Nat)} {Q : SExit → St → Prop} {st : St} : goReg P s_packet_Valid_r2 o p Q st = goLit P (litOf s_packet_Valid_r2.eq_1) o p Q st := goReg_of _
attribute [go_sem] u_packet_Valid_r0 u_packet_Valid_r1 u_packet_Valid_r2 e_packet_Valid
set_option maxRecDepth 100000 in
theorem c_packet_Valid : Try.f47.body.bind (compCode Try.prog Try.f47.ntmps news) = some s_packet_Valid := by kernel_rfl
theorem r_packet_Valid : Try.f47.results.toList.mapM (compRes Try.prog) = some [(.tmp 2)] := by kernel_rfl
theorem n_packet_Valid : Try.f47.ntmps = 37 := by kernel_rfl
theorem b_packet_Valid : (Try.prog.funcs[47]?).any (fun fn => fn.body.isSome && !(fn.name == "runtime.NumGoroutine")) = true := by kernel_rfl
theorem ko_packet_Valid {args : List ASlot} {r : ASlot} {objs objs' : List AObj} (h : AWp Try.prog objs.length s_packet_Valid (bodyQ objs.length [(.tmp 2)] [r] objs') (entrySt args objs)) (hN : args.length ≤ 37 := by simp) (hw : ltB 16 (toksOf args ++ osToks objs) = true := by rfl) : ACall Try.prog 47 args objs r objs' :=
  acall_go (rs := [r]) follows Try.func47 c_packet_Valid r_packet_Valid h (by rw [n_packet_Valid]; exact hN) rfl hw
theorem k_packet_Valid {args : List ASlot} {r : ASlot} (h : AWp Try.prog 0 s_packet_Valid (bodyQ 0 [(.tmp 2)] [r] []) (entrySt args [])) (hN : args.length ≤ 37 := by simp) (hw : ltB 16 (toksOf args ++ osToks []) = true := by rfl) : ACall Try.prog 47 args [] r [] := ko_packet_Valid h hN hw



def data (p : Pk) : Bool := numbered p && (p.epoch == 0 || p.epoch == 1) && decide (p.label ≥ 0) && decide (p.label < 40) && decide ((p.values.length : Int) ≤ 4) && decide ((p.clock.length : Int) ≤ 6) && !(p.values.any fun v => !proper v) && !(p.clock.any fun n => decide (n < 0) || decide (n > 1099511627776))

theorem data_ok (p : Pk) (h1 : p.values.length ≤ maxLen) (h2 : p.clock.length ≤ maxLen) : ACall Try.prog 80 [.d (.agg (encPk p))] [] (.d (.bool (data p))) [] := by
  refine k__packet_Packet__data ?_
  simp only [e__packet_Packet__data, encPk, go_sem, Nat.reduceAdd, Nat.reduceMul, Nat.reduceSub, Nat.reduceEqDiff, Nat.reduceLT, Nat.reduceLeDiff, Nat.reduceBEq, reduceIte, reduceCtorEq, Int.reduceAdd, Int.reduceLT, Int.reduceLE, Int.reduceGT, Int.reduceGE, Int.reduceEq, Int.reduceNe, Int.reduceBEq, Int.reduceBNe, Int.reduceToNat, Int.reduceNeg]
  refine callO_pure (numbered_ok p) b__packet_Packet__numbered (fun h => h) (fun _ => ⟨matchA_refl, trivial⟩) (noPtr_pk p) rfl rfl ?_
  simp only [go_sem, Nat.reduceAdd, Nat.reduceMul, Nat.reduceSub, Nat.reduceEqDiff, Nat.reduceLT, Nat.reduceLeDiff, Nat.reduceBEq, reduceIte, reduceCtorEq, Int.reduceAdd, Int.reduceLT, Int.reduceLE, Int.reduceGT, Int.reduceGE, Int.reduceEq, Int.reduceNe, Int.reduceBEq, Int.reduceBNe, Int.reduceToNat, Int.reduceNeg]
  refine ⟨by simp_all, ?_⟩
  refine callO_pure (containsV_ok b__packet_Packet__data_1 data1_ok p.values h1) b_slices_ContainsFunc___api_Value_api_Value_ (fun h => h) (fun _ => ⟨matchA_refl, matchA_refl, trivial⟩) (by simp [ASlot.noPtr, D.noPtr, D.noPtrL, noPtrR_map encAV_noPtr]) rfl rfl ?_
  simp only [go_sem, Nat.reduceAdd, Nat.reduceMul, Nat.reduceSub, Nat.reduceEqDiff, Nat.reduceLT, Nat.reduceLeDiff, Nat.reduceBEq, reduceIte, reduceCtorEq, Int.reduceAdd, Int.reduceLT, Int.reduceLE, Int.reduceGT, Int.reduceGE, Int.reduceEq, Int.reduceNe, Int.reduceBEq, Int.reduceBNe, Int.reduceToNat, Int.reduceNeg]
  refine callO_pure (containsI_ok b__packet_Packet__data_2 data2_ok p.clock h2) b_slices_ContainsFunc___int_int_ (fun h => h) (fun _ => ⟨matchA_refl, matchA_refl, trivial⟩) (by simp [ASlot.noPtr, D.noPtr, D.noPtrL, noPtrR_map encI_noPtr]) rfl rfl ?_
  simp only [go_sem, Nat.reduceAdd, Nat.reduceMul, Nat.reduceSub, Nat.reduceEqDiff, Nat.reduceLT, Nat.reduceLeDiff, Nat.reduceBEq, reduceIte, reduceCtorEq, Int.reduceAdd, Int.reduceLT, Int.reduceLE, Int.reduceGT, Int.reduceGE, Int.reduceEq, Int.reduceNe, Int.reduceBEq, Int.reduceBNe, Int.reduceToNat, Int.reduceNeg]
  rfl

def kindOk (p : Pk) : Bool := decide (p.kind ≥ 1) && decide (p.kind ≤ 4) && decide (p.sess ≥ 1) && decide (p.sess ≤ 32)
def packetValid (p : Pk) : Bool := kindOk p && (if p.kind = 1 then data p else if p.kind = 2 then ack p else order p)

theorem packetValid_ok (p : Pk) (h1 : p.values.length ≤ maxLen) (h2 : p.clock.length ≤ maxLen) : ACall Try.prog 47 [.d (.agg (encPk p))] [] (.d (.bool (packetValid p))) [] := by
  refine k_packet_Valid ?_
  simp only [e_packet_Valid, encPk, go_sem, Nat.reduceAdd, Nat.reduceMul, Nat.reduceSub, Nat.reduceEqDiff, Nat.reduceLT, Nat.reduceLeDiff, Nat.reduceBEq, reduceIte, reduceCtorEq, Int.reduceAdd, Int.reduceLT, Int.reduceLE, Int.reduceGT, Int.reduceGE, Int.reduceEq, Int.reduceNe, Int.reduceBEq, Int.reduceBNe, Int.reduceToNat, Int.reduceNeg]
  have hk : (decide (p.kind ≥ 1) && decide (p.kind ≤ 4) && decide (p.sess ≥ 1) && decide (p.sess ≤ 32)) = kindOk p := rfl
  simp only [hk]
  cases hG : kindOk p with
  | false =>
    simp only [go_sem, Nat.reduceAdd, Nat.reduceMul, Nat.reduceSub, Nat.reduceEqDiff, Nat.reduceLT, Nat.reduceLeDiff, Nat.reduceBEq, reduceIte, reduceCtorEq, Int.reduceAdd, Int.reduceLT, Int.reduceLE, Int.reduceGT, Int.reduceGE, Int.reduceEq, Int.reduceNe, Int.reduceBEq, Int.reduceBNe, Int.reduceToNat, Int.reduceNeg]
    refine callO_off (.bool false) rfl ?_
    simp only [packetValid, hG, go_sem, Nat.reduceAdd, Nat.reduceMul, Nat.reduceSub, Nat.reduceEqDiff, Nat.reduceLT, Nat.reduceLeDiff, Nat.reduceBEq, reduceIte, reduceCtorEq, Int.reduceAdd, Int.reduceLT, Int.reduceLE, Int.reduceGT, Int.reduceGE, Int.reduceEq, Int.reduceNe, Int.reduceBEq, Int.reduceBNe, Int.reduceToNat, Int.reduceNeg]
  | true =>
    have h4 : p.kind = 1 ∨ p.kind = 2 ∨ p.kind = 3 ∨ p.kind = 4 := by simp [kindOk] at hG; omega
    rcases h4 with hp | hp | hp | hp <;> simp only [hp, Int.reduceToNat, Int.reduceLE, Int.reduceLT, go_sem, Nat.reduceAdd, Nat.reduceMul, Nat.reduceSub, Nat.reduceEqDiff, Nat.reduceLT, Nat.reduceLeDiff, Nat.reduceBEq, reduceIte, reduceCtorEq, Int.reduceAdd, Int.reduceLT, Int.reduceLE, Int.reduceGT, Int.reduceGE, Int.reduceEq, Int.reduceNe, Int.reduceBEq, Int.reduceBNe, Int.reduceToNat, Int.reduceNeg]
    · refine callO_pure (data_ok p h1 h2) b__packet_Packet__data (fun h => h) (fun _ => ⟨by simp [matchA, ASlot.eqvD, D.eqv_refl, encPk, hp], trivial⟩) (noPtr_pk p) rfl rfl ?_
      simp only [packetValid, hG, hp, go_sem, Nat.reduceAdd, Nat.reduceMul, Nat.reduceSub, Nat.reduceEqDiff, Nat.reduceLT, Nat.reduceLeDiff, Nat.reduceBEq, reduceIte, reduceCtorEq, Int.reduceAdd, Int.reduceLT, Int.reduceLE, Int.reduceGT, Int.reduceGE, Int.reduceEq, Int.reduceNe, Int.reduceBEq, Int.reduceBNe, Int.reduceToNat, Int.reduceNeg]
    · refine callO_pure (ack_ok p) b__packet_Packet__ack (fun h => h) (fun _ => ⟨by simp [matchA, ASlot.eqvD, D.eqv_refl, encPk, hp], trivial⟩) (noPtr_pk p) rfl rfl ?_
      simp only [packetValid, hG, hp, go_sem, Nat.reduceAdd, Nat.reduceMul, Nat.reduceSub, Nat.reduceEqDiff, Nat.reduceLT, Nat.reduceLeDiff, Nat.reduceBEq, reduceIte, reduceCtorEq, Int.reduceAdd, Int.reduceLT, Int.reduceLE, Int.reduceGT, Int.reduceGE, Int.reduceEq, Int.reduceNe, Int.reduceBEq, Int.reduceBNe, Int.reduceToNat, Int.reduceNeg]
    · refine callO_pure (order_ok p) b__packet_Packet__order (fun h => h) (fun _ => ⟨by simp [matchA, ASlot.eqvD, D.eqv_refl, encPk, hp], trivial⟩) (noPtr_pk p) rfl rfl ?_
      simp only [packetValid, hG, hp, go_sem, Nat.reduceAdd, Nat.reduceMul, Nat.reduceSub, Nat.reduceEqDiff, Nat.reduceLT, Nat.reduceLeDiff, Nat.reduceBEq, reduceIte, reduceCtorEq, Int.reduceAdd, Int.reduceLT, Int.reduceLE, Int.reduceGT, Int.reduceGE, Int.reduceEq, Int.reduceNe, Int.reduceBEq, Int.reduceBNe, Int.reduceToNat, Int.reduceNeg]
    · refine callO_pure (order_ok p) b__packet_Packet__order (fun h => h) (fun _ => ⟨by simp [matchA, ASlot.eqvD, D.eqv_refl, encPk, hp], trivial⟩) (noPtr_pk p) rfl rfl ?_
      simp only [packetValid, hG, hp, go_sem, Nat.reduceAdd, Nat.reduceMul, Nat.reduceSub, Nat.reduceEqDiff, Nat.reduceLT, Nat.reduceLeDiff, Nat.reduceBEq, reduceIte, reduceCtorEq, Int.reduceAdd, Int.reduceLT, Int.reduceLE, Int.reduceGT, Int.reduceGE, Int.reduceEq, Int.reduceNe, Int.reduceBEq, Int.reduceBNe, Int.reduceToNat, Int.reduceNeg]
end Go.Proofs.Ythcpckcgjplhiaa
