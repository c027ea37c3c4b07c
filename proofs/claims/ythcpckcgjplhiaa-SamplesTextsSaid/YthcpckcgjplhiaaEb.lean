/- What the functions of package samples and its reference answer. -/
import Derived.Test.YthcpckcgjplhiaaEa
namespace Go.Proofs.Ythcpckcgjplhiaa
open Go.Abs
set_option linter.unusedSimpArgs false
set_option maxRecDepth 100000
-- ENC encS encSmp

noncomputable def s_samples_Names_r0 : List SOper := [
  ⟨(some 0), .mov (.k (.d .nilsl)), none⟩]
noncomputable def s_samples_Names_r1 : List SOper := [
  ⟨(some 1), .mov (.k (.d .nilsl)), none⟩]
noncomputable def s_samples_Names_r2 : List SOper := [
  ⟨(some 4), .call (.k (.d (.func (.func 67) [] []))) [], none⟩,
  ⟨(some 5), .len (.t 4), none⟩,
  ⟨(some 6), .mov (.k (.d (.int .i64 0))), none⟩]
noncomputable def s_samples_Names_r3 : List SOper := [
  ⟨(some 7), .bin .lss (.t 6) (.t 5), none⟩]
noncomputable def s_samples_Names_r4 : List SOper := [
  ⟨(some 8), .iaddr 3 (.t 4) (.t 6), none⟩,
  ⟨(some 9), .load (some 3) (.t 8), none⟩,
  ⟨(some 3), .alloc 1 [(.d (.str [])), (.d (.str [])), (.d .nilsl)], none⟩,
  ⟨none, .store (some 3) (.t 3) (.t 9), none⟩]
noncomputable def s_samples_Names_r5 : List SOper := [
  ⟨(some 10), .mov (.t 1), none⟩,
  ⟨(some 11), .faddr 0 (.t 3), none⟩,
  ⟨(some 12), .load none (.t 11), none⟩,
  ⟨(some 13), .buildSlice 1 1 [(.str [])] [(0, 1, (.t 12))], none⟩,
  ⟨(some 14), .append 1 16 (.t 10) (.t 13), none⟩,
  ⟨(some 1), .mov (.t 14), none⟩]
noncomputable def s_samples_Names_r6 : List SOper := [
  ⟨(some 15), .bin .add (.t 6) (.k (.d (.int .i64 1))), none⟩,
  ⟨(some 6), .mov (.t 15), none⟩]
noncomputable def s_samples_Names_l7 : SCode := (.seq (.region s_samples_Names_r3 0 []) (.seq (.cond (.t 7) .skip (.exit 0)) (.seq (.block 1 (.seq (.region s_samples_Names_r4 1 []) (.region s_samples_Names_r5 0 []))) (.region s_samples_Names_r6 0 []))))
theorem e_samples_Names_l7 {P : Program} {k0 : Nat} {Q : SExit → St → Prop} {st : St} : AWp P k0 s_samples_Names_l7 Q st = AWp P k0 (.seq (.region s_samples_Names_r3 0 []) (.seq (.cond (.t 7) .skip (.exit 0)) (.seq (.block 1 (.seq (.region s_samples_Names_r4 1 []) (.region s_samples_Names_r5 0 []))) (.region s_samples_Names_r6 0 [])))) Q st := rfl
noncomputable def s_samples_Names_r8 : List SOper := [
  ⟨(some 16), .mov (.t 1), none⟩,
  ⟨(some 0), .mov (.t 16), none⟩]
noncomputable def s_samples_Names : SCode := (.seq (.region s_samples_Names_r0 0 []) (.seq (.region s_samples_Names_r1 0 []) (.seq (.seq (.region s_samples_Names_r2 0 []) (.block 0 (.loop s_samples_Names_l7))) (.seq (.region s_samples_Names_r8 0 []) .ret))))
theorem e_samples_Names {P : Program} {k0 : Nat} {Q : SExit → St → Prop} {st : St} : AWp P k0 s_samples_Names Q st = AWp P k0 (.seq (.region s_samples_Names_r0 0 []) (.seq (.region s_samples_Names_r1 0 []) (.seq (.seq (.region s_samples_Names_r2 0 []) (.block 0 (.loop s_samples_Names_l7))) (.seq (.region s_samples_Names_r8 0 []) .ret)))) Q st := rfl
theorem u_samples_Names_r0 {P : Program} {o : Nat} {p : List (Nat × Nat)} {Q : SExit → St → Prop} {st : St} : goReg P s_samples_Names_r0 o p Q st = goLit P (litOf s_samples_Names_r0.eq_1) o p Q st := goReg_of _
theorem u_samples_Names_r1 {P : Program} {o : Nat} {p : List (Nat × Nat)} {Q : SExit → St → Prop} {st : St} : goReg P s_samples_Names_r1 o p Q st = goLit P (litOf s_samples_Names_r1.eq_1) o p Q st := goReg_of _
theorem u_samples_Names_r2 {P : Program} {o : Nat} {p : List (Nat × Nat)} {Q : SExit → St → Prop} {st : St} : goReg P s_samples_Names_r2 o p Q st = goLit P (litOf s_samples_Names_r2.eq_1) o p Q st := goReg_of _
theorem u_samples_Names_r3 {P : Program} {o : Nat} {p : List (Nat × Nat)} {Q : SExit → St → Prop} {st : St} : goReg P s_samples_Names_r3 o p Q st = goLit P (litOf s_samples_Names_r3.eq_1) o p Q st := goReg_of _
theorem u_samples_Names_r4 {P : Program} {o : Nat} {p : List (Nat × Nat)} {Q : SExit → St → Prop} {st : St} : goReg P s_samples_Names_r4 o p Q st = goLit P (litOf s_samples_Names_r4.eq_1) o p Q st := goReg_of _
theorem u_samples_Names_r5 {P : Program} {o : Nat} {p : List (Nat × Nat)} {Q : SExit → St → Prop} {st : St} : goReg P s_samples_Names_r5 o p Q st = goLit P (litOf s_samples_Names_r5.eq_1) o p Q st := goReg_of _
theorem u_samples_Names_r6 {P : Program} {o : Nat} {p : List (Nat × Nat)} {Q : SExit → St → Prop} {st : St} : goReg P s_samples_Names_r6 o p Q st = goLit P (litOf s_samples_Names_r6.eq_1) o p Q st := goReg_of _
theorem u_samples_Names_r8 {P : Program} {o : Nat} {p : List (Nat × Nat)} {Q : SExit → St → Prop} {st : St} : goReg P s_samples_Names_r8 o p Q st = goLit P (litOf s_samples_Names_r8.eq_1) o p Q st := goReg_of _
attribute [go_sem] u_samples_Names_r0 u_samples_Names_r1 u_samples_Names_r2 u_samples_Names_r3 u_samples_Names_r4 u_samples_Names_r5 u_samples_Names_r6 e_samples_Names_l7 u_samples_Names_r8 e_samples_Names
set_option maxRecDepth 100000 in
theorem c_samples_Names : Try.f19.body.bind (compCode Try.prog Try.f19.ntmps news) = some s_samples_Names := by kernel_rfl
theorem r_samples_Names : Try.f19.results.toList.mapM (compRes Try.prog) = some [(.tmp 0)] := by kernel_rfl
theorem n_samples_Names : Try.f19.ntmps = 17 := by kernel_rfl
theorem b_samples_Names : (Try.prog.funcs[19]?).any (fun fn => fn.body.isSome && !(fn.name == "runtime.NumGoroutine")) = true := by kernel_rfl
theorem ko_samples_Names {args : List ASlot} {r : ASlot} {objs objs' : List AObj} (h : AWp Try.prog objs.length s_samples_Names (bodyQ objs.length [(.tmp 0)] [r] objs') (entrySt args objs)) (hN : args.length ≤ 17 := by simp) (hw : ltB 16 (toksOf args ++ osToks objs) = true := by rfl) : ACall Try.prog 19 args objs r objs' :=
  acall_go (rs := [r]) follows Try.func19 c_samples_Names r_samples_Names h (by rw [n_samples_Names]; exact hN) rfl hw
theorem k_samples_Names {args : List ASlot} {r : ASlot} (h : AWp Try.prog 0 s_samples_Names (bodyQ 0 [(.tmp 0)] [r] []) (entrySt args [])) (hN : args.length ≤ 17 := by simp) (hw : ltB 16 (toksOf args ++ osToks []) = true := by rfl) : ACall Try.prog 19 args [] r [] := ko_samples_Names h hN hw

noncomputable def s_samples_Protocols_r0 : List SOper := [
  ⟨(some 0), .mov (.k (.d .nilsl)), none⟩]
noncomputable def s_samples_Protocols_r1 : List SOper := [
  ⟨(some 1), .mov (.k (.d .nilsl)), none⟩]
noncomputable def s_samples_Protocols_r2 : List SOper := [
  ⟨(some 4), .call (.k (.d (.func (.func 67) [] []))) [], none⟩,
  ⟨(some 5), .len (.t 4), none⟩,
  ⟨(some 6), .mov (.k (.d (.int .i64 0))), none⟩]
noncomputable def s_samples_Protocols_r3 : List SOper := [
  ⟨(some 7), .bin .lss (.t 6) (.t 5), none⟩]
noncomputable def s_samples_Protocols_r4 : List SOper := [
  ⟨(some 8), .iaddr 3 (.t 4) (.t 6), none⟩,
  ⟨(some 9), .load (some 3) (.t 8), none⟩,
  ⟨(some 3), .alloc 1 [(.d (.str [])), (.d (.str [])), (.d .nilsl)], none⟩,
  ⟨none, .store (some 3) (.t 3) (.t 9), none⟩]
noncomputable def s_samples_Protocols_r5 : List SOper := [
  ⟨(some 10), .mov (.t 1), none⟩,
  ⟨(some 11), .faddr 1 (.t 3), none⟩,
  ⟨(some 12), .load none (.t 11), none⟩,
  ⟨(some 13), .buildSlice 1 1 [(.str [])] [(0, 1, (.t 12))], none⟩,
  ⟨(some 14), .append 1 16 (.t 10) (.t 13), none⟩,
  ⟨(some 1), .mov (.t 14), none⟩]
noncomputable def s_samples_Protocols_r6 : List SOper := [
  ⟨(some 15), .bin .add (.t 6) (.k (.d (.int .i64 1))), none⟩,
  ⟨(some 6), .mov (.t 15), none⟩]
noncomputable def s_samples_Protocols_l7 : SCode := (.seq (.region s_samples_Protocols_r3 0 []) (.seq (.cond (.t 7) .skip (.exit 0)) (.seq (.block 1 (.seq (.region s_samples_Protocols_r4 1 []) (.region s_samples_Protocols_r5 0 []))) (.region s_samples_Protocols_r6 0 []))))
theorem e_samples_Protocols_l7 {P : Program} {k0 : Nat} {Q : SExit → St → Prop} {st : St} : AWp P k0 s_samples_Protocols_l7 Q st = AWp P k0 (.seq (.region s_samples_Protocols_r3 0 []) (.seq (.cond (.t 7) .skip (.exit 0)) (.seq (.block 1 (.seq (.region s_samples_Protocols_r4 1 []) (.region s_samples_Protocols_r5 0 []))) (.region s_samples_Protocols_r6 0 [])))) Q st := rfl
noncomputable def s_samples_Protocols_r8 : List SOper := [
  ⟨(some 16), .mov (.t 1), none⟩,
  ⟨(some 0), .mov (.t 16), none⟩]
noncomputable def s_samples_Protocols : SCode := (.seq (.region s_samples_Protocols_r0 0 []) (.seq (.region s_samples_Protocols_r1 0 []) (.seq (.seq (.region s_samples_Protocols_r2 0 []) (.block 0 (.loop s_samples_Protocols_l7))) (.seq (.region s_samples_Protocols_r8 0 []) .ret))))
theorem e_samples_Protocols {P : Program} {k0 : Nat} {Q : SExit → St → Prop} {st : St} : AWp P k0 s_samples_Protocols Q st = AWp P k0 (.seq (.region s_samples_Protocols_r0 0 []) (.seq (.region s_samples_Protocols_r1 0 []) (.seq (.seq (.region s_samples_Protocols_r2 0 []) (.block 0 (.loop s_samples_Protocols_l7))) (.seq (.region s_samples_Protocols_r8 0 []) .ret)))) Q st := rfl
theorem u_samples_Protocols_r0 {P : Program} {o : Nat} {p : List (Nat × Nat)} {Q : SExit → St → Prop} {st : St} : goReg P s_samples_Protocols_r0 o p Q st = goLit P (litOf s_samples_Protocols_r0.eq_1) o p Q st := goReg_of _
theorem u_samples_Protocols_r1 {P : Program} {o : Nat} {p : List (Nat × Nat)} {Q : SExit → St → Prop} {st : St} : goReg P s_samples_Protocols_r1 o p Q st = goLit P (litOf s_samples_Protocols_r1.eq_1) o p Q st := goReg_of _
theorem u_samples_Protocols_r2 {P : Program} {o : Nat} {p : List (Nat × Nat)} {Q : SExit → St → Prop} {st : St} : goReg P s_samples_Protocols_r2 o p Q st = goLit P (litOf s_samples_Protocols_r2.eq_1) o p Q st := goReg_of _
theorem u_samples_Protocols_r3 {P : Program} {o : Nat} {p : List (Nat × Nat)} {Q : SExit → St → Prop} {st : St} : goReg P s_samples_Protocols_r3 o p Q st = goLit P (litOf s_samples_Protocols_r3.eq_1) o p Q st := goReg_of _
theorem u_samples_Protocols_r4 {P : Program} {o : Nat} {p : List (Nat × Nat)} {Q : SExit → St → Prop} {st : St} : goReg P s_samples_Protocols_r4 o p Q st = goLit P (litOf s_samples_Protocols_r4.eq_1) o p Q st := goReg_of _
theorem u_samples_Protocols_r5 {P : Program} {o : Nat} {p : List (Nat × Nat)} {Q : SExit → St → Prop} {st : St} : goReg P s_samples_Protocols_r5 o p Q st = goLit P (litOf s_samples_Protocols_r5.eq_1) o p Q st := goReg_of _
theorem u_samples_Protocols_r6 {P : Program} {o : Nat} {p : List (Nat × Nat)} {Q : SExit → St → Prop} {st : St} : goReg P s_samples_Protocols_r6 o p Q st = goLit P (litOf s_samples_Protocols_r6.eq_1) o p Q st := goReg_of _
theorem u_samples_Protocols_r8 {P : Program} {o : Nat} {p : List (Nat × Nat)} {Q : SExit → St → Prop} {st : St} : goReg P s_samples_Protocols_r8 o p Q st = goLit P (litOf s_samples_Protocols_r8.eq_1) o p Q st := goReg_of _
attribute [go_sem] u_samples_Protocols_r0 u_samples_Protocols_r1 u_samples_Protocols_r2 u_samples_Protocols_r3 u_samples_Protocols_r4 u_samples_Protocols_r5 u_samples_Protocols_r6 e_samples_Protocols_l7 u_samples_Protocols_r8 e_samples_Protocols
set_option maxRecDepth 100000 in
theorem c_samples_Protocols : Try.f21.body.bind (compCode Try.prog Try.f21.ntmps news) = some s_samples_Protocols := by kernel_rfl
theorem r_samples_Protocols : Try.f21.results.toList.mapM (compRes Try.prog) = some [(.tmp 0)] := by kernel_rfl
theorem n_samples_Protocols : Try.f21.ntmps = 17 := by kernel_rfl
theorem b_samples_Protocols : (Try.prog.funcs[21]?).any (fun fn => fn.body.isSome && !(fn.name == "runtime.NumGoroutine")) = true := by kernel_rfl
theorem ko_samples_Protocols {args : List ASlot} {r : ASlot} {objs objs' : List AObj} (h : AWp Try.prog objs.length s_samples_Protocols (bodyQ objs.length [(.tmp 0)] [r] objs') (entrySt args objs)) (hN : args.length ≤ 17 := by simp) (hw : ltB 16 (toksOf args ++ osToks objs) = true := by rfl) : ACall Try.prog 21 args objs r objs' :=
  acall_go (rs := [r]) follows Try.func21 c_samples_Protocols r_samples_Protocols h (by rw [n_samples_Protocols]; exact hN) rfl hw
theorem k_samples_Protocols {args : List ASlot} {r : ASlot} (h : AWp Try.prog 0 s_samples_Protocols (bodyQ 0 [(.tmp 0)] [r] []) (entrySt args [])) (hN : args.length ≤ 17 := by simp) (hw : ltB 16 (toksOf args ++ osToks []) = true := by rfl) : ACall Try.prog 21 args [] r [] := ko_samples_Protocols h hN hw

noncomputable def s_samples_Rejected_r0 : List SOper := [
  ⟨(some 0), .mov (.k (.d .nilsl)), none⟩]
noncomputable def s_samples_Rejected_r1 : List SOper := [
  ⟨(some 1), .mov (.k (.d .nilsl)), none⟩]
noncomputable def s_samples_Rejected_r2 : List SOper := [
  ⟨(some 4), .call (.k (.d (.func (.func 65) [] []))) [], none⟩,
  ⟨(some 5), .len (.t 4), none⟩,
  ⟨(some 6), .mov (.k (.d (.int .i64 0))), none⟩]
noncomputable def s_samples_Rejected_r3 : List SOper := [
  ⟨(some 7), .bin .lss (.t 6) (.t 5), none⟩]
noncomputable def s_samples_Rejected_r4 : List SOper := [
  ⟨(some 8), .iaddr 2 (.t 4) (.t 6), none⟩,
  ⟨(some 9), .load (some 2) (.t 8), none⟩,
  ⟨(some 3), .alloc 1 [(.d (.str [])), (.d (.int .i64 0))], none⟩,
  ⟨none, .store (some 2) (.t 3) (.t 9), none⟩]
noncomputable def s_samples_Rejected_r5 : List SOper := [
  ⟨(some 10), .mov (.t 1), none⟩,
  ⟨(some 11), .faddr 0 (.t 3), none⟩,
  ⟨(some 12), .load none (.t 11), none⟩,
  ⟨(some 13), .buildSlice 1 1 [(.str [])] [(0, 1, (.t 12))], none⟩,
  ⟨(some 14), .append 1 16 (.t 10) (.t 13), none⟩,
  ⟨(some 1), .mov (.t 14), none⟩]
noncomputable def s_samples_Rejected_r6 : List SOper := [
  ⟨(some 15), .bin .add (.t 6) (.k (.d (.int .i64 1))), none⟩,
  ⟨(some 6), .mov (.t 15), none⟩]
noncomputable def s_samples_Rejected_l7 : SCode := (.seq (.region s_samples_Rejected_r3 0 []) (.seq (.cond (.t 7) .skip (.exit 0)) (.seq (.block 1 (.seq (.region s_samples_Rejected_r4 1 []) (.region s_samples_Rejected_r5 0 []))) (.region s_samples_Rejected_r6 0 []))))
theorem e_samples_Rejected_l7 {P : Program} {k0 : Nat} {Q : SExit → St → Prop} {st : St} : AWp P k0 s_samples_Rejected_l7 Q st = AWp P k0 (.seq (.region s_samples_Rejected_r3 0 []) (.seq (.cond (.t 7) .skip (.exit 0)) (.seq (.block 1 (.seq (.region s_samples_Rejected_r4 1 []) (.region s_samples_Rejected_r5 0 []))) (.region s_samples_Rejected_r6 0 [])))) Q st := rfl
noncomputable def s_samples_Rejected_r8 : List SOper := [
  ⟨(some 16), .mov (.t 1), none⟩,
  ⟨(some 0), .mov (.t 16), none⟩]
noncomputable def s_samples_Rejected : SCode := (.seq (.region s_samples_Rejected_r0 0 []) (.seq (.region s_samples_Rejected_r1 0 []) (.seq (.seq (.region s_samples_Rejected_r2 0 []) (.block 0 (.loop s_samples_Rejected_l7))) (.seq (.region s_samples_Rejected_r8 0 []) .ret))))
theorem e_samples_Rejected {P : Program} {k0 : Nat} {Q : SExit → St → Prop} {st : St} : AWp P k0 s_samples_Rejected Q st = AWp P k0 (.seq (.region s_samples_Rejected_r0 0 []) (.seq (.region s_samples_Rejected_r1 0 []) (.seq (.seq (.region s_samples_Rejected_r2 0 []) (.block 0 (.loop s_samples_Rejected_l7))) (.seq (.region s_samples_Rejected_r8 0 []) .ret)))) Q st := rfl
theorem u_samples_Rejected_r0 {P : Program} {o : Nat} {p : List (Nat × Nat)} {Q : SExit → St → Prop} {st : St} : goReg P s_samples_Rejected_r0 o p Q st = goLit P (litOf s_samples_Rejected_r0.eq_1) o p Q st := goReg_of _
theorem u_samples_Rejected_r1 {P : Program} {o : Nat} {p : List (Nat × Nat)} {Q : SExit → St → Prop} {st : St} : goReg P s_samples_Rejected_r1 o p Q st = goLit P (litOf s_samples_Rejected_r1.eq_1) o p Q st := goReg_of _
theorem u_samples_Rejected_r2 {P : Program} {o : Nat} {p : List (Nat × Nat)} {Q : SExit → St → Prop} {st : St} : goReg P s_samples_Rejected_r2 o p Q st = goLit P (litOf s_samples_Rejected_r2.eq_1) o p Q st := goReg_of _
theorem u_samples_Rejected_r3 {P : Program} {o : Nat} {p : List (Nat × Nat)} {Q : SExit → St → Prop} {st : St} : goReg P s_samples_Rejected_r3 o p Q st = goLit P (litOf s_samples_Rejected_r3.eq_1) o p Q st := goReg_of _
theorem u_samples_Rejected_r4 {P : Program} {o : Nat} {p : List (Nat × Nat)} {Q : SExit → St → Prop} {st : St} : goReg P s_samples_Rejected_r4 o p Q st = goLit P (litOf s_samples_Rejected_r4.eq_1) o p Q st := goReg_of _
theorem u_samples_Rejected_r5 {P : Program} {o : Nat} {p : List (Nat × Nat)} {Q : SExit → St → Prop} {st : St} : goReg P s_samples_Rejected_r5 o p Q st = goLit P (litOf s_samples_Rejected_r5.eq_1) o p Q st := goReg_of _
theorem u_samples_Rejected_r6 {P : Program} {o : Nat} {p : List (Nat × Nat)} {Q : SExit → St → Prop} {st : St} : goReg P s_samples_Rejected_r6 o p Q st = goLit P (litOf s_samples_Rejected_r6.eq_1) o p Q st := goReg_of _
theorem u_samples_Rejected_r8 {P : Program} {o : Nat} {p : List (Nat × Nat)} {Q : SExit → St → Prop} {st : St} : goReg P s_samples_Rejected_r8 o p Q st = goLit P (litOf s_samples_Rejected_r8.eq_1) o p Q st := goReg_of _
attribute [go_sem] u_samples_Rejected_r0 u_samples_Rejected_r1 u_samples_Rejected_r2 u_samples_Rejected_r3 u_samples_Rejected_r4 u_samples_Rejected_r5 u_samples_Rejected_r6 e_samples_Rejected_l7 u_samples_Rejected_r8 e_samples_Rejected
set_option maxRecDepth 100000 in
theorem c_samples_Rejected : Try.f23.body.bind (compCode Try.prog Try.f23.ntmps news) = some s_samples_Rejected := by kernel_rfl
theorem r_samples_Rejected : Try.f23.results.toList.mapM (compRes Try.prog) = some [(.tmp 0)] := by kernel_rfl
theorem n_samples_Rejected : Try.f23.ntmps = 17 := by kernel_rfl
theorem b_samples_Rejected : (Try.prog.funcs[23]?).any (fun fn => fn.body.isSome && !(fn.name == "runtime.NumGoroutine")) = true := by kernel_rfl
theorem ko_samples_Rejected {args : List ASlot} {r : ASlot} {objs objs' : List AObj} (h : AWp Try.prog objs.length s_samples_Rejected (bodyQ objs.length [(.tmp 0)] [r] objs') (entrySt args objs)) (hN : args.length ≤ 17 := by simp) (hw : ltB 16 (toksOf args ++ osToks objs) = true := by rfl) : ACall Try.prog 23 args objs r objs' :=
  acall_go (rs := [r]) follows Try.func23 c_samples_Rejected r_samples_Rejected h (by rw [n_samples_Rejected]; exact hN) rfl hw
theorem k_samples_Rejected {args : List ASlot} {r : ASlot} (h : AWp Try.prog 0 s_samples_Rejected (bodyQ 0 [(.tmp 0)] [r] []) (entrySt args [])) (hN : args.length ≤ 17 := by simp) (hw : ltB 16 (toksOf args ++ osToks []) = true := by rfl) : ACall Try.prog 23 args [] r [] := ko_samples_Rejected h hN hw

noncomputable def s_samples_Errors_r0 : List SOper := [
  ⟨(some 0), .mov (.k (.d .nilsl)), none⟩]
noncomputable def s_samples_Errors_r1 : List SOper := [
  ⟨(some 1), .mov (.k (.d .nilsl)), none⟩]
noncomputable def s_samples_Errors_r2 : List SOper := [
  ⟨(some 4), .call (.k (.d (.func (.func 65) [] []))) [], none⟩,
  ⟨(some 5), .len (.t 4), none⟩,
  ⟨(some 6), .mov (.k (.d (.int .i64 0))), none⟩]
noncomputable def s_samples_Errors_r3 : List SOper := [
  ⟨(some 7), .bin .lss (.t 6) (.t 5), none⟩]
noncomputable def s_samples_Errors_r4 : List SOper := [
  ⟨(some 8), .iaddr 2 (.t 4) (.t 6), none⟩,
  ⟨(some 9), .load (some 2) (.t 8), none⟩,
  ⟨(some 3), .alloc 1 [(.d (.str [])), (.d (.int .i64 0))], none⟩,
  ⟨none, .store (some 2) (.t 3) (.t 9), none⟩]
noncomputable def s_samples_Errors_r5 : List SOper := [
  ⟨(some 10), .mov (.t 1), none⟩,
  ⟨(some 11), .faddr 1 (.t 3), none⟩,
  ⟨(some 12), .load none (.t 11), none⟩,
  ⟨(some 13), .buildSlice 1 1 [(.int .i64 0)] [(0, 1, (.t 12))], none⟩,
  ⟨(some 14), .append 1 8 (.t 10) (.t 13), none⟩,
  ⟨(some 1), .mov (.t 14), none⟩]
noncomputable def s_samples_Errors_r6 : List SOper := [
  ⟨(some 15), .bin .add (.t 6) (.k (.d (.int .i64 1))), none⟩,
  ⟨(some 6), .mov (.t 15), none⟩]
noncomputable def s_samples_Errors_l7 : SCode := (.seq (.region s_samples_Errors_r3 0 []) (.seq (.cond (.t 7) .skip (.exit 0)) (.seq (.block 1 (.seq (.region s_samples_Errors_r4 1 []) (.region s_samples_Errors_r5 0 []))) (.region s_samples_Errors_r6 0 []))))
theorem e_samples_Errors_l7 {P : Program} {k0 : Nat} {Q : SExit → St → Prop} {st : St} : AWp P k0 s_samples_Errors_l7 Q st = AWp P k0 (.seq (.region s_samples_Errors_r3 0 []) (.seq (.cond (.t 7) .skip (.exit 0)) (.seq (.block 1 (.seq (.region s_samples_Errors_r4 1 []) (.region s_samples_Errors_r5 0 []))) (.region s_samples_Errors_r6 0 [])))) Q st := rfl
noncomputable def s_samples_Errors_r8 : List SOper := [
  ⟨(some 16), .mov (.t 1), none⟩,
  ⟨(some 0), .mov (.t 16), none⟩]
noncomputable def s_samples_Errors : SCode := (.seq (.region s_samples_Errors_r0 0 []) (.seq (.region s_samples_Errors_r1 0 []) (.seq (.seq (.region s_samples_Errors_r2 0 []) (.block 0 (.loop s_samples_Errors_l7))) (.seq (.region s_samples_Errors_r8 0 []) .ret))))
theorem e_samples_Errors {P : Program} {k0 : Nat} {Q : SExit → St → Prop} {st : St} : AWp P k0 s_samples_Errors Q st = AWp P k0 (.seq (.region s_samples_Errors_r0 0 []) (.seq (.region s_samples_Errors_r1 0 []) (.seq (.seq (.region s_samples_Errors_r2 0 []) (.block 0 (.loop s_samples_Errors_l7))) (.seq (.region s_samples_Errors_r8 0 []) .ret)))) Q st := rfl
theorem u_samples_Errors_r0 {P : Program} {o : Nat} {p : List (Nat × Nat)} {Q : SExit → St → Prop} {st : St} : goReg P s_samples_Errors_r0 o p Q st = goLit P (litOf s_samples_Errors_r0.eq_1) o p Q st := goReg_of _
theorem u_samples_Errors_r1 {P : Program} {o : Nat} {p : List (Nat × Nat)} {Q : SExit → St → Prop} {st : St} : goReg P s_samples_Errors_r1 o p Q st = goLit P (litOf s_samples_Errors_r1.eq_1) o p Q st := goReg_of _
theorem u_samples_Errors_r2 {P : Program} {o : Nat} {p : List (Nat × Nat)} {Q : SExit → St → Prop} {st : St} : goReg P s_samples_Errors_r2 o p Q st = goLit P (litOf s_samples_Errors_r2.eq_1) o p Q st := goReg_of _
theorem u_samples_Errors_r3 {P : Program} {o : Nat} {p : List (Nat × Nat)} {Q : SExit → St → Prop} {st : St} : goReg P s_samples_Errors_r3 o p Q st = goLit P (litOf s_samples_Errors_r3.eq_1) o p Q st := goReg_of _
theorem u_samples_Errors_r4 {P : Program} {o : Nat} {p : List (Nat × Nat)} {Q : SExit → St → Prop} {st : St} : goReg P s_samples_Errors_r4 o p Q st = goLit P (litOf s_samples_Errors_r4.eq_1) o p Q st := goReg_of _
theorem u_samples_Errors_r5 {P : Program} {o : Nat} {p : List (Nat × Nat)} {Q : SExit → St → Prop} {st : St} : goReg P s_samples_Errors_r5 o p Q st = goLit P (litOf s_samples_Errors_r5.eq_1) o p Q st := goReg_of _
theorem u_samples_Errors_r6 {P : Program} {o : Nat} {p : List (Nat × Nat)} {Q : SExit → St → Prop} {st : St} : goReg P s_samples_Errors_r6 o p Q st = goLit P (litOf s_samples_Errors_r6.eq_1) o p Q st := goReg_of _
theorem u_samples_Errors_r8 {P : Program} {o : Nat} {p : List (Nat × Nat)} {Q : SExit → St → Prop} {st : St} : goReg P s_samples_Errors_r8 o p Q st = goLit P (litOf s_samples_Errors_r8.eq_1) o p Q st := goReg_of _
attribute [go_sem] u_samples_Errors_r0 u_samples_Errors_r1 u_samples_Errors_r2 u_samples_Errors_r3 u_samples_Errors_r4 u_samples_Errors_r5 u_samples_Errors_r6 e_samples_Errors_l7 u_samples_Errors_r8 e_samples_Errors
set_option maxRecDepth 100000 in
theorem c_samples_Errors : Try.f14.body.bind (compCode Try.prog Try.f14.ntmps news) = some s_samples_Errors := by kernel_rfl
theorem r_samples_Errors : Try.f14.results.toList.mapM (compRes Try.prog) = some [(.tmp 0)] := by kernel_rfl
theorem n_samples_Errors : Try.f14.ntmps = 17 := by kernel_rfl
theorem b_samples_Errors : (Try.prog.funcs[14]?).any (fun fn => fn.body.isSome && !(fn.name == "runtime.NumGoroutine")) = true := by kernel_rfl
theorem ko_samples_Errors {args : List ASlot} {r : ASlot} {objs objs' : List AObj} (h : AWp Try.prog objs.length s_samples_Errors (bodyQ objs.length [(.tmp 0)] [r] objs') (entrySt args objs)) (hN : args.length ≤ 17 := by simp) (hw : ltB 16 (toksOf args ++ osToks objs) = true := by rfl) : ACall Try.prog 14 args objs r objs' :=
  acall_go (rs := [r]) follows Try.func14 c_samples_Errors r_samples_Errors h (by rw [n_samples_Errors]; exact hN) rfl hw
theorem k_samples_Errors {args : List ASlot} {r : ASlot} (h : AWp Try.prog 0 s_samples_Errors (bodyQ 0 [(.tmp 0)] [r] []) (entrySt args [])) (hN : args.length ≤ 17 := by simp) (hw : ltB 16 (toksOf args ++ osToks []) = true := by rfl) : ACall Try.prog 14 args [] r [] := ko_samples_Errors h hN hw

noncomputable def s_farandoleref44_Same_r0 : List SOper := [
  ⟨(some 4), .mov (.k (.d (.bool false))), none⟩]
noncomputable def s_farandoleref44_Same_r1 : List SOper := [
  ⟨(some 6), .mov (.t 0), none⟩,
  ⟨(some 7), .len (.t 6), none⟩,
  ⟨(some 8), .mov (.t 1), none⟩,
  ⟨(some 9), .len (.t 8), none⟩,
  ⟨(some 10), .bin .neq (.t 7) (.t 9), none⟩]
noncomputable def s_farandoleref44_Same_r2 : List SOper := [
  ⟨(some 4), .mov (.k (.d (.bool false))), none⟩]
noncomputable def s_farandoleref44_Same_r3 : List SOper := [
  ⟨(some 5), .mov (.k (.d (.int .i64 0))), none⟩]
noncomputable def s_farandoleref44_Same_r4 : List SOper := [
  ⟨(some 11), .mov (.t 5), none⟩,
  ⟨(some 12), .mov (.t 0), none⟩,
  ⟨(some 13), .len (.t 12), none⟩,
  ⟨(some 14), .bin .lss (.t 11) (.t 13), none⟩]
noncomputable def s_farandoleref44_Same_r5 : List SOper := [
  ⟨(some 17), .mov (.t 0), none⟩,
  ⟨(some 18), .mov (.t 5), none⟩,
  ⟨(some 19), .iaddr 1 (.t 17) (.t 18), none⟩,
  ⟨(some 20), .load none (.t 19), none⟩,
  ⟨(some 21), .mov (.t 1), none⟩,
  ⟨(some 22), .mov (.t 5), none⟩,
  ⟨(some 23), .iaddr 1 (.t 21) (.t 22), none⟩,
  ⟨(some 24), .load none (.t 23), none⟩,
  ⟨(some 25), .bin .neq (.t 20) (.t 24), none⟩]
noncomputable def s_farandoleref44_Same_r6 : List SOper := [
  ⟨(some 4), .mov (.k (.d (.bool false))), none⟩]
noncomputable def s_farandoleref44_Same_r7 : List SOper := [
  ⟨(some 15), .mov (.t 5), none⟩,
  ⟨(some 16), .bin .add (.t 15) (.k (.d (.int .i64 1))), none⟩,
  ⟨(some 5), .mov (.t 16), none⟩]
noncomputable def s_farandoleref44_Same_l8 : SCode := (.seq (.seq (.region s_farandoleref44_Same_r4 0 []) (.cond (.t 14) .skip (.exit 0))) (.seq (.block 1 (.seq (.region s_farandoleref44_Same_r5 0 []) (.cond (.t 25) (.seq (.region s_farandoleref44_Same_r6 0 []) .ret) .skip))) (.region s_farandoleref44_Same_r7 0 [])))
theorem e_farandoleref44_Same_l8 {P : Program} {k0 : Nat} {Q : SExit → St → Prop} {st : St} : AWp P k0 s_farandoleref44_Same_l8 Q st = AWp P k0 (.seq (.seq (.region s_farandoleref44_Same_r4 0 []) (.cond (.t 14) .skip (.exit 0))) (.seq (.block 1 (.seq (.region s_farandoleref44_Same_r5 0 []) (.cond (.t 25) (.seq (.region s_farandoleref44_Same_r6 0 []) .ret) .skip))) (.region s_farandoleref44_Same_r7 0 []))) Q st := rfl
noncomputable def s_farandoleref44_Same_r9 : List SOper := [
  ⟨(some 4), .mov (.k (.d (.bool true))), none⟩]
noncomputable def s_farandoleref44_Same : SCode := (.seq (.region s_farandoleref44_Same_r0 0 []) (.seq (.seq (.region s_farandoleref44_Same_r1 0 []) (.cond (.t 10) (.seq (.region s_farandoleref44_Same_r2 0 []) .ret) .skip)) (.seq (.seq (.region s_farandoleref44_Same_r3 0 []) (.block 0 (.loop s_farandoleref44_Same_l8))) (.seq (.region s_farandoleref44_Same_r9 0 []) .ret))))
theorem e_farandoleref44_Same {P : Program} {k0 : Nat} {Q : SExit → St → Prop} {st : St} : AWp P k0 s_farandoleref44_Same Q st = AWp P k0 (.seq (.region s_farandoleref44_Same_r0 0 []) (.seq (.seq (.region s_farandoleref44_Same_r1 0 []) (.cond (.t 10) (.seq (.region s_farandoleref44_Same_r2 0 []) .ret) .skip)) (.seq (.seq (.region s_farandoleref44_Same_r3 0 []) (.block 0 (.loop s_farandoleref44_Same_l8))) (.seq (.region s_farandoleref44_Same_r9 0 []) .ret)))) Q st := rfl
theorem u_farandoleref44_Same_r0 {P : Program} {o : Nat} {p : List (Nat × Nat)} {Q : SExit → St → Prop} {st : St} : goReg P s_farandoleref44_Same_r0 o p Q st = goLit P (litOf s_farandoleref44_Same_r0.eq_1) o p Q st := goReg_of _
theorem u_farandoleref44_Same_r1 {P : Program} {o : Nat} {p : List (Nat × Nat)} {Q : SExit → St → Prop} {st : St} : goReg P s_farandoleref44_Same_r1 o p Q st = goLit P (litOf s_farandoleref44_Same_r1.eq_1) o p Q st := goReg_of _
theorem u_farandoleref44_Same_r2 {P : Program} {o : Nat} {p : List (Nat × Nat)} {Q : SExit → St → Prop} {st : St} : goReg P s_farandoleref44_Same_r2 o p Q st = goLit P (litOf s_farandoleref44_Same_r2.eq_1) o p Q st := goReg_of _
theorem u_farandoleref44_Same_r3 {P : Program} {o : Nat} {p : List (Nat × Nat)} {Q : SExit → St → Prop} {st : St} : goReg P s_farandoleref44_Same_r3 o p Q st = goLit P (litOf s_farandoleref44_Same_r3.eq_1) o p Q st := goReg_of _
theorem u_farandoleref44_Same_r4 {P : Program} {o : Nat} {p : List (Nat × Nat)} {Q : SExit → St → Prop} {st : St} : goReg P s_farandoleref44_Same_r4 o p Q st = goLit P (litOf s_farandoleref44_Same_r4.eq_1) o p Q st := goReg_of _
theorem u_farandoleref44_Same_r5 {P : Program} {o : Nat} {p : List (Nat × Nat)} {Q : SExit → St → Prop} {st : St} : goReg P s_farandoleref44_Same_r5 o p Q st = goLit P (litOf s_farandoleref44_Same_r5.eq_1) o p Q st := goReg_of _
theorem u_farandoleref44_Same_r6 {P : Program} {o : Nat} {p : List (Nat × Nat)} {Q : SExit → St → Prop} {st : St} : goReg P s_farandoleref44_Same_r6 o p Q st = goLit P (litOf s_farandoleref44_Same_r6.eq_1) o p Q st := goReg_of _
theorem u_farandoleref44_Same_r7 {P : Program} {o : Nat} {p : List (Nat × Nat)} {Q : SExit → St → Prop} {st : St} : goReg P s_farandoleref44_Same_r7 o p Q st = goLit P (litOf s_farandoleref44_Same_r7.eq_1) o p Q st := goReg_of _
theorem u_farandoleref44_Same_r9 {P : Program} {o : Nat} {p : List (Nat × Nat)} {Q : SExit → St → Prop} {st : St} : goReg P s_farandoleref44_Same_r9 o p Q st = goLit P (litOf s_farandoleref44_Same_r9.eq_1) o p Q st := goReg_of _
attribute [go_sem] u_farandoleref44_Same_r0 u_farandoleref44_Same_r1 u_farandoleref44_Same_r2 u_farandoleref44_Same_r3 u_farandoleref44_Same_r4 u_farandoleref44_Same_r5 u_farandoleref44_Same_r6 u_farandoleref44_Same_r7 e_farandoleref44_Same_l8 u_farandoleref44_Same_r9 e_farandoleref44_Same
set_option maxRecDepth 100000 in
theorem c_farandoleref44_Same : Try.f16.body.bind (compCode Try.prog Try.f16.ntmps news) = some s_farandoleref44_Same := by kernel_rfl
theorem r_farandoleref44_Same : Try.f16.results.toList.mapM (compRes Try.prog) = some [(.tmp 4)] := by kernel_rfl
theorem n_farandoleref44_Same : Try.f16.ntmps = 26 := by kernel_rfl
theorem b_farandoleref44_Same : (Try.prog.funcs[16]?).any (fun fn => fn.body.isSome && !(fn.name == "runtime.NumGoroutine")) = true := by kernel_rfl
theorem ko_farandoleref44_Same {args : List ASlot} {r : ASlot} {objs objs' : List AObj} (h : AWp Try.prog objs.length s_farandoleref44_Same (bodyQ objs.length [(.tmp 4)] [r] objs') (entrySt args objs)) (hN : args.length ≤ 26 := by simp) (hw : ltB 16 (toksOf args ++ osToks objs) = true := by rfl) : ACall Try.prog 16 args objs r objs' :=
  acall_go (rs := [r]) follows Try.func16 c_farandoleref44_Same r_farandoleref44_Same h (by rw [n_farandoleref44_Same]; exact hN) rfl hw
theorem k_farandoleref44_Same {args : List ASlot} {r : ASlot} (h : AWp Try.prog 0 s_farandoleref44_Same (bodyQ 0 [(.tmp 4)] [r] []) (entrySt args [])) (hN : args.length ≤ 26 := by simp) (hw : ltB 16 (toksOf args ++ osToks []) = true := by rfl) : ACall Try.prog 16 args [] r [] := ko_farandoleref44_Same h hN hw

noncomputable def s_farandoleref44_index_r0 : List SOper := [
  ⟨(some 2), .mov (.k (.d (.int .i64 0))), none⟩]
noncomputable def s_farandoleref44_index_r1 : List SOper := [
  ⟨(some 5), .call (.k (.d (.func (.func 20) [] []))) [], none⟩,
  ⟨(some 3), .mov (.t 5), none⟩]
noncomputable def s_farandoleref44_index_r2 : List SOper := [
  ⟨(some 4), .mov (.k (.d (.int .i64 0))), none⟩]
noncomputable def s_farandoleref44_index_r3 : List SOper := [
  ⟨(some 6), .mov (.t 4), none⟩,
  ⟨(some 7), .mov (.t 3), none⟩,
  ⟨(some 8), .len (.t 7), none⟩,
  ⟨(some 9), .bin .lss (.t 6) (.t 8), none⟩]
noncomputable def s_farandoleref44_index_r4 : List SOper := [
  ⟨(some 12), .mov (.t 3), none⟩,
  ⟨(some 13), .mov (.t 4), none⟩,
  ⟨(some 14), .iaddr 1 (.t 12) (.t 13), none⟩,
  ⟨(some 15), .load none (.t 14), none⟩,
  ⟨(some 16), .mov (.t 0), none⟩,
  ⟨(some 17), .bin .eql (.t 15) (.t 16), none⟩]
noncomputable def s_farandoleref44_index_r5 : List SOper := [
  ⟨(some 18), .mov (.t 4), none⟩,
  ⟨(some 2), .mov (.t 18), none⟩]
noncomputable def s_farandoleref44_index_r6 : List SOper := [
  ⟨(some 10), .mov (.t 4), none⟩,
  ⟨(some 11), .bin .add (.t 10) (.k (.d (.int .i64 1))), none⟩,
  ⟨(some 4), .mov (.t 11), none⟩]
noncomputable def s_farandoleref44_index_l7 : SCode := (.seq (.seq (.region s_farandoleref44_index_r3 0 []) (.cond (.t 9) .skip (.exit 0))) (.seq (.block 1 (.seq (.region s_farandoleref44_index_r4 0 []) (.cond (.t 17) (.seq (.region s_farandoleref44_index_r5 0 []) .ret) .skip))) (.region s_farandoleref44_index_r6 0 [])))
theorem e_farandoleref44_index_l7 {P : Program} {k0 : Nat} {Q : SExit → St → Prop} {st : St} : AWp P k0 s_farandoleref44_index_l7 Q st = AWp P k0 (.seq (.seq (.region s_farandoleref44_index_r3 0 []) (.cond (.t 9) .skip (.exit 0))) (.seq (.block 1 (.seq (.region s_farandoleref44_index_r4 0 []) (.cond (.t 17) (.seq (.region s_farandoleref44_index_r5 0 []) .ret) .skip))) (.region s_farandoleref44_index_r6 0 []))) Q st := rfl
noncomputable def s_farandoleref44_index_r8 : List SOper := [
  ⟨(some 2), .mov (.k (.d (.int .i64 (-1)))), none⟩]
noncomputable def s_farandoleref44_index : SCode := (.seq (.region s_farandoleref44_index_r0 0 []) (.seq (.region s_farandoleref44_index_r1 0 []) (.seq (.seq (.region s_farandoleref44_index_r2 0 []) (.block 0 (.loop s_farandoleref44_index_l7))) (.seq (.region s_farandoleref44_index_r8 0 []) .ret))))
theorem e_farandoleref44_index {P : Program} {k0 : Nat} {Q : SExit → St → Prop} {st : St} : AWp P k0 s_farandoleref44_index Q st = AWp P k0 (.seq (.region s_farandoleref44_index_r0 0 []) (.seq (.region s_farandoleref44_index_r1 0 []) (.seq (.seq (.region s_farandoleref44_index_r2 0 []) (.block 0 (.loop s_farandoleref44_index_l7))) (.seq (.region s_farandoleref44_index_r8 0 []) .ret)))) Q st := rfl
theorem u_farandoleref44_index_r0 {P : Program} {o : Nat} {p : List (Nat × Nat)} {Q : SExit → St → Prop} {st : St} : goReg P s_farandoleref44_index_r0 o p Q st = goLit P (litOf s_farandoleref44_index_r0.eq_1) o p Q st := goReg_of _
theorem u_farandoleref44_index_r1 {P : Program} {o : Nat} {p : List (Nat × Nat)} {Q : SExit → St → Prop} {st : St} : goReg P s_farandoleref44_index_r1 o p Q st = goLit P (litOf s_farandoleref44_index_r1.eq_1) o p Q st := goReg_of _
theorem u_farandoleref44_index_r2 {P : Program} {o : Nat} {p : List (Nat × Nat)} {Q : SExit → St → Prop} {st : St} : goReg P s_farandoleref44_index_r2 o p Q st = goLit P (litOf s_farandoleref44_index_r2.eq_1) o p Q st := goReg_of _
theorem u_farandoleref44_index_r3 {P : Program} {o : Nat} {p : List (Nat × Nat)} {Q : SExit → St → Prop} {st : St} : goReg P s_farandoleref44_index_r3 o p Q st = goLit P (litOf s_farandoleref44_index_r3.eq_1) o p Q st := goReg_of _
theorem u_farandoleref44_index_r4 {P : Program} {o : Nat} {p : List (Nat × Nat)} {Q : SExit → St → Prop} {st : St} : goReg P s_farandoleref44_index_r4 o p Q st = goLit P (litOf s_farandoleref44_index_r4.eq_1) o p Q st := goReg_of _
theorem u_farandoleref44_index_r5 {P : Program} {o : Nat} {p : List (Nat × Nat)} {Q : SExit → St → Prop} {st : St} : goReg P s_farandoleref44_index_r5 o p Q st = goLit P (litOf s_farandoleref44_index_r5.eq_1) o p Q st := goReg_of _
theorem u_farandoleref44_index_r6 {P : Program} {o : Nat} {p : List (Nat × Nat)} {Q : SExit → St → Prop} {st : St} : goReg P s_farandoleref44_index_r6 o p Q st = goLit P (litOf s_farandoleref44_index_r6.eq_1) o p Q st := goReg_of _
theorem u_farandoleref44_index_r8 {P : Program} {o : Nat} {p : List (Nat × Nat)} {Q : SExit → St → Prop} {st : St} : goReg P s_farandoleref44_index_r8 o p Q st = goLit P (litOf s_farandoleref44_index_r8.eq_1) o p Q st := goReg_of _
attribute [go_sem] u_farandoleref44_index_r0 u_farandoleref44_index_r1 u_farandoleref44_index_r2 u_farandoleref44_index_r3 u_farandoleref44_index_r4 u_farandoleref44_index_r5 u_farandoleref44_index_r6 e_farandoleref44_index_l7 u_farandoleref44_index_r8 e_farandoleref44_index
set_option maxRecDepth 100000 in
theorem c_farandoleref44_index : Try.f64.body.bind (compCode Try.prog Try.f64.ntmps news) = some s_farandoleref44_index := by kernel_rfl
theorem r_farandoleref44_index : Try.f64.results.toList.mapM (compRes Try.prog) = some [(.tmp 2)] := by kernel_rfl
theorem n_farandoleref44_index : Try.f64.ntmps = 19 := by kernel_rfl
theorem b_farandoleref44_index : (Try.prog.funcs[64]?).any (fun fn => fn.body.isSome && !(fn.name == "runtime.NumGoroutine")) = true := by kernel_rfl
theorem ko_farandoleref44_index {args : List ASlot} {r : ASlot} {objs objs' : List AObj} (h : AWp Try.prog objs.length s_farandoleref44_index (bodyQ objs.length [(.tmp 2)] [r] objs') (entrySt args objs)) (hN : args.length ≤ 19 := by simp) (hw : ltB 16 (toksOf args ++ osToks objs) = true := by rfl) : ACall Try.prog 64 args objs r objs' :=
  acall_go (rs := [r]) follows Try.func64 c_farandoleref44_index r_farandoleref44_index h (by rw [n_farandoleref44_index]; exact hN) rfl hw
theorem k_farandoleref44_index {args : List ASlot} {r : ASlot} (h : AWp Try.prog 0 s_farandoleref44_index (bodyQ 0 [(.tmp 2)] [r] []) (entrySt args [])) (hN : args.length ≤ 19 := by simp) (hw : ltB 16 (toksOf args ++ osToks []) = true := by rfl) : ACall Try.prog 64 args [] r [] := ko_farandoleref44_index h hN hw

noncomputable def s_farandoleref44_Source_r0 : List SOper := [
  ⟨(some 2), .mov (.k (.d (.str []))), none⟩,
  ⟨(some 3), .mov (.k (.d (.int .i64 0))), none⟩]
noncomputable def s_farandoleref44_Source_r1 : List SOper := [
  ⟨(some 5), .mov (.t 0), none⟩,
  ⟨(some 6), .call (.k (.d (.func (.func 64) [] []))) [(.t 5)], none⟩,
  ⟨(some 4), .mov (.t 6), none⟩]
noncomputable def s_farandoleref44_Source_r2 : List SOper := [
  ⟨(some 7), .mov (.t 4), none⟩,
  ⟨(some 8), .bin .geq (.t 7) (.k (.d (.int .i64 0))), none⟩]
noncomputable def s_farandoleref44_Source_r3 : List SOper := [
  ⟨(some 9), .call (.k (.d (.func (.func 22) [] []))) [], none⟩,
  ⟨(some 10), .mov (.t 4), none⟩,
  ⟨(some 11), .iaddr 1 (.t 9) (.t 10), none⟩,
  ⟨(some 12), .load none (.t 11), none⟩,
  ⟨(some 2), .mov (.t 12), none⟩,
  ⟨(some 3), .mov (.k (.d (.int .i64 0))), none⟩]
noncomputable def s_farandoleref44_Source_r4 : List SOper := [
  ⟨(some 2), .mov (.k (.d (.str []))), none⟩,
  ⟨(some 3), .mov (.k (.d (.int .i64 8))), none⟩]
noncomputable def s_farandoleref44_Source : SCode := (.seq (.region s_farandoleref44_Source_r0 0 []) (.seq (.seq (.region s_farandoleref44_Source_r1 0 []) (.seq (.region s_farandoleref44_Source_r2 0 []) (.cond (.t 8) (.seq (.region s_farandoleref44_Source_r3 0 []) .ret) .skip))) (.seq (.region s_farandoleref44_Source_r4 0 []) .ret)))
theorem e_farandoleref44_Source {P : Program} {k0 : Nat} {Q : SExit → St → Prop} {st : St} : AWp P k0 s_farandoleref44_Source Q st = AWp P k0 (.seq (.region s_farandoleref44_Source_r0 0 []) (.seq (.seq (.region s_farandoleref44_Source_r1 0 []) (.seq (.region s_farandoleref44_Source_r2 0 []) (.cond (.t 8) (.seq (.region s_farandoleref44_Source_r3 0 []) .ret) .skip))) (.seq (.region s_farandoleref44_Source_r4 0 []) .ret))) Q st := rfl
theorem u_farandoleref44_Source_r0 {P : Program} {o : Nat} {p : List (Nat × Nat)} {Q : SExit → St → Prop} {st : St} : goReg P s_farandoleref44_Source_r0 o p Q st = goLit P (litOf s_farandoleref44_Source_r0.eq_1) o p Q st := goReg_of _
theorem u_farandoleref44_Source_r1 {P : Program} {o : Nat} {p : List (Nat × Nat)} {Q : SExit → St → Prop} {st : St} : goReg P s_farandoleref44_Source_r1 o p Q st = goLit P (litOf s_farandoleref44_Source_r1.eq_1) o p Q st := goReg_of _
theorem u_farandoleref44_Source_r2 {P : Program} {o : Nat} {p : List (Nat × Nat)} {Q : SExit → St → Prop} {st : St} : goReg P s_farandoleref44_Source_r2 o p Q st = goLit P (litOf s_farandoleref44_Source_r2.eq_1) o p Q st := goReg_of _
theorem u_farandoleref44_Source_r3 {P : Program} {o : Nat} {p : List (Nat × Nat)} {Q : SExit → St → Prop} {st : St} : goReg P s_farandoleref44_Source_r3 o p Q st = goLit P (litOf s_farandoleref44_Source_r3.eq_1) o p Q st := goReg_of _
theorem u_farandoleref44_Source_r4 {P : Program} {o : Nat} {p : List (Nat × Nat)} {Q : SExit → St → Prop} {st : St} : goReg P s_farandoleref44_Source_r4 o p Q st = goLit P (litOf s_farandoleref44_Source_r4.eq_1) o p Q st := goReg_of _
attribute [go_sem] u_farandoleref44_Source_r0 u_farandoleref44_Source_r1 u_farandoleref44_Source_r2 u_farandoleref44_Source_r3 u_farandoleref44_Source_r4 e_farandoleref44_Source
set_option maxRecDepth 100000 in
theorem c_farandoleref44_Source : Try.f13.body.bind (compCode Try.prog Try.f13.ntmps news) = some s_farandoleref44_Source := by kernel_rfl
theorem r_farandoleref44_Source : Try.f13.results.toList.mapM (compRes Try.prog) = some [(.tmp 2), (.tmp 3)] := by kernel_rfl
theorem n_farandoleref44_Source : Try.f13.ntmps = 13 := by kernel_rfl
theorem b_farandoleref44_Source : (Try.prog.funcs[13]?).any (fun fn => fn.body.isSome && !(fn.name == "runtime.NumGoroutine")) = true := by kernel_rfl
theorem ko_farandoleref44_Source {args rs : List ASlot} {objs objs' : List AObj} (h : AWp Try.prog objs.length s_farandoleref44_Source (bodyQ objs.length [(.tmp 2), (.tmp 3)] rs objs') (entrySt args objs)) (hN : args.length ≤ 13 := by simp) (hl : rs.length = 2 := by rfl) (hw : ltB 16 (toksOf args ++ osToks objs) = true := by rfl) : ACall Try.prog 13 args objs (.tup rs) objs' := by
  rw [← mkRes_tup (rs := rs) (by rw [hl]; decide)]
  exact acall_go follows Try.func13 c_farandoleref44_Source r_farandoleref44_Source h (by rw [n_farandoleref44_Source]; exact hN) (by rw [hl]; rfl) hw
theorem k_farandoleref44_Source {args rs : List ASlot} (h : AWp Try.prog 0 s_farandoleref44_Source (bodyQ 0 [(.tmp 2), (.tmp 3)] rs []) (entrySt args [])) (hN : args.length ≤ 13 := by simp) (hl : rs.length = 2 := by rfl) (hw : ltB 16 (toksOf args ++ osToks []) = true := by rfl) : ACall Try.prog 13 args [] (.tup rs) [] := ko_farandoleref44_Source h hN hl hw

noncomputable def s_farandoleref44_Services_r0 : List SOper := [
  ⟨(some 2), .mov (.k (.d .nilsl)), none⟩]
noncomputable def s_farandoleref44_Services_r1 : List SOper := [
  ⟨(some 4), .mov (.t 0), none⟩,
  ⟨(some 5), .call (.k (.d (.func (.func 64) [] []))) [(.t 4)], none⟩,
  ⟨(some 3), .mov (.t 5), none⟩]
noncomputable def s_farandoleref44_Services_r2 : List SOper := [
  ⟨(some 6), .mov (.t 3), none⟩,
  ⟨(some 7), .bin .geq (.t 6) (.k (.d (.int .i64 0))), none⟩]
noncomputable def s_farandoleref44_Services_r3 : List SOper := [
  ⟨(some 8), .call (.k (.d (.func (.func 66) [] []))) [], none⟩,
  ⟨(some 9), .mov (.t 3), none⟩,
  ⟨(some 10), .iaddr 1 (.t 8) (.t 9), none⟩,
  ⟨(some 11), .load none (.t 10), none⟩,
  ⟨(some 2), .mov (.t 11), none⟩]
noncomputable def s_farandoleref44_Services_r4 : List SOper := [
  ⟨(some 2), .mov (.k (.d .nilsl)), none⟩]
noncomputable def s_farandoleref44_Services : SCode := (.seq (.region s_farandoleref44_Services_r0 0 []) (.seq (.seq (.region s_farandoleref44_Services_r1 0 []) (.seq (.region s_farandoleref44_Services_r2 0 []) (.cond (.t 7) (.seq (.region s_farandoleref44_Services_r3 0 []) .ret) .skip))) (.seq (.region s_farandoleref44_Services_r4 0 []) .ret)))
theorem e_farandoleref44_Services {P : Program} {k0 : Nat} {Q : SExit → St → Prop} {st : St} : AWp P k0 s_farandoleref44_Services Q st = AWp P k0 (.seq (.region s_farandoleref44_Services_r0 0 []) (.seq (.seq (.region s_farandoleref44_Services_r1 0 []) (.seq (.region s_farandoleref44_Services_r2 0 []) (.cond (.t 7) (.seq (.region s_farandoleref44_Services_r3 0 []) .ret) .skip))) (.seq (.region s_farandoleref44_Services_r4 0 []) .ret))) Q st := rfl
theorem u_farandoleref44_Services_r0 {P : Program} {o : Nat} {p : List (Nat × Nat)} {Q : SExit → St → Prop} {st : St} : goReg P s_farandoleref44_Services_r0 o p Q st = goLit P (litOf s_farandoleref44_Services_r0.eq_1) o p Q st := goReg_of _
theorem u_farandoleref44_Services_r1 {P : Program} {o : Nat} {p : List (Nat × Nat)} {Q : SExit → St → Prop} {st : St} : goReg P s_farandoleref44_Services_r1 o p Q st = goLit P (litOf s_farandoleref44_Services_r1.eq_1) o p Q st := goReg_of _
theorem u_farandoleref44_Services_r2 {P : Program} {o : Nat} {p : List (Nat × Nat)} {Q : SExit → St → Prop} {st : St} : goReg P s_farandoleref44_Services_r2 o p Q st = goLit P (litOf s_farandoleref44_Services_r2.eq_1) o p Q st := goReg_of _
theorem u_farandoleref44_Services_r3 {P : Program} {o : Nat} {p : List (Nat × Nat)} {Q : SExit → St → Prop} {st : St} : goReg P s_farandoleref44_Services_r3 o p Q st = goLit P (litOf s_farandoleref44_Services_r3.eq_1) o p Q st := goReg_of _
theorem u_farandoleref44_Services_r4 {P : Program} {o : Nat} {p : List (Nat × Nat)} {Q : SExit → St → Prop} {st : St} : goReg P s_farandoleref44_Services_r4 o p Q st = goLit P (litOf s_farandoleref44_Services_r4.eq_1) o p Q st := goReg_of _
attribute [go_sem] u_farandoleref44_Services_r0 u_farandoleref44_Services_r1 u_farandoleref44_Services_r2 u_farandoleref44_Services_r3 u_farandoleref44_Services_r4 e_farandoleref44_Services
set_option maxRecDepth 100000 in
theorem c_farandoleref44_Services : Try.f18.body.bind (compCode Try.prog Try.f18.ntmps news) = some s_farandoleref44_Services := by kernel_rfl
theorem r_farandoleref44_Services : Try.f18.results.toList.mapM (compRes Try.prog) = some [(.tmp 2)] := by kernel_rfl
theorem n_farandoleref44_Services : Try.f18.ntmps = 12 := by kernel_rfl
theorem b_farandoleref44_Services : (Try.prog.funcs[18]?).any (fun fn => fn.body.isSome && !(fn.name == "runtime.NumGoroutine")) = true := by kernel_rfl
theorem ko_farandoleref44_Services {args : List ASlot} {r : ASlot} {objs objs' : List AObj} (h : AWp Try.prog objs.length s_farandoleref44_Services (bodyQ objs.length [(.tmp 2)] [r] objs') (entrySt args objs)) (hN : args.length ≤ 12 := by simp) (hw : ltB 16 (toksOf args ++ osToks objs) = true := by rfl) : ACall Try.prog 18 args objs r objs' :=
  acall_go (rs := [r]) follows Try.func18 c_farandoleref44_Services r_farandoleref44_Services h (by rw [n_farandoleref44_Services]; exact hN) rfl hw
theorem k_farandoleref44_Services {args : List ASlot} {r : ASlot} (h : AWp Try.prog 0 s_farandoleref44_Services (bodyQ 0 [(.tmp 2)] [r] []) (entrySt args [])) (hN : args.length ≤ 12 := by simp) (hw : ltB 16 (toksOf args ++ osToks []) = true := by rfl) : ACall Try.prog 18 args [] r [] := ko_farandoleref44_Services h hN hw



/-- A list that is built element by element. -/
def Spick {α β : Type} (es : Nat) (enc : α → List D) (encb : β → List D) (f : α → β) (l : List α) (i : { i : Nat // i ≤ l.length }) : St :=
  ⟨[(1, true, .own 0 1 (((l.take i.val).map f).map encb)), (4, true, .d (.sl es (l.map enc))), (5, true, .d (.int .i64 l.length)), (6, true, .d (.int .i64 (i.val : Nat)))], [], [0], 1⟩

theorem map_map_take_succ {α β γ : Type} (g : β → γ) (f : α → β) (l : List α) {i : Nat} (h : i < l.length) : ((l.take (i + 1)).map f).map g = ((l.take i).map f).map g ++ [g (f l[i])] := by
  rw [List.take_succ_eq_append_getElem h, List.map_append, List.map_append]; rfl

theorem allS_len : allS.length = 8 := rfl
theorem allR_len : allR.length = 6 := rfl
theorem names_ok : ACall Try.prog 19 [] [] (.d (.sl 1 ((allS.map Smp.name).map encS))) [] := by
  have hl := allS_len
  refine k_samples_Names ?_
  try simp only [go_sem, Nat.reduceAdd, Nat.reduceMul, Nat.reduceSub, Nat.reduceEqDiff, Nat.reduceLT, Nat.reduceLeDiff, Nat.reduceBEq, reduceIte, reduceCtorEq, Int.reduceAdd, Int.reduceLT, Int.reduceLE, Int.reduceGT, Int.reduceGE, Int.reduceEq, Int.reduceNe, Int.reduceBEq, Int.reduceBNe, Int.reduceToNat, Int.reduceNeg]
  (repeat (with_reducible refine And.intro (by first | omega | (simp_all; done) | grind) ?_)); refine callO_pure (all44_ok) b_samples_all (fun h => by first | exact h | (simp only [h, Bool.and_self, Bool.and_true])) (fun _ => by first | exact ⟨matchA_refl, trivial⟩ | exact ⟨matchA_refl, matchA_refl, trivial⟩ | exact ⟨matchA_refl, matchA_refl, matchA_refl, trivial⟩ | simp only [encS, encSmp, go_sem, Nat.reduceAdd, Nat.reduceMul, Nat.reduceSub, Nat.reduceEqDiff, Nat.reduceLT, Nat.reduceLeDiff, Nat.reduceBEq, reduceIte, reduceCtorEq, Int.reduceAdd, Int.reduceLT, Int.reduceLE, Int.reduceGT, Int.reduceGE, Int.reduceEq, Int.reduceNe, Int.reduceBEq, Int.reduceBNe, Int.reduceToNat, Int.reduceNeg]) (by simp only [go_sem, Nat.reduceAdd, Nat.reduceMul, Nat.reduceSub, Nat.reduceEqDiff, Nat.reduceLT, Nat.reduceLeDiff, Nat.reduceBEq, reduceIte, reduceCtorEq, Int.reduceAdd, Int.reduceLT, Int.reduceLE, Int.reduceGT, Int.reduceGE, Int.reduceEq, Int.reduceNe, Int.reduceBEq, Int.reduceBNe, Int.reduceToNat, Int.reduceNeg]) rfl rfl ?_
  try simp only [go_sem, Nat.reduceAdd, Nat.reduceMul, Nat.reduceSub, Nat.reduceEqDiff, Nat.reduceLT, Nat.reduceLeDiff, Nat.reduceBEq, reduceIte, reduceCtorEq, Int.reduceAdd, Int.reduceLT, Int.reduceLE, Int.reduceGT, Int.reduceGE, Int.reduceEq, Int.reduceNe, Int.reduceBEq, Int.reduceBNe, Int.reduceToNat, Int.reduceNeg]
  refine AWp_loop (Spick 3 encSmp encS Smp.name allS) (fun i => allS.length - i.val) ⟨0, Nat.zero_le _⟩ ?_ (fun i => ?_)
  · try simp only [Spick, go_sem, Nat.reduceAdd, Nat.reduceMul, Nat.reduceSub, Nat.reduceEqDiff, Nat.reduceLT, Nat.reduceLeDiff, Nat.reduceBEq, reduceIte, reduceCtorEq, Int.reduceAdd, Int.reduceLT, Int.reduceLE, Int.reduceGT, Int.reduceGE, Int.reduceEq, Int.reduceNe, Int.reduceBEq, Int.reduceBNe, Int.reduceToNat, Int.reduceNeg]
  obtain ⟨i, hi⟩ := i
  try simp only [Spick, go_sem, Nat.reduceAdd, Nat.reduceMul, Nat.reduceSub, Nat.reduceEqDiff, Nat.reduceLT, Nat.reduceLeDiff, Nat.reduceBEq, reduceIte, reduceCtorEq, Int.reduceAdd, Int.reduceLT, Int.reduceLE, Int.reduceGT, Int.reduceGE, Int.reduceEq, Int.reduceNe, Int.reduceBEq, Int.reduceBNe, Int.reduceToNat, Int.reduceNeg]
  (repeat (with_reducible refine And.intro (by first | omega | (simp_all; done) | grind) ?_)); refine AWp_cond _ rfl rfl (fun h => ?_) (fun h => ?_)
  · have hil : i < allS.length := by simpa using h
    simp only [getD_map encSmp allS hil, encSmp, go_sem, Nat.reduceAdd, Nat.reduceMul, Nat.reduceSub, Nat.reduceEqDiff, Nat.reduceLT, Nat.reduceLeDiff, Nat.reduceBEq, reduceIte, reduceCtorEq, Int.reduceAdd, Int.reduceLT, Int.reduceLE, Int.reduceGT, Int.reduceGE, Int.reduceEq, Int.reduceNe, Int.reduceBEq, Int.reduceBNe, Int.reduceToNat, Int.reduceNeg]
    repeat (with_reducible refine And.intro (by first | omega | (simp_all; done) | grind) ?_)
    have hlt : ((allS.take i).map Smp.name).length ≤ 1000 := by simp; omega
    have hlt2 : (allS.take i).length ≤ 1000 := by simp; omega
    refine ⟨⟨i + 1, hil⟩, ?_, by dsimp only; omega⟩
    simp only [Spick, map_map_take_succ encS Smp.name allS hil, encS, wrap_succ (show i < 9223372036854775807 by omega), go_sem, Nat.reduceAdd, Nat.reduceMul, Nat.reduceSub, Nat.reduceEqDiff, Nat.reduceLT, Nat.reduceLeDiff, Nat.reduceBEq, reduceIte, reduceCtorEq, Int.reduceAdd, Int.reduceLT, Int.reduceLE, Int.reduceGT, Int.reduceGE, Int.reduceEq, Int.reduceNe, Int.reduceBEq, Int.reduceBNe, Int.reduceToNat, Int.reduceNeg]
  · have hil : i = allS.length := by
      have : allS.length ≤ i := by simpa using h
      omega
    subst hil
    try simp only [List.take_length, go_sem, Nat.reduceAdd, Nat.reduceMul, Nat.reduceSub, Nat.reduceEqDiff, Nat.reduceLT, Nat.reduceLeDiff, Nat.reduceBEq, reduceIte, reduceCtorEq, Int.reduceAdd, Int.reduceLT, Int.reduceLE, Int.reduceGT, Int.reduceGE, Int.reduceEq, Int.reduceNe, Int.reduceBEq, Int.reduceBNe, Int.reduceToNat, Int.reduceNeg]
theorem protocols_ok : ACall Try.prog 21 [] [] (.d (.sl 1 ((allS.map Smp.src).map encS))) [] := by
  have hl := allS_len
  refine k_samples_Protocols ?_
  try simp only [go_sem, Nat.reduceAdd, Nat.reduceMul, Nat.reduceSub, Nat.reduceEqDiff, Nat.reduceLT, Nat.reduceLeDiff, Nat.reduceBEq, reduceIte, reduceCtorEq, Int.reduceAdd, Int.reduceLT, Int.reduceLE, Int.reduceGT, Int.reduceGE, Int.reduceEq, Int.reduceNe, Int.reduceBEq, Int.reduceBNe, Int.reduceToNat, Int.reduceNeg]
  (repeat (with_reducible refine And.intro (by first | omega | (simp_all; done) | grind) ?_)); refine callO_pure (all44_ok) b_samples_all (fun h => by first | exact h | (simp only [h, Bool.and_self, Bool.and_true])) (fun _ => by first | exact ⟨matchA_refl, trivial⟩ | exact ⟨matchA_refl, matchA_refl, trivial⟩ | exact ⟨matchA_refl, matchA_refl, matchA_refl, trivial⟩ | simp only [encS, encSmp, go_sem, Nat.reduceAdd, Nat.reduceMul, Nat.reduceSub, Nat.reduceEqDiff, Nat.reduceLT, Nat.reduceLeDiff, Nat.reduceBEq, reduceIte, reduceCtorEq, Int.reduceAdd, Int.reduceLT, Int.reduceLE, Int.reduceGT, Int.reduceGE, Int.reduceEq, Int.reduceNe, Int.reduceBEq, Int.reduceBNe, Int.reduceToNat, Int.reduceNeg]) (by simp only [go_sem, Nat.reduceAdd, Nat.reduceMul, Nat.reduceSub, Nat.reduceEqDiff, Nat.reduceLT, Nat.reduceLeDiff, Nat.reduceBEq, reduceIte, reduceCtorEq, Int.reduceAdd, Int.reduceLT, Int.reduceLE, Int.reduceGT, Int.reduceGE, Int.reduceEq, Int.reduceNe, Int.reduceBEq, Int.reduceBNe, Int.reduceToNat, Int.reduceNeg]) rfl rfl ?_
  try simp only [go_sem, Nat.reduceAdd, Nat.reduceMul, Nat.reduceSub, Nat.reduceEqDiff, Nat.reduceLT, Nat.reduceLeDiff, Nat.reduceBEq, reduceIte, reduceCtorEq, Int.reduceAdd, Int.reduceLT, Int.reduceLE, Int.reduceGT, Int.reduceGE, Int.reduceEq, Int.reduceNe, Int.reduceBEq, Int.reduceBNe, Int.reduceToNat, Int.reduceNeg]
  refine AWp_loop (Spick 3 encSmp encS Smp.src allS) (fun i => allS.length - i.val) ⟨0, Nat.zero_le _⟩ ?_ (fun i => ?_)
  · try simp only [Spick, go_sem, Nat.reduceAdd, Nat.reduceMul, Nat.reduceSub, Nat.reduceEqDiff, Nat.reduceLT, Nat.reduceLeDiff, Nat.reduceBEq, reduceIte, reduceCtorEq, Int.reduceAdd, Int.reduceLT, Int.reduceLE, Int.reduceGT, Int.reduceGE, Int.reduceEq, Int.reduceNe, Int.reduceBEq, Int.reduceBNe, Int.reduceToNat, Int.reduceNeg]
  obtain ⟨i, hi⟩ := i
  try simp only [Spick, go_sem, Nat.reduceAdd, Nat.reduceMul, Nat.reduceSub, Nat.reduceEqDiff, Nat.reduceLT, Nat.reduceLeDiff, Nat.reduceBEq, reduceIte, reduceCtorEq, Int.reduceAdd, Int.reduceLT, Int.reduceLE, Int.reduceGT, Int.reduceGE, Int.reduceEq, Int.reduceNe, Int.reduceBEq, Int.reduceBNe, Int.reduceToNat, Int.reduceNeg]
  (repeat (with_reducible refine And.intro (by first | omega | (simp_all; done) | grind) ?_)); refine AWp_cond _ rfl rfl (fun h => ?_) (fun h => ?_)
  · have hil : i < allS.length := by simpa using h
    simp only [getD_map encSmp allS hil, encSmp, go_sem, Nat.reduceAdd, Nat.reduceMul, Nat.reduceSub, Nat.reduceEqDiff, Nat.reduceLT, Nat.reduceLeDiff, Nat.reduceBEq, reduceIte, reduceCtorEq, Int.reduceAdd, Int.reduceLT, Int.reduceLE, Int.reduceGT, Int.reduceGE, Int.reduceEq, Int.reduceNe, Int.reduceBEq, Int.reduceBNe, Int.reduceToNat, Int.reduceNeg]
    repeat (with_reducible refine And.intro (by first | omega | (simp_all; done) | grind) ?_)
    have hlt : ((allS.take i).map Smp.src).length ≤ 1000 := by simp; omega
    have hlt2 : (allS.take i).length ≤ 1000 := by simp; omega
    refine ⟨⟨i + 1, hil⟩, ?_, by dsimp only; omega⟩
    simp only [Spick, map_map_take_succ encS Smp.src allS hil, encS, wrap_succ (show i < 9223372036854775807 by omega), go_sem, Nat.reduceAdd, Nat.reduceMul, Nat.reduceSub, Nat.reduceEqDiff, Nat.reduceLT, Nat.reduceLeDiff, Nat.reduceBEq, reduceIte, reduceCtorEq, Int.reduceAdd, Int.reduceLT, Int.reduceLE, Int.reduceGT, Int.reduceGE, Int.reduceEq, Int.reduceNe, Int.reduceBEq, Int.reduceBNe, Int.reduceToNat, Int.reduceNeg]
  · have hil : i = allS.length := by
      have : allS.length ≤ i := by simpa using h
      omega
    subst hil
    try simp only [List.take_length, go_sem, Nat.reduceAdd, Nat.reduceMul, Nat.reduceSub, Nat.reduceEqDiff, Nat.reduceLT, Nat.reduceLeDiff, Nat.reduceBEq, reduceIte, reduceCtorEq, Int.reduceAdd, Int.reduceLT, Int.reduceLE, Int.reduceGT, Int.reduceGE, Int.reduceEq, Int.reduceNe, Int.reduceBEq, Int.reduceBNe, Int.reduceToNat, Int.reduceNeg]
theorem rejected_ok : ACall Try.prog 23 [] [] (.d (.sl 1 ((allR.map Rej.src).map encS))) [] := by
  have hl := allR_len
  refine k_samples_Rejected ?_
  try simp only [go_sem, Nat.reduceAdd, Nat.reduceMul, Nat.reduceSub, Nat.reduceEqDiff, Nat.reduceLT, Nat.reduceLeDiff, Nat.reduceBEq, reduceIte, reduceCtorEq, Int.reduceAdd, Int.reduceLT, Int.reduceLE, Int.reduceGT, Int.reduceGE, Int.reduceEq, Int.reduceNe, Int.reduceBEq, Int.reduceBNe, Int.reduceToNat, Int.reduceNeg]
  (repeat (with_reducible refine And.intro (by first | omega | (simp_all; done) | grind) ?_)); refine callO_pure (rej_ok) b_samples_rejections (fun h => by first | exact h | (simp only [h, Bool.and_self, Bool.and_true])) (fun _ => by first | exact ⟨matchA_refl, trivial⟩ | exact ⟨matchA_refl, matchA_refl, trivial⟩ | exact ⟨matchA_refl, matchA_refl, matchA_refl, trivial⟩ | simp only [encS, encSmp, go_sem, Nat.reduceAdd, Nat.reduceMul, Nat.reduceSub, Nat.reduceEqDiff, Nat.reduceLT, Nat.reduceLeDiff, Nat.reduceBEq, reduceIte, reduceCtorEq, Int.reduceAdd, Int.reduceLT, Int.reduceLE, Int.reduceGT, Int.reduceGE, Int.reduceEq, Int.reduceNe, Int.reduceBEq, Int.reduceBNe, Int.reduceToNat, Int.reduceNeg]) (by simp only [go_sem, Nat.reduceAdd, Nat.reduceMul, Nat.reduceSub, Nat.reduceEqDiff, Nat.reduceLT, Nat.reduceLeDiff, Nat.reduceBEq, reduceIte, reduceCtorEq, Int.reduceAdd, Int.reduceLT, Int.reduceLE, Int.reduceGT, Int.reduceGE, Int.reduceEq, Int.reduceNe, Int.reduceBEq, Int.reduceBNe, Int.reduceToNat, Int.reduceNeg]) rfl rfl ?_
  try simp only [go_sem, Nat.reduceAdd, Nat.reduceMul, Nat.reduceSub, Nat.reduceEqDiff, Nat.reduceLT, Nat.reduceLeDiff, Nat.reduceBEq, reduceIte, reduceCtorEq, Int.reduceAdd, Int.reduceLT, Int.reduceLE, Int.reduceGT, Int.reduceGE, Int.reduceEq, Int.reduceNe, Int.reduceBEq, Int.reduceBNe, Int.reduceToNat, Int.reduceNeg]
  refine AWp_loop (Spick 2 encRej encS Rej.src allR) (fun i => allR.length - i.val) ⟨0, Nat.zero_le _⟩ ?_ (fun i => ?_)
  · try simp only [Spick, go_sem, Nat.reduceAdd, Nat.reduceMul, Nat.reduceSub, Nat.reduceEqDiff, Nat.reduceLT, Nat.reduceLeDiff, Nat.reduceBEq, reduceIte, reduceCtorEq, Int.reduceAdd, Int.reduceLT, Int.reduceLE, Int.reduceGT, Int.reduceGE, Int.reduceEq, Int.reduceNe, Int.reduceBEq, Int.reduceBNe, Int.reduceToNat, Int.reduceNeg]
  obtain ⟨i, hi⟩ := i
  try simp only [Spick, go_sem, Nat.reduceAdd, Nat.reduceMul, Nat.reduceSub, Nat.reduceEqDiff, Nat.reduceLT, Nat.reduceLeDiff, Nat.reduceBEq, reduceIte, reduceCtorEq, Int.reduceAdd, Int.reduceLT, Int.reduceLE, Int.reduceGT, Int.reduceGE, Int.reduceEq, Int.reduceNe, Int.reduceBEq, Int.reduceBNe, Int.reduceToNat, Int.reduceNeg]
  (repeat (with_reducible refine And.intro (by first | omega | (simp_all; done) | grind) ?_)); refine AWp_cond _ rfl rfl (fun h => ?_) (fun h => ?_)
  · have hil : i < allR.length := by simpa using h
    simp only [getD_map encRej allR hil, encRej, go_sem, Nat.reduceAdd, Nat.reduceMul, Nat.reduceSub, Nat.reduceEqDiff, Nat.reduceLT, Nat.reduceLeDiff, Nat.reduceBEq, reduceIte, reduceCtorEq, Int.reduceAdd, Int.reduceLT, Int.reduceLE, Int.reduceGT, Int.reduceGE, Int.reduceEq, Int.reduceNe, Int.reduceBEq, Int.reduceBNe, Int.reduceToNat, Int.reduceNeg]
    repeat (with_reducible refine And.intro (by first | omega | (simp_all; done) | grind) ?_)
    have hlt : ((allR.take i).map Rej.src).length ≤ 1000 := by simp; omega
    have hlt2 : (allR.take i).length ≤ 1000 := by simp; omega
    refine ⟨⟨i + 1, hil⟩, ?_, by dsimp only; omega⟩
    simp only [Spick, map_map_take_succ encS Rej.src allR hil, encS, wrap_succ (show i < 9223372036854775807 by omega), go_sem, Nat.reduceAdd, Nat.reduceMul, Nat.reduceSub, Nat.reduceEqDiff, Nat.reduceLT, Nat.reduceLeDiff, Nat.reduceBEq, reduceIte, reduceCtorEq, Int.reduceAdd, Int.reduceLT, Int.reduceLE, Int.reduceGT, Int.reduceGE, Int.reduceEq, Int.reduceNe, Int.reduceBEq, Int.reduceBNe, Int.reduceToNat, Int.reduceNeg]
  · have hil : i = allR.length := by
      have : allR.length ≤ i := by simpa using h
      omega
    subst hil
    try simp only [List.take_length, go_sem, Nat.reduceAdd, Nat.reduceMul, Nat.reduceSub, Nat.reduceEqDiff, Nat.reduceLT, Nat.reduceLeDiff, Nat.reduceBEq, reduceIte, reduceCtorEq, Int.reduceAdd, Int.reduceLT, Int.reduceLE, Int.reduceGT, Int.reduceGE, Int.reduceEq, Int.reduceNe, Int.reduceBEq, Int.reduceBNe, Int.reduceToNat, Int.reduceNeg]
theorem errors_ok : ACall Try.prog 14 [] [] (.d (.sl 1 ((allR.map Rej.e).map encI))) [] := by
  have hl := allR_len
  refine k_samples_Errors ?_
  try simp only [go_sem, Nat.reduceAdd, Nat.reduceMul, Nat.reduceSub, Nat.reduceEqDiff, Nat.reduceLT, Nat.reduceLeDiff, Nat.reduceBEq, reduceIte, reduceCtorEq, Int.reduceAdd, Int.reduceLT, Int.reduceLE, Int.reduceGT, Int.reduceGE, Int.reduceEq, Int.reduceNe, Int.reduceBEq, Int.reduceBNe, Int.reduceToNat, Int.reduceNeg]
  (repeat (with_reducible refine And.intro (by first | omega | (simp_all; done) | grind) ?_)); refine callO_pure (rej_ok) b_samples_rejections (fun h => by first | exact h | (simp only [h, Bool.and_self, Bool.and_true])) (fun _ => by first | exact ⟨matchA_refl, trivial⟩ | exact ⟨matchA_refl, matchA_refl, trivial⟩ | exact ⟨matchA_refl, matchA_refl, matchA_refl, trivial⟩ | simp only [encS, encSmp, go_sem, Nat.reduceAdd, Nat.reduceMul, Nat.reduceSub, Nat.reduceEqDiff, Nat.reduceLT, Nat.reduceLeDiff, Nat.reduceBEq, reduceIte, reduceCtorEq, Int.reduceAdd, Int.reduceLT, Int.reduceLE, Int.reduceGT, Int.reduceGE, Int.reduceEq, Int.reduceNe, Int.reduceBEq, Int.reduceBNe, Int.reduceToNat, Int.reduceNeg]) (by simp only [go_sem, Nat.reduceAdd, Nat.reduceMul, Nat.reduceSub, Nat.reduceEqDiff, Nat.reduceLT, Nat.reduceLeDiff, Nat.reduceBEq, reduceIte, reduceCtorEq, Int.reduceAdd, Int.reduceLT, Int.reduceLE, Int.reduceGT, Int.reduceGE, Int.reduceEq, Int.reduceNe, Int.reduceBEq, Int.reduceBNe, Int.reduceToNat, Int.reduceNeg]) rfl rfl ?_
  try simp only [go_sem, Nat.reduceAdd, Nat.reduceMul, Nat.reduceSub, Nat.reduceEqDiff, Nat.reduceLT, Nat.reduceLeDiff, Nat.reduceBEq, reduceIte, reduceCtorEq, Int.reduceAdd, Int.reduceLT, Int.reduceLE, Int.reduceGT, Int.reduceGE, Int.reduceEq, Int.reduceNe, Int.reduceBEq, Int.reduceBNe, Int.reduceToNat, Int.reduceNeg]
  refine AWp_loop (Spick 2 encRej encI Rej.e allR) (fun i => allR.length - i.val) ⟨0, Nat.zero_le _⟩ ?_ (fun i => ?_)
  · try simp only [Spick, go_sem, Nat.reduceAdd, Nat.reduceMul, Nat.reduceSub, Nat.reduceEqDiff, Nat.reduceLT, Nat.reduceLeDiff, Nat.reduceBEq, reduceIte, reduceCtorEq, Int.reduceAdd, Int.reduceLT, Int.reduceLE, Int.reduceGT, Int.reduceGE, Int.reduceEq, Int.reduceNe, Int.reduceBEq, Int.reduceBNe, Int.reduceToNat, Int.reduceNeg]
  obtain ⟨i, hi⟩ := i
  try simp only [Spick, go_sem, Nat.reduceAdd, Nat.reduceMul, Nat.reduceSub, Nat.reduceEqDiff, Nat.reduceLT, Nat.reduceLeDiff, Nat.reduceBEq, reduceIte, reduceCtorEq, Int.reduceAdd, Int.reduceLT, Int.reduceLE, Int.reduceGT, Int.reduceGE, Int.reduceEq, Int.reduceNe, Int.reduceBEq, Int.reduceBNe, Int.reduceToNat, Int.reduceNeg]
  (repeat (with_reducible refine And.intro (by first | omega | (simp_all; done) | grind) ?_)); refine AWp_cond _ rfl rfl (fun h => ?_) (fun h => ?_)
  · have hil : i < allR.length := by simpa using h
    simp only [getD_map encRej allR hil, encRej, go_sem, Nat.reduceAdd, Nat.reduceMul, Nat.reduceSub, Nat.reduceEqDiff, Nat.reduceLT, Nat.reduceLeDiff, Nat.reduceBEq, reduceIte, reduceCtorEq, Int.reduceAdd, Int.reduceLT, Int.reduceLE, Int.reduceGT, Int.reduceGE, Int.reduceEq, Int.reduceNe, Int.reduceBEq, Int.reduceBNe, Int.reduceToNat, Int.reduceNeg]
    repeat (with_reducible refine And.intro (by first | omega | (simp_all; done) | grind) ?_)
    have hlt : ((allR.take i).map Rej.e).length ≤ 1000 := by simp; omega
    have hlt2 : (allR.take i).length ≤ 1000 := by simp; omega
    refine ⟨⟨i + 1, hil⟩, ?_, by dsimp only; omega⟩
    simp only [Spick, map_map_take_succ encI Rej.e allR hil, encI, wrap_succ (show i < 9223372036854775807 by omega), go_sem, Nat.reduceAdd, Nat.reduceMul, Nat.reduceSub, Nat.reduceEqDiff, Nat.reduceLT, Nat.reduceLeDiff, Nat.reduceBEq, reduceIte, reduceCtorEq, Int.reduceAdd, Int.reduceLT, Int.reduceLE, Int.reduceGT, Int.reduceGE, Int.reduceEq, Int.reduceNe, Int.reduceBEq, Int.reduceBNe, Int.reduceToNat, Int.reduceNeg]
  · have hil : i = allR.length := by
      have : allR.length ≤ i := by simpa using h
      omega
    subst hil
    try simp only [List.take_length, go_sem, Nat.reduceAdd, Nat.reduceMul, Nat.reduceSub, Nat.reduceEqDiff, Nat.reduceLT, Nat.reduceLeDiff, Nat.reduceBEq, reduceIte, reduceCtorEq, Int.reduceAdd, Int.reduceLT, Int.reduceLE, Int.reduceGT, Int.reduceGE, Int.reduceEq, Int.reduceNe, Int.reduceBEq, Int.reduceBNe, Int.reduceToNat, Int.reduceNeg]

theorem same44_ok (l m : List (List UInt8)) (hl : l.length ≤ 1000) : ACall Try.prog 16 [.d (.sl 1 (l.map encS)), .d (.sl 1 (m.map encS))] [] (.d (.bool (decide (l = m)))) [] := by
  refine k_farandoleref44_Same ?_
  try simp only [go_sem, Nat.reduceAdd, Nat.reduceMul, Nat.reduceSub, Nat.reduceEqDiff, Nat.reduceLT, Nat.reduceLeDiff, Nat.reduceBEq, reduceIte, reduceCtorEq, Int.reduceAdd, Int.reduceLT, Int.reduceLE, Int.reduceGT, Int.reduceGE, Int.reduceEq, Int.reduceNe, Int.reduceBEq, Int.reduceBNe, Int.reduceToNat, Int.reduceNeg]
  (repeat (with_reducible refine And.intro (by first | omega | (simp_all; done) | grind) ?_)); refine AWp_cond _ rfl rfl (fun h => ?_) (fun h => ?_)
  · have hne : decide (l = m) = false := by rw [decide_eq_false_iff_not]; rintro rfl; simp at h
    try simp only [hne, go_sem, Nat.reduceAdd, Nat.reduceMul, Nat.reduceSub, Nat.reduceEqDiff, Nat.reduceLT, Nat.reduceLeDiff, Nat.reduceBEq, reduceIte, reduceCtorEq, Int.reduceAdd, Int.reduceLT, Int.reduceLE, Int.reduceGT, Int.reduceGE, Int.reduceEq, Int.reduceNe, Int.reduceBEq, Int.reduceBNe, Int.reduceToNat, Int.reduceNeg]
  have hlm : l.length = m.length := by simp at h; omega
  try simp only [go_sem, Nat.reduceAdd, Nat.reduceMul, Nat.reduceSub, Nat.reduceEqDiff, Nat.reduceLT, Nat.reduceLeDiff, Nat.reduceBEq, reduceIte, reduceCtorEq, Int.reduceAdd, Int.reduceLT, Int.reduceLE, Int.reduceGT, Int.reduceGE, Int.reduceEq, Int.reduceNe, Int.reduceBEq, Int.reduceBNe, Int.reduceToNat, Int.reduceNeg]
  refine AWp_loop (Ssame 1 encS l m) (fun i => l.length - i.val) ⟨0, rfl⟩ ?_ (fun i => ?_)
  · try simp only [Ssame, go_sem, Nat.reduceAdd, Nat.reduceMul, Nat.reduceSub, Nat.reduceEqDiff, Nat.reduceLT, Nat.reduceLeDiff, Nat.reduceBEq, reduceIte, reduceCtorEq, Int.reduceAdd, Int.reduceLT, Int.reduceLE, Int.reduceGT, Int.reduceGE, Int.reduceEq, Int.reduceNe, Int.reduceBEq, Int.reduceBNe, Int.reduceToNat, Int.reduceNeg]
  obtain ⟨i, hi⟩ := i
  try simp only [Ssame, go_sem, Nat.reduceAdd, Nat.reduceMul, Nat.reduceSub, Nat.reduceEqDiff, Nat.reduceLT, Nat.reduceLeDiff, Nat.reduceBEq, reduceIte, reduceCtorEq, Int.reduceAdd, Int.reduceLT, Int.reduceLE, Int.reduceGT, Int.reduceGE, Int.reduceEq, Int.reduceNe, Int.reduceBEq, Int.reduceBNe, Int.reduceToNat, Int.reduceNeg]
  (repeat (with_reducible refine And.intro (by first | omega | (simp_all; done) | grind) ?_)); refine AWp_cond _ rfl rfl (fun h => ?_) (fun h => ?_)
  · have hil : i < l.length := by simpa using h
    have him : i < m.length := by omega
    simp only [getD_map encS l hil, getD_map encS m him, encS, go_sem, Nat.reduceAdd, Nat.reduceMul, Nat.reduceSub, Nat.reduceEqDiff, Nat.reduceLT, Nat.reduceLeDiff, Nat.reduceBEq, reduceIte, reduceCtorEq, Int.reduceAdd, Int.reduceLT, Int.reduceLE, Int.reduceGT, Int.reduceGE, Int.reduceEq, Int.reduceNe, Int.reduceBEq, Int.reduceBNe, Int.reduceToNat, Int.reduceNeg]
    repeat (with_reducible refine And.intro (by first | omega | (simp_all; done) | grind) ?_)
    refine AWp_cond _ rfl rfl (fun h2 => ?_) (fun h2 => ?_)
    · have hne : l[i] ≠ m[i] := by simpa using h2
      try simp only [eq_ne hil him hne, go_sem, Nat.reduceAdd, Nat.reduceMul, Nat.reduceSub, Nat.reduceEqDiff, Nat.reduceLT, Nat.reduceLeDiff, Nat.reduceBEq, reduceIte, reduceCtorEq, Int.reduceAdd, Int.reduceLT, Int.reduceLE, Int.reduceGT, Int.reduceGE, Int.reduceEq, Int.reduceNe, Int.reduceBEq, Int.reduceBNe, Int.reduceToNat, Int.reduceNeg]
    · have he : l[i] = m[i] := by simpa using h2
      try simp only [go_sem, Nat.reduceAdd, Nat.reduceMul, Nat.reduceSub, Nat.reduceEqDiff, Nat.reduceLT, Nat.reduceLeDiff, Nat.reduceBEq, reduceIte, reduceCtorEq, Int.reduceAdd, Int.reduceLT, Int.reduceLE, Int.reduceGT, Int.reduceGE, Int.reduceEq, Int.reduceNe, Int.reduceBEq, Int.reduceBNe, Int.reduceToNat, Int.reduceNeg]
      refine ⟨⟨i + 1, take_eq_succ hi hil him he⟩, ?_, by dsimp only; omega⟩
      simp only [Ssame, wrap_succ (show i < 9223372036854775807 by omega), go_sem, Nat.reduceAdd, Nat.reduceMul, Nat.reduceSub, Nat.reduceEqDiff, Nat.reduceLT, Nat.reduceLeDiff, Nat.reduceBEq, reduceIte, reduceCtorEq, Int.reduceAdd, Int.reduceLT, Int.reduceLE, Int.reduceGT, Int.reduceGE, Int.reduceEq, Int.reduceNe, Int.reduceBEq, Int.reduceBNe, Int.reduceToNat, Int.reduceNeg]
  · try simp only [take_eq_done hi (by simpa using h) hlm, go_sem, Nat.reduceAdd, Nat.reduceMul, Nat.reduceSub, Nat.reduceEqDiff, Nat.reduceLT, Nat.reduceLeDiff, Nat.reduceBEq, reduceIte, reduceCtorEq, Int.reduceAdd, Int.reduceLT, Int.reduceLE, Int.reduceGT, Int.reduceGE, Int.reduceEq, Int.reduceNe, Int.reduceBEq, Int.reduceBNe, Int.reduceToNat, Int.reduceNeg]

/-- The names, and where one stands. -/
def nameL : List (List UInt8) := allS.map Smp.name
theorem nameL_len : nameL.length = 8 := rfl
def Sindex (name : List UInt8) (i : { i : Nat // (nameL.take i).any (· == name) = false }) : St :=
  ⟨[(0, true, .d (.str name)), (3, true, .d (.sl 1 (nameL.map encS))), (4, true, .d (.int .i64 (i.val : Nat)))], [], [], 1⟩

theorem index44_ok (name : List UInt8) : ACall Try.prog 64 [.d (.str name)] [] (.d (.int .i64 (idx (· == name) nameL))) [] := by
  have hl := nameL_len
  have cn := names44_ok
  change ACall _ _ _ _ (.d (.sl 1 (nameL.map encS))) _ at cn
  refine k_farandoleref44_index ?_
  try simp only [go_sem, Nat.reduceAdd, Nat.reduceMul, Nat.reduceSub, Nat.reduceEqDiff, Nat.reduceLT, Nat.reduceLeDiff, Nat.reduceBEq, reduceIte, reduceCtorEq, Int.reduceAdd, Int.reduceLT, Int.reduceLE, Int.reduceGT, Int.reduceGE, Int.reduceEq, Int.reduceNe, Int.reduceBEq, Int.reduceBNe, Int.reduceToNat, Int.reduceNeg]
  (repeat (with_reducible refine And.intro (by first | omega | (simp_all; done) | grind) ?_)); refine callO_pure (cn) b_farandoleref44_Names (fun h => by first | exact h | (simp only [h, Bool.and_self, Bool.and_true])) (fun _ => by first | exact ⟨matchA_refl, trivial⟩ | exact ⟨matchA_refl, matchA_refl, trivial⟩ | exact ⟨matchA_refl, matchA_refl, matchA_refl, trivial⟩ | simp only [encS, encSmp, go_sem, Nat.reduceAdd, Nat.reduceMul, Nat.reduceSub, Nat.reduceEqDiff, Nat.reduceLT, Nat.reduceLeDiff, Nat.reduceBEq, reduceIte, reduceCtorEq, Int.reduceAdd, Int.reduceLT, Int.reduceLE, Int.reduceGT, Int.reduceGE, Int.reduceEq, Int.reduceNe, Int.reduceBEq, Int.reduceBNe, Int.reduceToNat, Int.reduceNeg]) (by simp only [go_sem, Nat.reduceAdd, Nat.reduceMul, Nat.reduceSub, Nat.reduceEqDiff, Nat.reduceLT, Nat.reduceLeDiff, Nat.reduceBEq, reduceIte, reduceCtorEq, Int.reduceAdd, Int.reduceLT, Int.reduceLE, Int.reduceGT, Int.reduceGE, Int.reduceEq, Int.reduceNe, Int.reduceBEq, Int.reduceBNe, Int.reduceToNat, Int.reduceNeg]) rfl rfl ?_
  try simp only [go_sem, Nat.reduceAdd, Nat.reduceMul, Nat.reduceSub, Nat.reduceEqDiff, Nat.reduceLT, Nat.reduceLeDiff, Nat.reduceBEq, reduceIte, reduceCtorEq, Int.reduceAdd, Int.reduceLT, Int.reduceLE, Int.reduceGT, Int.reduceGE, Int.reduceEq, Int.reduceNe, Int.reduceBEq, Int.reduceBNe, Int.reduceToNat, Int.reduceNeg]
  refine AWp_loop (Sindex name) (fun i => nameL.length - i.val) ⟨0, rfl⟩ ?_ (fun i => ?_)
  · try simp only [Sindex, go_sem, Nat.reduceAdd, Nat.reduceMul, Nat.reduceSub, Nat.reduceEqDiff, Nat.reduceLT, Nat.reduceLeDiff, Nat.reduceBEq, reduceIte, reduceCtorEq, Int.reduceAdd, Int.reduceLT, Int.reduceLE, Int.reduceGT, Int.reduceGE, Int.reduceEq, Int.reduceNe, Int.reduceBEq, Int.reduceBNe, Int.reduceToNat, Int.reduceNeg]
  obtain ⟨i, hi⟩ := i
  try simp only [Sindex, go_sem, Nat.reduceAdd, Nat.reduceMul, Nat.reduceSub, Nat.reduceEqDiff, Nat.reduceLT, Nat.reduceLeDiff, Nat.reduceBEq, reduceIte, reduceCtorEq, Int.reduceAdd, Int.reduceLT, Int.reduceLE, Int.reduceGT, Int.reduceGE, Int.reduceEq, Int.reduceNe, Int.reduceBEq, Int.reduceBNe, Int.reduceToNat, Int.reduceNeg]
  (repeat (with_reducible refine And.intro (by first | omega | (simp_all; done) | grind) ?_)); refine AWp_cond _ rfl rfl (fun h => ?_) (fun h => ?_)
  · have hil : i < nameL.length := by simpa using h
    simp only [getD_map encS nameL hil, encS, go_sem, Nat.reduceAdd, Nat.reduceMul, Nat.reduceSub, Nat.reduceEqDiff, Nat.reduceLT, Nat.reduceLeDiff, Nat.reduceBEq, reduceIte, reduceCtorEq, Int.reduceAdd, Int.reduceLT, Int.reduceLE, Int.reduceGT, Int.reduceGE, Int.reduceEq, Int.reduceNe, Int.reduceBEq, Int.reduceBNe, Int.reduceToNat, Int.reduceNeg]
    repeat (with_reducible refine And.intro (by first | omega | (simp_all; done) | grind) ?_)
    refine AWp_cond _ rfl rfl (fun h2 => ?_) (fun h2 => ?_)
    · try simp only [idx_some hi hil h2, go_sem, Nat.reduceAdd, Nat.reduceMul, Nat.reduceSub, Nat.reduceEqDiff, Nat.reduceLT, Nat.reduceLeDiff, Nat.reduceBEq, reduceIte, reduceCtorEq, Int.reduceAdd, Int.reduceLT, Int.reduceLE, Int.reduceGT, Int.reduceGE, Int.reduceEq, Int.reduceNe, Int.reduceBEq, Int.reduceBNe, Int.reduceToNat, Int.reduceNeg]
    · try simp only [go_sem, Nat.reduceAdd, Nat.reduceMul, Nat.reduceSub, Nat.reduceEqDiff, Nat.reduceLT, Nat.reduceLeDiff, Nat.reduceBEq, reduceIte, reduceCtorEq, Int.reduceAdd, Int.reduceLT, Int.reduceLE, Int.reduceGT, Int.reduceGE, Int.reduceEq, Int.reduceNe, Int.reduceBEq, Int.reduceBNe, Int.reduceToNat, Int.reduceNeg]
      refine ⟨⟨i + 1, take_any_succ hi hil h2⟩, ?_, by dsimp only; omega⟩
      simp only [Sindex, wrap_succ (show i < 9223372036854775807 by omega), go_sem, Nat.reduceAdd, Nat.reduceMul, Nat.reduceSub, Nat.reduceEqDiff, Nat.reduceLT, Nat.reduceLeDiff, Nat.reduceBEq, reduceIte, reduceCtorEq, Int.reduceAdd, Int.reduceLT, Int.reduceLE, Int.reduceGT, Int.reduceGE, Int.reduceEq, Int.reduceNe, Int.reduceBEq, Int.reduceBNe, Int.reduceToNat, Int.reduceNeg]
  · try simp only [idx_none hi (by simpa using h), go_sem, Nat.reduceAdd, Nat.reduceMul, Nat.reduceSub, Nat.reduceEqDiff, Nat.reduceLT, Nat.reduceLeDiff, Nat.reduceBEq, reduceIte, reduceCtorEq, Int.reduceAdd, Int.reduceLT, Int.reduceLE, Int.reduceGT, Int.reduceGE, Int.reduceEq, Int.reduceNe, Int.reduceBEq, Int.reduceBNe, Int.reduceToNat, Int.reduceNeg]

def at44 (name : List UInt8) : Smp := allS.getD (idx (· == name) nameL).toNat ⟨[], [], []⟩
def has44 (name : List UInt8) : Bool := nameL.any (· == name)
def source44 (name : List UInt8) : List UInt8 × Int := if has44 name then ((at44 name).src, 0) else ([], 8)
def svc44 (name : List UInt8) : List (List UInt8) := if has44 name then (at44 name).svc else []

theorem idx_yes {name : List UInt8} (h : has44 name = true) : 0 ≤ idx (· == name) nameL ∧ idx (· == name) nameL < 8 := by
  unfold has44 at h
  unfold idx
  rw [if_pos h]
  have := List.findIdx_lt_length_of_exists (p := (· == name)) (xs := nameL) (by simpa using h)
  rw [nameL_len] at this
  omega
theorem idx_ge44 (name : List UInt8) : decide (idx (· == name) nameL ≥ 0) = has44 name := idx_ge _ _

theorem getD_allS {β : Type} (f : Smp → β) (n : Int) (h : 0 ≤ n ∧ n < 8) (d : β) : (allS.map f).getD n.toNat d = f (allS.getD n.toNat ⟨[], [], []⟩) := by
  have hl : n.toNat < allS.length := by rw [allS_len]; omega
  rw [getD_map f allS hl, List.getD_eq_getElem?_getD, List.getElem?_eq_getElem hl]
  rfl

theorem source44_ok (name : List UInt8) : ACall Try.prog 13 [.d (.str name)] [] (.tup [.d (.str (source44 name).1), .d (.int .i64 (source44 name).2)]) [] := by
  refine k_farandoleref44_Source ?_
  try simp only [go_sem, Nat.reduceAdd, Nat.reduceMul, Nat.reduceSub, Nat.reduceEqDiff, Nat.reduceLT, Nat.reduceLeDiff, Nat.reduceBEq, reduceIte, reduceCtorEq, Int.reduceAdd, Int.reduceLT, Int.reduceLE, Int.reduceGT, Int.reduceGE, Int.reduceEq, Int.reduceNe, Int.reduceBEq, Int.reduceBNe, Int.reduceToNat, Int.reduceNeg]
  (repeat (with_reducible refine And.intro (by first | omega | (simp_all; done) | grind) ?_)); refine callO_pure (index44_ok name) b_farandoleref44_index (fun h => by first | exact h | (simp only [h, Bool.and_self, Bool.and_true])) (fun _ => by first | exact ⟨matchA_refl, trivial⟩ | exact ⟨matchA_refl, matchA_refl, trivial⟩ | exact ⟨matchA_refl, matchA_refl, matchA_refl, trivial⟩ | simp only [encS, encSmp, go_sem, Nat.reduceAdd, Nat.reduceMul, Nat.reduceSub, Nat.reduceEqDiff, Nat.reduceLT, Nat.reduceLeDiff, Nat.reduceBEq, reduceIte, reduceCtorEq, Int.reduceAdd, Int.reduceLT, Int.reduceLE, Int.reduceGT, Int.reduceGE, Int.reduceEq, Int.reduceNe, Int.reduceBEq, Int.reduceBNe, Int.reduceToNat, Int.reduceNeg]) (by simp only [go_sem, Nat.reduceAdd, Nat.reduceMul, Nat.reduceSub, Nat.reduceEqDiff, Nat.reduceLT, Nat.reduceLeDiff, Nat.reduceBEq, reduceIte, reduceCtorEq, Int.reduceAdd, Int.reduceLT, Int.reduceLE, Int.reduceGT, Int.reduceGE, Int.reduceEq, Int.reduceNe, Int.reduceBEq, Int.reduceBNe, Int.reduceToNat, Int.reduceNeg]) rfl rfl ?_
  try simp only [idx_ge44, go_sem, Nat.reduceAdd, Nat.reduceMul, Nat.reduceSub, Nat.reduceEqDiff, Nat.reduceLT, Nat.reduceLeDiff, Nat.reduceBEq, reduceIte, reduceCtorEq, Int.reduceAdd, Int.reduceLT, Int.reduceLE, Int.reduceGT, Int.reduceGE, Int.reduceEq, Int.reduceNe, Int.reduceBEq, Int.reduceBNe, Int.reduceToNat, Int.reduceNeg]
  (repeat (with_reducible refine And.intro (by first | omega | (simp_all; done) | grind) ?_)); refine AWp_cond _ rfl rfl (fun h => ?_) (fun h => ?_)
  · obtain ⟨h0, h8⟩ := idx_yes h
    have hg := getD_allS (fun x : Smp => encS x.src) _ ⟨h0, h8⟩ []
    have hm : (allS.map Smp.src).map encS = allS.map fun x : Smp => encS x.src := by rw [List.map_map]; rfl
    try simp only [go_sem, Nat.reduceAdd, Nat.reduceMul, Nat.reduceSub, Nat.reduceEqDiff, Nat.reduceLT, Nat.reduceLeDiff, Nat.reduceBEq, reduceIte, reduceCtorEq, Int.reduceAdd, Int.reduceLT, Int.reduceLE, Int.reduceGT, Int.reduceGE, Int.reduceEq, Int.reduceNe, Int.reduceBEq, Int.reduceBNe, Int.reduceToNat, Int.reduceNeg]
    (repeat (with_reducible refine And.intro (by first | omega | (simp_all; done) | grind) ?_)); refine callO_pure (protocols44_ok) b_farandoleref44_Protocols (fun h => by first | exact h | (simp only [h, Bool.and_self, Bool.and_true])) (fun _ => by first | exact ⟨matchA_refl, trivial⟩ | exact ⟨matchA_refl, matchA_refl, trivial⟩ | exact ⟨matchA_refl, matchA_refl, matchA_refl, trivial⟩ | simp only [encS, encSmp, go_sem, Nat.reduceAdd, Nat.reduceMul, Nat.reduceSub, Nat.reduceEqDiff, Nat.reduceLT, Nat.reduceLeDiff, Nat.reduceBEq, reduceIte, reduceCtorEq, Int.reduceAdd, Int.reduceLT, Int.reduceLE, Int.reduceGT, Int.reduceGE, Int.reduceEq, Int.reduceNe, Int.reduceBEq, Int.reduceBNe, Int.reduceToNat, Int.reduceNeg]) (by simp only [go_sem, Nat.reduceAdd, Nat.reduceMul, Nat.reduceSub, Nat.reduceEqDiff, Nat.reduceLT, Nat.reduceLeDiff, Nat.reduceBEq, reduceIte, reduceCtorEq, Int.reduceAdd, Int.reduceLT, Int.reduceLE, Int.reduceGT, Int.reduceGE, Int.reduceEq, Int.reduceNe, Int.reduceBEq, Int.reduceBNe, Int.reduceToNat, Int.reduceNeg]) rfl rfl ?_
    try simp only [hm, hg, List.length_map, allS_len, go_sem, Nat.reduceAdd, Nat.reduceMul, Nat.reduceSub, Nat.reduceEqDiff, Nat.reduceLT, Nat.reduceLeDiff, Nat.reduceBEq, reduceIte, reduceCtorEq, Int.reduceAdd, Int.reduceLT, Int.reduceLE, Int.reduceGT, Int.reduceGE, Int.reduceEq, Int.reduceNe, Int.reduceBEq, Int.reduceBNe, Int.reduceToNat, Int.reduceNeg]
    repeat (with_reducible refine And.intro (by first | omega | (simp_all; done) | grind) ?_)
    try simp only [encS, go_sem, Nat.reduceAdd, Nat.reduceMul, Nat.reduceSub, Nat.reduceEqDiff, Nat.reduceLT, Nat.reduceLeDiff, Nat.reduceBEq, reduceIte, reduceCtorEq, Int.reduceAdd, Int.reduceLT, Int.reduceLE, Int.reduceGT, Int.reduceGE, Int.reduceEq, Int.reduceNe, Int.reduceBEq, Int.reduceBNe, Int.reduceToNat, Int.reduceNeg]
    repeat (with_reducible refine And.intro (by first | omega | (simp_all; done) | grind) ?_)
    simp only [source44, h, at44, go_sem, Nat.reduceAdd, Nat.reduceMul, Nat.reduceSub, Nat.reduceEqDiff, Nat.reduceLT, Nat.reduceLeDiff, Nat.reduceBEq, reduceIte, reduceCtorEq, Int.reduceAdd, Int.reduceLT, Int.reduceLE, Int.reduceGT, Int.reduceGE, Int.reduceEq, Int.reduceNe, Int.reduceBEq, Int.reduceBNe, Int.reduceToNat, Int.reduceNeg]
  · try simp only [source44, h, go_sem, Nat.reduceAdd, Nat.reduceMul, Nat.reduceSub, Nat.reduceEqDiff, Nat.reduceLT, Nat.reduceLeDiff, Nat.reduceBEq, reduceIte, reduceCtorEq, Int.reduceAdd, Int.reduceLT, Int.reduceLE, Int.reduceGT, Int.reduceGE, Int.reduceEq, Int.reduceNe, Int.reduceBEq, Int.reduceBNe, Int.reduceToNat, Int.reduceNeg]

theorem svc44f_ok (name : List UInt8) : ACall Try.prog 18 [.d (.str name)] [] (.d (.sl 1 ((svc44 name).map encS))) [] := by
  refine k_farandoleref44_Services ?_
  try simp only [go_sem, Nat.reduceAdd, Nat.reduceMul, Nat.reduceSub, Nat.reduceEqDiff, Nat.reduceLT, Nat.reduceLeDiff, Nat.reduceBEq, reduceIte, reduceCtorEq, Int.reduceAdd, Int.reduceLT, Int.reduceLE, Int.reduceGT, Int.reduceGE, Int.reduceEq, Int.reduceNe, Int.reduceBEq, Int.reduceBNe, Int.reduceToNat, Int.reduceNeg]
  (repeat (with_reducible refine And.intro (by first | omega | (simp_all; done) | grind) ?_)); refine callO_pure (index44_ok name) b_farandoleref44_index (fun h => by first | exact h | (simp only [h, Bool.and_self, Bool.and_true])) (fun _ => by first | exact ⟨matchA_refl, trivial⟩ | exact ⟨matchA_refl, matchA_refl, trivial⟩ | exact ⟨matchA_refl, matchA_refl, matchA_refl, trivial⟩ | simp only [encS, encSmp, go_sem, Nat.reduceAdd, Nat.reduceMul, Nat.reduceSub, Nat.reduceEqDiff, Nat.reduceLT, Nat.reduceLeDiff, Nat.reduceBEq, reduceIte, reduceCtorEq, Int.reduceAdd, Int.reduceLT, Int.reduceLE, Int.reduceGT, Int.reduceGE, Int.reduceEq, Int.reduceNe, Int.reduceBEq, Int.reduceBNe, Int.reduceToNat, Int.reduceNeg]) (by simp only [go_sem, Nat.reduceAdd, Nat.reduceMul, Nat.reduceSub, Nat.reduceEqDiff, Nat.reduceLT, Nat.reduceLeDiff, Nat.reduceBEq, reduceIte, reduceCtorEq, Int.reduceAdd, Int.reduceLT, Int.reduceLE, Int.reduceGT, Int.reduceGE, Int.reduceEq, Int.reduceNe, Int.reduceBEq, Int.reduceBNe, Int.reduceToNat, Int.reduceNeg]) rfl rfl ?_
  try simp only [idx_ge44, go_sem, Nat.reduceAdd, Nat.reduceMul, Nat.reduceSub, Nat.reduceEqDiff, Nat.reduceLT, Nat.reduceLeDiff, Nat.reduceBEq, reduceIte, reduceCtorEq, Int.reduceAdd, Int.reduceLT, Int.reduceLE, Int.reduceGT, Int.reduceGE, Int.reduceEq, Int.reduceNe, Int.reduceBEq, Int.reduceBNe, Int.reduceToNat, Int.reduceNeg]
  (repeat (with_reducible refine And.intro (by first | omega | (simp_all; done) | grind) ?_)); refine AWp_cond _ rfl rfl (fun h => ?_) (fun h => ?_)
  · obtain ⟨h0, h8⟩ := idx_yes h
    have hg := getD_allS (fun x : Smp => encSS x.svc) _ ⟨h0, h8⟩ []
    have hm : (allS.map Smp.svc).map encSS = allS.map fun x : Smp => encSS x.svc := by rw [List.map_map]; rfl
    try simp only [go_sem, Nat.reduceAdd, Nat.reduceMul, Nat.reduceSub, Nat.reduceEqDiff, Nat.reduceLT, Nat.reduceLeDiff, Nat.reduceBEq, reduceIte, reduceCtorEq, Int.reduceAdd, Int.reduceLT, Int.reduceLE, Int.reduceGT, Int.reduceGE, Int.reduceEq, Int.reduceNe, Int.reduceBEq, Int.reduceBNe, Int.reduceToNat, Int.reduceNeg]
    (repeat (with_reducible refine And.intro (by first | omega | (simp_all; done) | grind) ?_)); refine callO_pure (svc44_ok) b_farandoleref44_all (fun h => by first | exact h | (simp only [h, Bool.and_self, Bool.and_true])) (fun _ => by first | exact ⟨matchA_refl, trivial⟩ | exact ⟨matchA_refl, matchA_refl, trivial⟩ | exact ⟨matchA_refl, matchA_refl, matchA_refl, trivial⟩ | simp only [encS, encSmp, go_sem, Nat.reduceAdd, Nat.reduceMul, Nat.reduceSub, Nat.reduceEqDiff, Nat.reduceLT, Nat.reduceLeDiff, Nat.reduceBEq, reduceIte, reduceCtorEq, Int.reduceAdd, Int.reduceLT, Int.reduceLE, Int.reduceGT, Int.reduceGE, Int.reduceEq, Int.reduceNe, Int.reduceBEq, Int.reduceBNe, Int.reduceToNat, Int.reduceNeg]) (by simp only [go_sem, Nat.reduceAdd, Nat.reduceMul, Nat.reduceSub, Nat.reduceEqDiff, Nat.reduceLT, Nat.reduceLeDiff, Nat.reduceBEq, reduceIte, reduceCtorEq, Int.reduceAdd, Int.reduceLT, Int.reduceLE, Int.reduceGT, Int.reduceGE, Int.reduceEq, Int.reduceNe, Int.reduceBEq, Int.reduceBNe, Int.reduceToNat, Int.reduceNeg]) rfl rfl ?_
    try simp only [hm, hg, List.length_map, allS_len, go_sem, Nat.reduceAdd, Nat.reduceMul, Nat.reduceSub, Nat.reduceEqDiff, Nat.reduceLT, Nat.reduceLeDiff, Nat.reduceBEq, reduceIte, reduceCtorEq, Int.reduceAdd, Int.reduceLT, Int.reduceLE, Int.reduceGT, Int.reduceGE, Int.reduceEq, Int.reduceNe, Int.reduceBEq, Int.reduceBNe, Int.reduceToNat, Int.reduceNeg]
    repeat (with_reducible refine And.intro (by first | omega | (simp_all; done) | grind) ?_)
    try simp only [encSS, go_sem, Nat.reduceAdd, Nat.reduceMul, Nat.reduceSub, Nat.reduceEqDiff, Nat.reduceLT, Nat.reduceLeDiff, Nat.reduceBEq, reduceIte, reduceCtorEq, Int.reduceAdd, Int.reduceLT, Int.reduceLE, Int.reduceGT, Int.reduceGE, Int.reduceEq, Int.reduceNe, Int.reduceBEq, Int.reduceBNe, Int.reduceToNat, Int.reduceNeg]
    repeat (with_reducible refine And.intro (by first | omega | (simp_all; done) | grind) ?_)
    simp only [svc44, h, at44, go_sem, Nat.reduceAdd, Nat.reduceMul, Nat.reduceSub, Nat.reduceEqDiff, Nat.reduceLT, Nat.reduceLeDiff, Nat.reduceBEq, reduceIte, reduceCtorEq, Int.reduceAdd, Int.reduceLT, Int.reduceLE, Int.reduceGT, Int.reduceGE, Int.reduceEq, Int.reduceNe, Int.reduceBEq, Int.reduceBNe, Int.reduceToNat, Int.reduceNeg]
  · try simp only [svc44, h, List.map_nil, go_sem, Nat.reduceAdd, Nat.reduceMul, Nat.reduceSub, Nat.reduceEqDiff, Nat.reduceLT, Nat.reduceLeDiff, Nat.reduceBEq, reduceIte, reduceCtorEq, Int.reduceAdd, Int.reduceLT, Int.reduceLE, Int.reduceGT, Int.reduceGE, Int.reduceEq, Int.reduceNe, Int.reduceBEq, Int.reduceBNe, Int.reduceToNat, Int.reduceNeg]

noncomputable def s_samples_find_1_r0 : List SOper := [
  ⟨(some 2), .box 1 (.t 0), none⟩,
  ⟨(some 3), .mov (.k (.d (.bool false))), none⟩]
noncomputable def s_samples_find_1_r1 : List SOper := [
  ⟨(some 4), .faddr 0 (.t 2), none⟩,
  ⟨(some 5), .load none (.t 4), none⟩,
  ⟨(some 6), .load none (.t 1), none⟩,
  ⟨(some 7), .bin .eql (.t 5) (.t 6), none⟩,
  ⟨(some 3), .mov (.t 7), none⟩]
noncomputable def s_samples_find_1 : SCode := (.seq (.region s_samples_find_1_r0 1 []) (.seq (.region s_samples_find_1_r1 0 []) .ret))
theorem e_samples_find_1 {P : Program} {k0 : Nat} {Q : SExit → St → Prop} {st : St} : AWp P k0 s_samples_find_1 Q st = AWp P k0 (.seq (.region s_samples_find_1_r0 1 []) (.seq (.region s_samples_find_1_r1 0 []) .ret)) Q st := rfl
theorem u_samples_find_1_r0 {P : Program} {o : Nat} {p : List (Nat × Nat)} {Q : SExit → St → Prop} {st : St} : goReg P s_samples_find_1_r0 o p Q st = goLit P (litOf s_samples_find_1_r0.eq_1) o p Q st := goReg_of _
theorem u_samples_find_1_r1 {P : Program} {o : Nat} {p : List (Nat × Nat)} {Q : SExit → St → Prop} {st : St} : goReg P s_samples_find_1_r1 o p Q st = goLit P (litOf s_samples_find_1_r1.eq_1) o p Q st := goReg_of _
attribute [go_sem] u_samples_find_1_r0 u_samples_find_1_r1 e_samples_find_1
set_option maxRecDepth 100000 in
theorem c_samples_find_1 : Try.f96.body.bind (compCode Try.prog Try.f96.ntmps news) = some s_samples_find_1 := by kernel_rfl
theorem r_samples_find_1 : Try.f96.results.toList.mapM (compRes Try.prog) = some [(.tmp 3)] := by kernel_rfl
theorem n_samples_find_1 : Try.f96.ntmps = 8 := by kernel_rfl
theorem b_samples_find_1 : (Try.prog.funcs[96]?).any (fun fn => fn.body.isSome && !(fn.name == "runtime.NumGoroutine")) = true := by kernel_rfl
theorem ko_samples_find_1 {args : List ASlot} {r : ASlot} {objs objs' : List AObj} (h : AWp Try.prog objs.length s_samples_find_1 (bodyQ objs.length [(.tmp 3)] [r] objs') (entrySt args objs)) (hN : args.length ≤ 8 := by simp) (hw : ltB 16 (toksOf args ++ osToks objs) = true := by rfl) : ACall Try.prog 96 args objs r objs' :=
  acall_go (rs := [r]) follows Try.func96 c_samples_find_1 r_samples_find_1 h (by rw [n_samples_find_1]; exact hN) rfl hw
theorem k_samples_find_1 {args : List ASlot} {r : ASlot} (h : AWp Try.prog 0 s_samples_find_1 (bodyQ 0 [(.tmp 3)] [r] []) (entrySt args [])) (hN : args.length ≤ 8 := by simp) (hw : ltB 16 (toksOf args ++ osToks []) = true := by rfl) : ACall Try.prog 96 args [] r [] := ko_samples_find_1 h hN hw

noncomputable def s_slices_IndexFunc___samples_sample_samples_sample__r0 : List SOper := [
  ⟨(some 4), .mov (.k (.d (.int .i64 0))), none⟩]
noncomputable def s_slices_IndexFunc___samples_sample_samples_sample__r1 : List SOper := [
  ⟨(some 6), .mov (.t 0), none⟩,
  ⟨(some 7), .len (.t 6), none⟩,
  ⟨(some 8), .mov (.k (.d (.int .i64 0))), none⟩]
noncomputable def s_slices_IndexFunc___samples_sample_samples_sample__r2 : List SOper := [
  ⟨(some 9), .bin .lss (.t 8) (.t 7), none⟩]
noncomputable def s_slices_IndexFunc___samples_sample_samples_sample__r3 : List SOper := [
  ⟨(some 10), .mov (.t 8), none⟩,
  ⟨(some 5), .mov (.t 10), none⟩]
noncomputable def s_slices_IndexFunc___samples_sample_samples_sample__r4 : List SOper := [
  ⟨(some 11), .mov (.t 1), none⟩,
  ⟨(some 12), .mov (.t 0), none⟩,
  ⟨(some 13), .mov (.t 5), none⟩,
  ⟨(some 14), .iaddr 3 (.t 12) (.t 13), none⟩,
  ⟨(some 15), .load (some 3) (.t 14), none⟩,
  ⟨(some 16), .call (.t 11) [(.t 15)], none⟩]
noncomputable def s_slices_IndexFunc___samples_sample_samples_sample__r5 : List SOper := [
  ⟨(some 17), .mov (.t 5), none⟩,
  ⟨(some 4), .mov (.t 17), none⟩]
noncomputable def s_slices_IndexFunc___samples_sample_samples_sample__r6 : List SOper := [
  ⟨(some 18), .bin .add (.t 8) (.k (.d (.int .i64 1))), none⟩,
  ⟨(some 8), .mov (.t 18), none⟩]
noncomputable def s_slices_IndexFunc___samples_sample_samples_sample__l7 : SCode := (.seq (.region s_slices_IndexFunc___samples_sample_samples_sample__r2 0 []) (.seq (.cond (.t 9) .skip (.exit 0)) (.seq (.block 1 (.seq (.region s_slices_IndexFunc___samples_sample_samples_sample__r3 0 []) (.seq (.region s_slices_IndexFunc___samples_sample_samples_sample__r4 0 []) (.cond (.t 16) (.seq (.region s_slices_IndexFunc___samples_sample_samples_sample__r5 0 []) .ret) .skip)))) (.region s_slices_IndexFunc___samples_sample_samples_sample__r6 0 []))))
theorem e_slices_IndexFunc___samples_sample_samples_sample__l7 {P : Program} {k0 : Nat} {Q : SExit → St → Prop} {st : St} : AWp P k0 s_slices_IndexFunc___samples_sample_samples_sample__l7 Q st = AWp P k0 (.seq (.region s_slices_IndexFunc___samples_sample_samples_sample__r2 0 []) (.seq (.cond (.t 9) .skip (.exit 0)) (.seq (.block 1 (.seq (.region s_slices_IndexFunc___samples_sample_samples_sample__r3 0 []) (.seq (.region s_slices_IndexFunc___samples_sample_samples_sample__r4 0 []) (.cond (.t 16) (.seq (.region s_slices_IndexFunc___samples_sample_samples_sample__r5 0 []) .ret) .skip)))) (.region s_slices_IndexFunc___samples_sample_samples_sample__r6 0 [])))) Q st := rfl
noncomputable def s_slices_IndexFunc___samples_sample_samples_sample__r8 : List SOper := [
  ⟨(some 4), .mov (.k (.d (.int .i64 (-1)))), none⟩]
noncomputable def s_slices_IndexFunc___samples_sample_samples_sample_ : SCode := (.seq (.region s_slices_IndexFunc___samples_sample_samples_sample__r0 0 []) (.seq (.seq (.region s_slices_IndexFunc___samples_sample_samples_sample__r1 0 []) (.block 0 (.loop s_slices_IndexFunc___samples_sample_samples_sample__l7))) (.seq (.region s_slices_IndexFunc___samples_sample_samples_sample__r8 0 []) .ret)))
theorem e_slices_IndexFunc___samples_sample_samples_sample_ {P : Program} {k0 : Nat} {Q : SExit → St → Prop} {st : St} : AWp P k0 s_slices_IndexFunc___samples_sample_samples_sample_ Q st = AWp P k0 (.seq (.region s_slices_IndexFunc___samples_sample_samples_sample__r0 0 []) (.seq (.seq (.region s_slices_IndexFunc___samples_sample_samples_sample__r1 0 []) (.block 0 (.loop s_slices_IndexFunc___samples_sample_samples_sample__l7))) (.seq (.region s_slices_IndexFunc___samples_sample_samples_sample__r8 0 []) .ret))) Q st := rfl
theorem u_slices_IndexFunc___samples_sample_samples_sample__r0 {P : Program} {o : Nat} {p : List (Nat × Nat)} {Q : SExit → St → Prop} {st : St} : goReg P s_slices_IndexFunc___samples_sample_samples_sample__r0 o p Q st = goLit P (litOf s_slices_IndexFunc___samples_sample_samples_sample__r0.eq_1) o p Q st := goReg_of _
theorem u_slices_IndexFunc___samples_sample_samples_sample__r1 {P : Program} {o : Nat} {p : List (Nat × Nat)} {Q : SExit → St → Prop} {st : St} : goReg P s_slices_IndexFunc___samples_sample_samples_sample__r1 o p Q st = goLit P (litOf s_slices_IndexFunc___samples_sample_samples_sample__r1.eq_1) o p Q st := goReg_of _
theorem u_slices_IndexFunc___samples_sample_samples_sample__r2 {P : Program} {o : Nat} {p : List (Nat × Nat)} {Q : SExit → St → Prop} {st : St} : goReg P s_slices_IndexFunc___samples_sample_samples_sample__r2 o p Q st = goLit P (litOf s_slices_IndexFunc___samples_sample_samples_sample__r2.eq_1) o p Q st := goReg_of _
theorem u_slices_IndexFunc___samples_sample_samples_sample__r3 {P : Program} {o : Nat} {p : List (Nat × Nat)} {Q : SExit → St → Prop} {st : St} : goReg P s_slices_IndexFunc___samples_sample_samples_sample__r3 o p Q st = goLit P (litOf s_slices_IndexFunc___samples_sample_samples_sample__r3.eq_1) o p Q st := goReg_of _
theorem u_slices_IndexFunc___samples_sample_samples_sample__r4 {P : Program} {o : Nat} {p : List (Nat × Nat)} {Q : SExit → St → Prop} {st : St} : goReg P s_slices_IndexFunc___samples_sample_samples_sample__r4 o p Q st = goLit P (litOf s_slices_IndexFunc___samples_sample_samples_sample__r4.eq_1) o p Q st := goReg_of _
theorem u_slices_IndexFunc___samples_sample_samples_sample__r5 {P : Program} {o : Nat} {p : List (Nat × Nat)} {Q : SExit → St → Prop} {st : St} : goReg P s_slices_IndexFunc___samples_sample_samples_sample__r5 o p Q st = goLit P (litOf s_slices_IndexFunc___samples_sample_samples_sample__r5.eq_1) o p Q st := goReg_of _
theorem u_slices_IndexFunc___samples_sample_samples_sample__r6 {P : Program} {o : Nat} {p : List (Nat × Nat)} {Q : SExit → St → Prop} {st : St} : goReg P s_slices_IndexFunc___samples_sample_samples_sample__r6 o p Q st = goLit P (litOf s_slices_IndexFunc___samples_sample_samples_sample__r6.eq_1) o p Q st := goReg_of _
theorem u_slices_IndexFunc___samples_sample_samples_sample__r8 {P : Program} {o : Nat} {p : List (Nat × Nat)} {Q : SExit → St → Prop} {st : St} : goReg P s_slices_IndexFunc___samples_sample_samples_sample__r8 o p Q st = goLit P (litOf s_slices_IndexFunc___samples_sample_samples_sample__r8.eq_1) o p Q st := goReg_of _
attribute [go_sem] u_slices_IndexFunc___samples_sample_samples_sample__r0 u_slices_IndexFunc___samples_sample_samples_sample__r1 u_slices_IndexFunc___samples_sample_samples_sample__r2 u_slices_IndexFunc___samples_sample_samples_sample__r3 u_slices_IndexFunc___samples_sample_samples_sample__r4 u_slices_IndexFunc___samples_sample_samples_sample__r5 u_slices_IndexFunc___samples_sample_samples_sample__r6 e_slices_IndexFunc___samples_sample_samples_sample__l7 u_slices_IndexFunc___samples_sample_samples_sample__r8 e_slices_IndexFunc___samples_sample_samples_sample_
set_option maxRecDepth 100000 in
theorem c_slices_IndexFunc___samples_sample_samples_sample_ : Try.f95.body.bind (compCode Try.prog Try.f95.ntmps news) = some s_slices_IndexFunc___samples_sample_samples_sample_ := by kernel_rfl
theorem r_slices_IndexFunc___samples_sample_samples_sample_ : Try.f95.results.toList.mapM (compRes Try.prog) = some [(.tmp 4)] := by kernel_rfl
theorem n_slices_IndexFunc___samples_sample_samples_sample_ : Try.f95.ntmps = 19 := by kernel_rfl
theorem b_slices_IndexFunc___samples_sample_samples_sample_ : (Try.prog.funcs[95]?).any (fun fn => fn.body.isSome && !(fn.name == "runtime.NumGoroutine")) = true := by kernel_rfl
theorem ko_slices_IndexFunc___samples_sample_samples_sample_ {args : List ASlot} {r : ASlot} {objs objs' : List AObj} (h : AWp Try.prog objs.length s_slices_IndexFunc___samples_sample_samples_sample_ (bodyQ objs.length [(.tmp 4)] [r] objs') (entrySt args objs)) (hN : args.length ≤ 19 := by simp) (hw : ltB 16 (toksOf args ++ osToks objs) = true := by rfl) : ACall Try.prog 95 args objs r objs' :=
  acall_go (rs := [r]) follows Try.func95 c_slices_IndexFunc___samples_sample_samples_sample_ r_slices_IndexFunc___samples_sample_samples_sample_ h (by rw [n_slices_IndexFunc___samples_sample_samples_sample_]; exact hN) rfl hw
theorem k_slices_IndexFunc___samples_sample_samples_sample_ {args : List ASlot} {r : ASlot} (h : AWp Try.prog 0 s_slices_IndexFunc___samples_sample_samples_sample_ (bodyQ 0 [(.tmp 4)] [r] []) (entrySt args [])) (hN : args.length ≤ 19 := by simp) (hw : ltB 16 (toksOf args ++ osToks []) = true := by rfl) : ACall Try.prog 95 args [] r [] := ko_slices_IndexFunc___samples_sample_samples_sample_ h hN hw

noncomputable def s_samples_find_r0 : List SOper := [
  ⟨(some 1), .box 2 (.t 0), none⟩,
  ⟨(some 2), .alloc 1 [(.d (.str [])), (.d (.str [])), (.d .nilsl)], none⟩,
  ⟨(some 3), .mov (.k (.d (.bool false))), none⟩]
noncomputable def s_samples_find_r1 : List SOper := [
  ⟨(some 6), .call (.k (.d (.func (.func 67) [] []))) [], none⟩,
  ⟨(some 4), .mov (.t 6), none⟩]
noncomputable def s_samples_find_r2 : List SOper := [
  ⟨(some 7), .mov (.t 4), none⟩,
  ⟨(some 8), .mkFunc (.func 96) [] [(.t 1)], none⟩,
  ⟨(some 9), .call (.k (.d (.func (.func 95) [] []))) [(.t 7), (.t 8)], none⟩,
  ⟨(some 5), .mov (.t 9), none⟩]
noncomputable def s_samples_find_r3 : List SOper := [
  ⟨(some 10), .mov (.t 5), none⟩,
  ⟨(some 11), .bin .lss (.t 10) (.k (.d (.int .i64 0))), none⟩]
noncomputable def s_samples_find_r4 : List SOper := [
  ⟨(some 12), .build [(.str []), (.str []), .nilsl] [], none⟩,
  ⟨none, .store (some 3) (.t 2) (.t 12), none⟩,
  ⟨(some 3), .mov (.k (.d (.bool false))), none⟩]
noncomputable def s_samples_find_r5 : List SOper := [
  ⟨(some 13), .mov (.t 4), none⟩,
  ⟨(some 14), .mov (.t 5), none⟩,
  ⟨(some 15), .iaddr 3 (.t 13) (.t 14), none⟩,
  ⟨(some 16), .load (some 3) (.t 15), none⟩,
  ⟨none, .store (some 3) (.t 2) (.t 16), none⟩,
  ⟨(some 3), .mov (.k (.d (.bool true))), none⟩]
noncomputable def s_samples_find : SCode := (.seq (.region s_samples_find_r0 2 []) (.seq (.region s_samples_find_r1 0 []) (.seq (.region s_samples_find_r2 0 []) (.seq (.seq (.region s_samples_find_r3 0 []) (.cond (.t 11) (.seq (.region s_samples_find_r4 0 []) .ret) .skip)) (.seq (.region s_samples_find_r5 0 []) .ret)))))
theorem e_samples_find {P : Program} {k0 : Nat} {Q : SExit → St → Prop} {st : St} : AWp P k0 s_samples_find Q st = AWp P k0 (.seq (.region s_samples_find_r0 2 []) (.seq (.region s_samples_find_r1 0 []) (.seq (.region s_samples_find_r2 0 []) (.seq (.seq (.region s_samples_find_r3 0 []) (.cond (.t 11) (.seq (.region s_samples_find_r4 0 []) .ret) .skip)) (.seq (.region s_samples_find_r5 0 []) .ret))))) Q st := rfl
theorem u_samples_find_r0 {P : Program} {o : Nat} {p : List (Nat × Nat)} {Q : SExit → St → Prop} {st : St} : goReg P s_samples_find_r0 o p Q st = goLit P (litOf s_samples_find_r0.eq_1) o p Q st := goReg_of _
theorem u_samples_find_r1 {P : Program} {o : Nat} {p : List (Nat × Nat)} {Q : SExit → St → Prop} {st : St} : goReg P s_samples_find_r1 o p Q st = goLit P (litOf s_samples_find_r1.eq_1) o p Q st := goReg_of _
theorem u_samples_find_r2 {P : Program} {o : Nat} {p : List (Nat × Nat)} {Q : SExit → St → Prop} {st : St} : goReg P s_samples_find_r2 o p Q st = goLit P (litOf s_samples_find_r2.eq_1) o p Q st := goReg_of _
theorem u_samples_find_r3 {P : Program} {o : Nat} {p : List (Nat × Nat)} {Q : SExit → St → Prop} {st : St} : goReg P s_samples_find_r3 o p Q st = goLit P (litOf s_samples_find_r3.eq_1) o p Q st := goReg_of _
theorem u_samples_find_r4 {P : Program} {o : Nat} {p : List (Nat × Nat)} {Q : SExit → St → Prop} {st : St} : goReg P s_samples_find_r4 o p Q st = goLit P (litOf s_samples_find_r4.eq_1) o p Q st := goReg_of _
theorem u_samples_find_r5 {P : Program} {o : Nat} {p : List (Nat × Nat)} {Q : SExit → St → Prop} {st : St} : goReg P s_samples_find_r5 o p Q st = goLit P (litOf s_samples_find_r5.eq_1) o p Q st := goReg_of _
attribute [go_sem] u_samples_find_r0 u_samples_find_r1 u_samples_find_r2 u_samples_find_r3 u_samples_find_r4 u_samples_find_r5 e_samples_find
set_option maxRecDepth 100000 in
theorem c_samples_find : Try.f63.body.bind (compCode Try.prog Try.f63.ntmps news) = some s_samples_find := by kernel_rfl
theorem r_samples_find : Try.f63.results.toList.mapM (compRes Try.prog) = some [(.cell 2 (some 3)), (.tmp 3)] := by kernel_rfl
theorem n_samples_find : Try.f63.ntmps = 17 := by kernel_rfl
theorem b_samples_find : (Try.prog.funcs[63]?).any (fun fn => fn.body.isSome && !(fn.name == "runtime.NumGoroutine")) = true := by kernel_rfl
theorem ko_samples_find {args rs : List ASlot} {objs objs' : List AObj} (h : AWp Try.prog objs.length s_samples_find (bodyQ objs.length [(.cell 2 (some 3)), (.tmp 3)] rs objs') (entrySt args objs)) (hN : args.length ≤ 17 := by simp) (hl : rs.length = 2 := by rfl) (hw : ltB 16 (toksOf args ++ osToks objs) = true := by rfl) : ACall Try.prog 63 args objs (.tup rs) objs' := by
  rw [← mkRes_tup (rs := rs) (by rw [hl]; decide)]
  exact acall_go follows Try.func63 c_samples_find r_samples_find h (by rw [n_samples_find]; exact hN) (by rw [hl]; rfl) hw
theorem k_samples_find {args rs : List ASlot} (h : AWp Try.prog 0 s_samples_find (bodyQ 0 [(.cell 2 (some 3)), (.tmp 3)] rs []) (entrySt args [])) (hN : args.length ≤ 17 := by simp) (hl : rs.length = 2 := by rfl) (hw : ltB 16 (toksOf args ++ osToks []) = true := by rfl) : ACall Try.prog 63 args [] (.tup rs) [] := ko_samples_find h hN hl hw

noncomputable def s_samples_Source_r0 : List SOper := [
  ⟨(some 2), .mov (.k (.d (.str []))), none⟩,
  ⟨(some 3), .mov (.k (.d (.int .i64 0))), none⟩]
noncomputable def s_samples_Source_r1 : List SOper := [
  ⟨(some 7), .mov (.t 0), none⟩,
  ⟨(some 8), .call (.k (.d (.func (.func 63) [] []))) [(.t 7)], none⟩,
  ⟨(some 6), .mov (.t 8), none⟩,
  ⟨(some 9), .extract 0 (.t 6), none⟩,
  ⟨(some 10), .extract 1 (.t 6), none⟩,
  ⟨(some 4), .alloc 1 [(.d (.str [])), (.d (.str [])), (.d .nilsl)], none⟩,
  ⟨none, .store (some 3) (.t 4) (.t 9), none⟩,
  ⟨(some 5), .mov (.t 10), none⟩]
noncomputable def s_samples_Source_r2 : List SOper := [
  ⟨(some 11), .mov (.t 5), none⟩,
  ⟨(some 12), .not (.t 11), none⟩]
noncomputable def s_samples_Source_r3 : List SOper := [
  ⟨(some 2), .mov (.k (.d (.str []))), none⟩,
  ⟨(some 3), .mov (.k (.d (.int .i64 8))), none⟩]
noncomputable def s_samples_Source_r4 : List SOper := [
  ⟨(some 13), .faddr 1 (.t 4), none⟩,
  ⟨(some 14), .load none (.t 13), none⟩,
  ⟨(some 2), .mov (.t 14), none⟩,
  ⟨(some 3), .mov (.k (.d (.int .i64 0))), none⟩]
noncomputable def s_samples_Source : SCode := (.seq (.region s_samples_Source_r0 0 []) (.seq (.region s_samples_Source_r1 1 []) (.seq (.seq (.region s_samples_Source_r2 0 []) (.cond (.t 12) (.seq (.region s_samples_Source_r3 0 []) .ret) .skip)) (.seq (.region s_samples_Source_r4 0 []) .ret))))
theorem e_samples_Source {P : Program} {k0 : Nat} {Q : SExit → St → Prop} {st : St} : AWp P k0 s_samples_Source Q st = AWp P k0 (.seq (.region s_samples_Source_r0 0 []) (.seq (.region s_samples_Source_r1 1 []) (.seq (.seq (.region s_samples_Source_r2 0 []) (.cond (.t 12) (.seq (.region s_samples_Source_r3 0 []) .ret) .skip)) (.seq (.region s_samples_Source_r4 0 []) .ret)))) Q st := rfl
theorem u_samples_Source_r0 {P : Program} {o : Nat} {p : List (Nat × Nat)} {Q : SExit → St → Prop} {st : St} : goReg P s_samples_Source_r0 o p Q st = goLit P (litOf s_samples_Source_r0.eq_1) o p Q st := goReg_of _
theorem u_samples_Source_r1 {P : Program} {o : Nat} {p : List (Nat × Nat)} {Q : SExit → St → Prop} {st : St} : goReg P s_samples_Source_r1 o p Q st = goLit P (litOf s_samples_Source_r1.eq_1) o p Q st := goReg_of _
theorem u_samples_Source_r2 {P : Program} {o : Nat} {p : List (Nat × Nat)} {Q : SExit → St → Prop} {st : St} : goReg P s_samples_Source_r2 o p Q st = goLit P (litOf s_samples_Source_r2.eq_1) o p Q st := goReg_of _
theorem u_samples_Source_r3 {P : Program} {o : Nat} {p : List (Nat × Nat)} {Q : SExit → St → Prop} {st : St} : goReg P s_samples_Source_r3 o p Q st = goLit P (litOf s_samples_Source_r3.eq_1) o p Q st := goReg_of _
theorem u_samples_Source_r4 {P : Program} {o : Nat} {p : List (Nat × Nat)} {Q : SExit → St → Prop} {st : St} : goReg P s_samples_Source_r4 o p Q st = goLit P (litOf s_samples_Source_r4.eq_1) o p Q st := goReg_of _
attribute [go_sem] u_samples_Source_r0 u_samples_Source_r1 u_samples_Source_r2 u_samples_Source_r3 u_samples_Source_r4 e_samples_Source
set_option maxRecDepth 100000 in
theorem c_samples_Source : Try.f12.body.bind (compCode Try.prog Try.f12.ntmps news) = some s_samples_Source := by kernel_rfl
theorem r_samples_Source : Try.f12.results.toList.mapM (compRes Try.prog) = some [(.tmp 2), (.tmp 3)] := by kernel_rfl
theorem n_samples_Source : Try.f12.ntmps = 15 := by kernel_rfl
theorem b_samples_Source : (Try.prog.funcs[12]?).any (fun fn => fn.body.isSome && !(fn.name == "runtime.NumGoroutine")) = true := by kernel_rfl
theorem ko_samples_Source {args rs : List ASlot} {objs objs' : List AObj} (h : AWp Try.prog objs.length s_samples_Source (bodyQ objs.length [(.tmp 2), (.tmp 3)] rs objs') (entrySt args objs)) (hN : args.length ≤ 15 := by simp) (hl : rs.length = 2 := by rfl) (hw : ltB 16 (toksOf args ++ osToks objs) = true := by rfl) : ACall Try.prog 12 args objs (.tup rs) objs' := by
  rw [← mkRes_tup (rs := rs) (by rw [hl]; decide)]
  exact acall_go follows Try.func12 c_samples_Source r_samples_Source h (by rw [n_samples_Source]; exact hN) (by rw [hl]; rfl) hw
theorem k_samples_Source {args rs : List ASlot} (h : AWp Try.prog 0 s_samples_Source (bodyQ 0 [(.tmp 2), (.tmp 3)] rs []) (entrySt args [])) (hN : args.length ≤ 15 := by simp) (hl : rs.length = 2 := by rfl) (hw : ltB 16 (toksOf args ++ osToks []) = true := by rfl) : ACall Try.prog 12 args [] (.tup rs) [] := ko_samples_Source h hN hl hw

noncomputable def s_samples_Services_r0 : List SOper := [
  ⟨(some 2), .mov (.k (.d .nilsl)), none⟩]
noncomputable def s_samples_Services_r1 : List SOper := [
  ⟨(some 6), .mov (.t 0), none⟩,
  ⟨(some 7), .call (.k (.d (.func (.func 63) [] []))) [(.t 6)], none⟩,
  ⟨(some 5), .mov (.t 7), none⟩,
  ⟨(some 8), .extract 0 (.t 5), none⟩,
  ⟨(some 9), .extract 1 (.t 5), none⟩,
  ⟨(some 3), .alloc 1 [(.d (.str [])), (.d (.str [])), (.d .nilsl)], none⟩,
  ⟨none, .store (some 3) (.t 3) (.t 8), none⟩,
  ⟨(some 4), .mov (.t 9), none⟩]
noncomputable def s_samples_Services_r2 : List SOper := [
  ⟨(some 10), .faddr 2 (.t 3), none⟩,
  ⟨(some 11), .load none (.t 10), none⟩,
  ⟨(some 2), .mov (.t 11), none⟩]
noncomputable def s_samples_Services : SCode := (.seq (.region s_samples_Services_r0 0 []) (.seq (.region s_samples_Services_r1 1 []) (.seq (.region s_samples_Services_r2 0 []) .ret)))
theorem e_samples_Services {P : Program} {k0 : Nat} {Q : SExit → St → Prop} {st : St} : AWp P k0 s_samples_Services Q st = AWp P k0 (.seq (.region s_samples_Services_r0 0 []) (.seq (.region s_samples_Services_r1 1 []) (.seq (.region s_samples_Services_r2 0 []) .ret))) Q st := rfl
theorem u_samples_Services_r0 {P : Program} {o : Nat} {p : List (Nat × Nat)} {Q : SExit → St → Prop} {st : St} : goReg P s_samples_Services_r0 o p Q st = goLit P (litOf s_samples_Services_r0.eq_1) o p Q st := goReg_of _
theorem u_samples_Services_r1 {P : Program} {o : Nat} {p : List (Nat × Nat)} {Q : SExit → St → Prop} {st : St} : goReg P s_samples_Services_r1 o p Q st = goLit P (litOf s_samples_Services_r1.eq_1) o p Q st := goReg_of _
theorem u_samples_Services_r2 {P : Program} {o : Nat} {p : List (Nat × Nat)} {Q : SExit → St → Prop} {st : St} : goReg P s_samples_Services_r2 o p Q st = goLit P (litOf s_samples_Services_r2.eq_1) o p Q st := goReg_of _
attribute [go_sem] u_samples_Services_r0 u_samples_Services_r1 u_samples_Services_r2 e_samples_Services
set_option maxRecDepth 100000 in
theorem c_samples_Services : Try.f17.body.bind (compCode Try.prog Try.f17.ntmps news) = some s_samples_Services := by kernel_rfl
theorem r_samples_Services : Try.f17.results.toList.mapM (compRes Try.prog) = some [(.tmp 2)] := by kernel_rfl
theorem n_samples_Services : Try.f17.ntmps = 12 := by kernel_rfl
theorem b_samples_Services : (Try.prog.funcs[17]?).any (fun fn => fn.body.isSome && !(fn.name == "runtime.NumGoroutine")) = true := by kernel_rfl
theorem ko_samples_Services {args : List ASlot} {r : ASlot} {objs objs' : List AObj} (h : AWp Try.prog objs.length s_samples_Services (bodyQ objs.length [(.tmp 2)] [r] objs') (entrySt args objs)) (hN : args.length ≤ 12 := by simp) (hw : ltB 16 (toksOf args ++ osToks objs) = true := by rfl) : ACall Try.prog 17 args objs r objs' :=
  acall_go (rs := [r]) follows Try.func17 c_samples_Services r_samples_Services h (by rw [n_samples_Services]; exact hN) rfl hw
theorem k_samples_Services {args : List ASlot} {r : ASlot} (h : AWp Try.prog 0 s_samples_Services (bodyQ 0 [(.tmp 2)] [r] []) (entrySt args [])) (hN : args.length ≤ 12 := by simp) (hw : ltB 16 (toksOf args ++ osToks []) = true := by rfl) : ACall Try.prog 17 args [] r [] := ko_samples_Services h hN hw



theorem find1_ok (x : Smp) (name : List UInt8) : ACall Try.prog 96 [.d (.agg (encSmp x)), .d (.ptr 0 0)] [.row [.d (.str name)]] (.d (.bool (x.name == name))) [.row [.d (.str name)]] := by
  refine ko_samples_find_1 ?_
  try simp only [encSmp, go_sem, Nat.reduceAdd, Nat.reduceMul, Nat.reduceSub, Nat.reduceEqDiff, Nat.reduceLT, Nat.reduceLeDiff, Nat.reduceBEq, reduceIte, reduceCtorEq, Int.reduceAdd, Int.reduceLT, Int.reduceLE, Int.reduceGT, Int.reduceGE, Int.reduceEq, Int.reduceNe, Int.reduceBEq, Int.reduceBNe, Int.reduceToNat, Int.reduceNeg]

def Sidxf (name : List UInt8) (i : { i : Nat // (allS.take i).any (fun x => x.name == name) = false }) : St :=
  ⟨[(0, true, .d (.sl 3 (allS.map encSmp))), (1, true, .d (.func (.func 96) [] [.ptr 0 0])), (6, true, .d (.sl 3 (allS.map encSmp))), (7, true, .d (.int .i64 allS.length)), (8, true, .d (.int .i64 (i.val : Nat)))],
   [.row [.d (.str name)]], [], 1⟩

theorem indexSmp_ok (name : List UInt8) : ACall Try.prog 95 [.d (.sl 3 (allS.map encSmp)), .d (.func (.func 96) [] [.ptr 0 0])] [.row [.d (.str name)]]
    (.d (.int .i64 (idx (fun x => x.name == name) allS))) [.row [.d (.str name)]] := by
  have hl := allS_len
  refine ko_slices_IndexFunc___samples_sample_samples_sample_ ?_
  try simp only [go_sem, Nat.reduceAdd, Nat.reduceMul, Nat.reduceSub, Nat.reduceEqDiff, Nat.reduceLT, Nat.reduceLeDiff, Nat.reduceBEq, reduceIte, reduceCtorEq, Int.reduceAdd, Int.reduceLT, Int.reduceLE, Int.reduceGT, Int.reduceGE, Int.reduceEq, Int.reduceNe, Int.reduceBEq, Int.reduceBNe, Int.reduceToNat, Int.reduceNeg]
  refine AWp_loop (Sidxf name) (fun i => allS.length - i.val) ⟨0, rfl⟩ ?_ (fun i => ?_)
  · try simp only [Sidxf, go_sem, Nat.reduceAdd, Nat.reduceMul, Nat.reduceSub, Nat.reduceEqDiff, Nat.reduceLT, Nat.reduceLeDiff, Nat.reduceBEq, reduceIte, reduceCtorEq, Int.reduceAdd, Int.reduceLT, Int.reduceLE, Int.reduceGT, Int.reduceGE, Int.reduceEq, Int.reduceNe, Int.reduceBEq, Int.reduceBNe, Int.reduceToNat, Int.reduceNeg]
  obtain ⟨i, hi⟩ := i
  try simp only [Sidxf, go_sem, Nat.reduceAdd, Nat.reduceMul, Nat.reduceSub, Nat.reduceEqDiff, Nat.reduceLT, Nat.reduceLeDiff, Nat.reduceBEq, reduceIte, reduceCtorEq, Int.reduceAdd, Int.reduceLT, Int.reduceLE, Int.reduceGT, Int.reduceGE, Int.reduceEq, Int.reduceNe, Int.reduceBEq, Int.reduceBNe, Int.reduceToNat, Int.reduceNeg]
  (repeat (with_reducible refine And.intro (by first | omega | (simp_all; done) | grind) ?_)); refine AWp_cond _ rfl rfl (fun h => ?_) (fun h => ?_)
  · have hil : i < allS.length := by simpa using h
    simp only [getD_map encSmp allS hil, encSmp, go_sem, Nat.reduceAdd, Nat.reduceMul, Nat.reduceSub, Nat.reduceEqDiff, Nat.reduceLT, Nat.reduceLeDiff, Nat.reduceBEq, reduceIte, reduceCtorEq, Int.reduceAdd, Int.reduceLT, Int.reduceLE, Int.reduceGT, Int.reduceGE, Int.reduceEq, Int.reduceNe, Int.reduceBEq, Int.reduceBNe, Int.reduceToNat, Int.reduceNeg]
    (repeat (with_reducible refine And.intro (by first | omega | (simp_all; done) | grind) ?_)); refine callO_obj [0] (find1_ok allS[i] name) b_samples_find_1 (by first | rfl | simp only [go_sem, Nat.reduceAdd, Nat.reduceMul, Nat.reduceSub, Nat.reduceEqDiff, Nat.reduceLT, Nat.reduceLeDiff, Nat.reduceBEq, reduceIte, reduceCtorEq, Int.reduceAdd, Int.reduceLT, Int.reduceLE, Int.reduceGT, Int.reduceGE, Int.reduceEq, Int.reduceNe, Int.reduceBEq, Int.reduceBNe, Int.reduceToNat, Int.reduceNeg]) (by simp only [encS, encSmp, go_sem, Nat.reduceAdd, Nat.reduceMul, Nat.reduceSub, Nat.reduceEqDiff, Nat.reduceLT, Nat.reduceLeDiff, Nat.reduceBEq, reduceIte, reduceCtorEq, Int.reduceAdd, Int.reduceLT, Int.reduceLE, Int.reduceGT, Int.reduceGE, Int.reduceEq, Int.reduceNe, Int.reduceBEq, Int.reduceBNe, Int.reduceToNat, Int.reduceNeg]) (by first | rfl | simp only [go_sem, Nat.reduceAdd, Nat.reduceMul, Nat.reduceSub, Nat.reduceEqDiff, Nat.reduceLT, Nat.reduceLeDiff, Nat.reduceBEq, reduceIte, reduceCtorEq, Int.reduceAdd, Int.reduceLT, Int.reduceLE, Int.reduceGT, Int.reduceGE, Int.reduceEq, Int.reduceNe, Int.reduceBEq, Int.reduceBNe, Int.reduceToNat, Int.reduceNeg]) rfl rfl (by decide) rfl (by simp) (by simp only [encS, encSmp, go_sem, Nat.reduceAdd, Nat.reduceMul, Nat.reduceSub, Nat.reduceEqDiff, Nat.reduceLT, Nat.reduceLeDiff, Nat.reduceBEq, reduceIte, reduceCtorEq, Int.reduceAdd, Int.reduceLT, Int.reduceLE, Int.reduceGT, Int.reduceGE, Int.reduceEq, Int.reduceNe, Int.reduceBEq, Int.reduceBNe, Int.reduceToNat, Int.reduceNeg]) (by first | rfl | simp only [go_sem, Nat.reduceAdd, Nat.reduceMul, Nat.reduceSub, Nat.reduceEqDiff, Nat.reduceLT, Nat.reduceLeDiff, Nat.reduceBEq, reduceIte, reduceCtorEq, Int.reduceAdd, Int.reduceLT, Int.reduceLE, Int.reduceGT, Int.reduceGE, Int.reduceEq, Int.reduceNe, Int.reduceBEq, Int.reduceBNe, Int.reduceToNat, Int.reduceNeg]) (by first | rfl | simp only [go_sem, Nat.reduceAdd, Nat.reduceMul, Nat.reduceSub, Nat.reduceEqDiff, Nat.reduceLT, Nat.reduceLeDiff, Nat.reduceBEq, reduceIte, reduceCtorEq, Int.reduceAdd, Int.reduceLT, Int.reduceLE, Int.reduceGT, Int.reduceGE, Int.reduceEq, Int.reduceNe, Int.reduceBEq, Int.reduceBNe, Int.reduceToNat, Int.reduceNeg]) (by first | rfl | simp only [go_sem, Nat.reduceAdd, Nat.reduceMul, Nat.reduceSub, Nat.reduceEqDiff, Nat.reduceLT, Nat.reduceLeDiff, Nat.reduceBEq, reduceIte, reduceCtorEq, Int.reduceAdd, Int.reduceLT, Int.reduceLE, Int.reduceGT, Int.reduceGE, Int.reduceEq, Int.reduceNe, Int.reduceBEq, Int.reduceBNe, Int.reduceToNat, Int.reduceNeg]) ?_
    try simp only [go_sem, Nat.reduceAdd, Nat.reduceMul, Nat.reduceSub, Nat.reduceEqDiff, Nat.reduceLT, Nat.reduceLeDiff, Nat.reduceBEq, reduceIte, reduceCtorEq, Int.reduceAdd, Int.reduceLT, Int.reduceLE, Int.reduceGT, Int.reduceGE, Int.reduceEq, Int.reduceNe, Int.reduceBEq, Int.reduceBNe, Int.reduceToNat, Int.reduceNeg]
    refine AWp_cond _ rfl rfl (fun h2 => ?_) (fun h2 => ?_)
    · try simp only [idx_some hi hil h2, go_sem, Nat.reduceAdd, Nat.reduceMul, Nat.reduceSub, Nat.reduceEqDiff, Nat.reduceLT, Nat.reduceLeDiff, Nat.reduceBEq, reduceIte, reduceCtorEq, Int.reduceAdd, Int.reduceLT, Int.reduceLE, Int.reduceGT, Int.reduceGE, Int.reduceEq, Int.reduceNe, Int.reduceBEq, Int.reduceBNe, Int.reduceToNat, Int.reduceNeg]
    · try simp only [go_sem, Nat.reduceAdd, Nat.reduceMul, Nat.reduceSub, Nat.reduceEqDiff, Nat.reduceLT, Nat.reduceLeDiff, Nat.reduceBEq, reduceIte, reduceCtorEq, Int.reduceAdd, Int.reduceLT, Int.reduceLE, Int.reduceGT, Int.reduceGE, Int.reduceEq, Int.reduceNe, Int.reduceBEq, Int.reduceBNe, Int.reduceToNat, Int.reduceNeg]
      refine ⟨⟨i + 1, take_any_succ hi hil h2⟩, ?_, by dsimp only; omega⟩
      simp only [Sidxf, wrap_succ (show i < 9223372036854775807 by omega), go_sem, Nat.reduceAdd, Nat.reduceMul, Nat.reduceSub, Nat.reduceEqDiff, Nat.reduceLT, Nat.reduceLeDiff, Nat.reduceBEq, reduceIte, reduceCtorEq, Int.reduceAdd, Int.reduceLT, Int.reduceLE, Int.reduceGT, Int.reduceGE, Int.reduceEq, Int.reduceNe, Int.reduceBEq, Int.reduceBNe, Int.reduceToNat, Int.reduceNeg]
  · try simp only [idx_none hi (by simpa using h), go_sem, Nat.reduceAdd, Nat.reduceMul, Nat.reduceSub, Nat.reduceEqDiff, Nat.reduceLT, Nat.reduceLeDiff, Nat.reduceBEq, reduceIte, reduceCtorEq, Int.reduceAdd, Int.reduceLT, Int.reduceLE, Int.reduceGT, Int.reduceGE, Int.reduceEq, Int.reduceNe, Int.reduceBEq, Int.reduceBNe, Int.reduceToNat, Int.reduceNeg]

theorem idx_map {α β : Type} (f : α → β) (p : β → Bool) (l : List α) : idx p (l.map f) = idx (fun x => p (f x)) l := by
  unfold idx
  rw [List.any_map, List.findIdx_map]
  rfl

theorem idx_lt (name : List UInt8) : decide (idx (· == name) nameL < 0) = !has44 name := by
  rw [← idx_ge44]
  by_cases h : idx (· == name) nameL ≥ 0
  · rw [decide_eq_true h, decide_eq_false (by omega)]; rfl
  · rw [decide_eq_false h, decide_eq_true (by omega)]; rfl

theorem find_ok (name : List UInt8) : ACall Try.prog 63 [.d (.str name)] [] (.tup [.d (.agg (encSmp (if has44 name then at44 name else ⟨[], [], []⟩))), .d (.bool (has44 name))]) [] := by
  have hx : idx (fun x : Smp => x.name == name) allS = idx (· == name) nameL := (idx_map Smp.name (· == name) allS).symm
  refine k_samples_find ?_
  try simp only [go_sem, Nat.reduceAdd, Nat.reduceMul, Nat.reduceSub, Nat.reduceEqDiff, Nat.reduceLT, Nat.reduceLeDiff, Nat.reduceBEq, reduceIte, reduceCtorEq, Int.reduceAdd, Int.reduceLT, Int.reduceLE, Int.reduceGT, Int.reduceGE, Int.reduceEq, Int.reduceNe, Int.reduceBEq, Int.reduceBNe, Int.reduceToNat, Int.reduceNeg]
  (repeat (with_reducible refine And.intro (by first | omega | (simp_all; done) | grind) ?_)); refine callO_pure (all44_ok) b_samples_all (fun h => by first | exact h | (simp only [h, Bool.and_self, Bool.and_true])) (fun _ => by first | exact ⟨matchA_refl, trivial⟩ | exact ⟨matchA_refl, matchA_refl, trivial⟩ | exact ⟨matchA_refl, matchA_refl, matchA_refl, trivial⟩ | simp only [encS, encSmp, go_sem, Nat.reduceAdd, Nat.reduceMul, Nat.reduceSub, Nat.reduceEqDiff, Nat.reduceLT, Nat.reduceLeDiff, Nat.reduceBEq, reduceIte, reduceCtorEq, Int.reduceAdd, Int.reduceLT, Int.reduceLE, Int.reduceGT, Int.reduceGE, Int.reduceEq, Int.reduceNe, Int.reduceBEq, Int.reduceBNe, Int.reduceToNat, Int.reduceNeg]) (by simp only [go_sem, Nat.reduceAdd, Nat.reduceMul, Nat.reduceSub, Nat.reduceEqDiff, Nat.reduceLT, Nat.reduceLeDiff, Nat.reduceBEq, reduceIte, reduceCtorEq, Int.reduceAdd, Int.reduceLT, Int.reduceLE, Int.reduceGT, Int.reduceGE, Int.reduceEq, Int.reduceNe, Int.reduceBEq, Int.reduceBNe, Int.reduceToNat, Int.reduceNeg]) rfl rfl ?_
  try simp only [go_sem, Nat.reduceAdd, Nat.reduceMul, Nat.reduceSub, Nat.reduceEqDiff, Nat.reduceLT, Nat.reduceLeDiff, Nat.reduceBEq, reduceIte, reduceCtorEq, Int.reduceAdd, Int.reduceLT, Int.reduceLE, Int.reduceGT, Int.reduceGE, Int.reduceEq, Int.reduceNe, Int.reduceBEq, Int.reduceBNe, Int.reduceToNat, Int.reduceNeg]
  (repeat (with_reducible refine And.intro (by first | omega | (simp_all; done) | grind) ?_)); refine callO_obj [0] (indexSmp_ok name) b_slices_IndexFunc___samples_sample_samples_sample_ (by first | rfl | simp only [go_sem, Nat.reduceAdd, Nat.reduceMul, Nat.reduceSub, Nat.reduceEqDiff, Nat.reduceLT, Nat.reduceLeDiff, Nat.reduceBEq, reduceIte, reduceCtorEq, Int.reduceAdd, Int.reduceLT, Int.reduceLE, Int.reduceGT, Int.reduceGE, Int.reduceEq, Int.reduceNe, Int.reduceBEq, Int.reduceBNe, Int.reduceToNat, Int.reduceNeg]) (by simp only [encS, encSmp, go_sem, Nat.reduceAdd, Nat.reduceMul, Nat.reduceSub, Nat.reduceEqDiff, Nat.reduceLT, Nat.reduceLeDiff, Nat.reduceBEq, reduceIte, reduceCtorEq, Int.reduceAdd, Int.reduceLT, Int.reduceLE, Int.reduceGT, Int.reduceGE, Int.reduceEq, Int.reduceNe, Int.reduceBEq, Int.reduceBNe, Int.reduceToNat, Int.reduceNeg]) (by first | rfl | simp only [go_sem, Nat.reduceAdd, Nat.reduceMul, Nat.reduceSub, Nat.reduceEqDiff, Nat.reduceLT, Nat.reduceLeDiff, Nat.reduceBEq, reduceIte, reduceCtorEq, Int.reduceAdd, Int.reduceLT, Int.reduceLE, Int.reduceGT, Int.reduceGE, Int.reduceEq, Int.reduceNe, Int.reduceBEq, Int.reduceBNe, Int.reduceToNat, Int.reduceNeg]) rfl rfl (by decide) rfl (by simp) (by simp only [encS, encSmp, go_sem, Nat.reduceAdd, Nat.reduceMul, Nat.reduceSub, Nat.reduceEqDiff, Nat.reduceLT, Nat.reduceLeDiff, Nat.reduceBEq, reduceIte, reduceCtorEq, Int.reduceAdd, Int.reduceLT, Int.reduceLE, Int.reduceGT, Int.reduceGE, Int.reduceEq, Int.reduceNe, Int.reduceBEq, Int.reduceBNe, Int.reduceToNat, Int.reduceNeg]) (by first | rfl | simp only [go_sem, Nat.reduceAdd, Nat.reduceMul, Nat.reduceSub, Nat.reduceEqDiff, Nat.reduceLT, Nat.reduceLeDiff, Nat.reduceBEq, reduceIte, reduceCtorEq, Int.reduceAdd, Int.reduceLT, Int.reduceLE, Int.reduceGT, Int.reduceGE, Int.reduceEq, Int.reduceNe, Int.reduceBEq, Int.reduceBNe, Int.reduceToNat, Int.reduceNeg]) (by first | rfl | simp only [go_sem, Nat.reduceAdd, Nat.reduceMul, Nat.reduceSub, Nat.reduceEqDiff, Nat.reduceLT, Nat.reduceLeDiff, Nat.reduceBEq, reduceIte, reduceCtorEq, Int.reduceAdd, Int.reduceLT, Int.reduceLE, Int.reduceGT, Int.reduceGE, Int.reduceEq, Int.reduceNe, Int.reduceBEq, Int.reduceBNe, Int.reduceToNat, Int.reduceNeg]) (by first | rfl | simp only [go_sem, Nat.reduceAdd, Nat.reduceMul, Nat.reduceSub, Nat.reduceEqDiff, Nat.reduceLT, Nat.reduceLeDiff, Nat.reduceBEq, reduceIte, reduceCtorEq, Int.reduceAdd, Int.reduceLT, Int.reduceLE, Int.reduceGT, Int.reduceGE, Int.reduceEq, Int.reduceNe, Int.reduceBEq, Int.reduceBNe, Int.reduceToNat, Int.reduceNeg]) ?_
  try simp only [hx, idx_lt, go_sem, Nat.reduceAdd, Nat.reduceMul, Nat.reduceSub, Nat.reduceEqDiff, Nat.reduceLT, Nat.reduceLeDiff, Nat.reduceBEq, reduceIte, reduceCtorEq, Int.reduceAdd, Int.reduceLT, Int.reduceLE, Int.reduceGT, Int.reduceGE, Int.reduceEq, Int.reduceNe, Int.reduceBEq, Int.reduceBNe, Int.reduceToNat, Int.reduceNeg]
  (repeat (with_reducible refine And.intro (by first | omega | (simp_all; done) | grind) ?_)); refine AWp_cond _ rfl rfl (fun h => ?_) (fun h => ?_)
  · have hf : has44 name = false := by simpa using h
    try simp only [hf, encSmp, List.map_nil, go_sem, Nat.reduceAdd, Nat.reduceMul, Nat.reduceSub, Nat.reduceEqDiff, Nat.reduceLT, Nat.reduceLeDiff, Nat.reduceBEq, reduceIte, reduceCtorEq, Int.reduceAdd, Int.reduceLT, Int.reduceLE, Int.reduceGT, Int.reduceGE, Int.reduceEq, Int.reduceNe, Int.reduceBEq, Int.reduceBNe, Int.reduceToNat, Int.reduceNeg]
  · have hf : has44 name = true := by simpa using h
    obtain ⟨h0, h8⟩ := idx_yes hf
    have hg := getD_allS encSmp _ ⟨h0, h8⟩ []
    try simp only [hf, hg, allS_len, go_sem, Nat.reduceAdd, Nat.reduceMul, Nat.reduceSub, Nat.reduceEqDiff, Nat.reduceLT, Nat.reduceLeDiff, Nat.reduceBEq, reduceIte, reduceCtorEq, Int.reduceAdd, Int.reduceLT, Int.reduceLE, Int.reduceGT, Int.reduceGE, Int.reduceEq, Int.reduceNe, Int.reduceBEq, Int.reduceBNe, Int.reduceToNat, Int.reduceNeg]
    repeat (with_reducible refine And.intro (by first | omega | (simp_all; done) | grind) ?_)
    simp only [encSmp, at44, go_sem, Nat.reduceAdd, Nat.reduceMul, Nat.reduceSub, Nat.reduceEqDiff, Nat.reduceLT, Nat.reduceLeDiff, Nat.reduceBEq, reduceIte, reduceCtorEq, Int.reduceAdd, Int.reduceLT, Int.reduceLE, Int.reduceGT, Int.reduceGE, Int.reduceEq, Int.reduceNe, Int.reduceBEq, Int.reduceBNe, Int.reduceToNat, Int.reduceNeg]

theorem source_ok (name : List UInt8) : ACall Try.prog 12 [.d (.str name)] [] (.tup [.d (.str (source44 name).1), .d (.int .i64 (source44 name).2)]) [] := by
  refine k_samples_Source ?_
  try simp only [go_sem, Nat.reduceAdd, Nat.reduceMul, Nat.reduceSub, Nat.reduceEqDiff, Nat.reduceLT, Nat.reduceLeDiff, Nat.reduceBEq, reduceIte, reduceCtorEq, Int.reduceAdd, Int.reduceLT, Int.reduceLE, Int.reduceGT, Int.reduceGE, Int.reduceEq, Int.reduceNe, Int.reduceBEq, Int.reduceBNe, Int.reduceToNat, Int.reduceNeg]
  (repeat (with_reducible refine And.intro (by first | omega | (simp_all; done) | grind) ?_)); refine callO_pure (find_ok name) b_samples_find (fun h => by first | exact h | (simp only [h, Bool.and_self, Bool.and_true])) (fun _ => by first | exact ⟨matchA_refl, trivial⟩ | exact ⟨matchA_refl, matchA_refl, trivial⟩ | exact ⟨matchA_refl, matchA_refl, matchA_refl, trivial⟩ | simp only [encS, encSmp, go_sem, Nat.reduceAdd, Nat.reduceMul, Nat.reduceSub, Nat.reduceEqDiff, Nat.reduceLT, Nat.reduceLeDiff, Nat.reduceBEq, reduceIte, reduceCtorEq, Int.reduceAdd, Int.reduceLT, Int.reduceLE, Int.reduceGT, Int.reduceGE, Int.reduceEq, Int.reduceNe, Int.reduceBEq, Int.reduceBNe, Int.reduceToNat, Int.reduceNeg]) (by simp only [go_sem, Nat.reduceAdd, Nat.reduceMul, Nat.reduceSub, Nat.reduceEqDiff, Nat.reduceLT, Nat.reduceLeDiff, Nat.reduceBEq, reduceIte, reduceCtorEq, Int.reduceAdd, Int.reduceLT, Int.reduceLE, Int.reduceGT, Int.reduceGE, Int.reduceEq, Int.reduceNe, Int.reduceBEq, Int.reduceBNe, Int.reduceToNat, Int.reduceNeg]) rfl rfl ?_
  simp only [encSmp, go_sem, Nat.reduceAdd, Nat.reduceMul, Nat.reduceSub, Nat.reduceEqDiff, Nat.reduceLT, Nat.reduceLeDiff, Nat.reduceBEq, reduceIte, reduceCtorEq, Int.reduceAdd, Int.reduceLT, Int.reduceLE, Int.reduceGT, Int.reduceGE, Int.reduceEq, Int.reduceNe, Int.reduceBEq, Int.reduceBNe, Int.reduceToNat, Int.reduceNeg]
  (repeat (with_reducible refine And.intro (by first | omega | (simp_all; done) | grind) ?_)); refine AWp_cond _ rfl rfl (fun h => ?_) (fun h => ?_)
  · have hf : has44 name = false := by simpa using h
    try simp only [source44, hf, go_sem, Nat.reduceAdd, Nat.reduceMul, Nat.reduceSub, Nat.reduceEqDiff, Nat.reduceLT, Nat.reduceLeDiff, Nat.reduceBEq, reduceIte, reduceCtorEq, Int.reduceAdd, Int.reduceLT, Int.reduceLE, Int.reduceGT, Int.reduceGE, Int.reduceEq, Int.reduceNe, Int.reduceBEq, Int.reduceBNe, Int.reduceToNat, Int.reduceNeg]
  · have hf : has44 name = true := by simpa using h
    try simp only [source44, hf, go_sem, Nat.reduceAdd, Nat.reduceMul, Nat.reduceSub, Nat.reduceEqDiff, Nat.reduceLT, Nat.reduceLeDiff, Nat.reduceBEq, reduceIte, reduceCtorEq, Int.reduceAdd, Int.reduceLT, Int.reduceLE, Int.reduceGT, Int.reduceGE, Int.reduceEq, Int.reduceNe, Int.reduceBEq, Int.reduceBNe, Int.reduceToNat, Int.reduceNeg]

theorem svc_ok (name : List UInt8) : ACall Try.prog 17 [.d (.str name)] [] (.d (.sl 1 ((svc44 name).map encS))) [] := by
  refine k_samples_Services ?_
  try simp only [go_sem, Nat.reduceAdd, Nat.reduceMul, Nat.reduceSub, Nat.reduceEqDiff, Nat.reduceLT, Nat.reduceLeDiff, Nat.reduceBEq, reduceIte, reduceCtorEq, Int.reduceAdd, Int.reduceLT, Int.reduceLE, Int.reduceGT, Int.reduceGE, Int.reduceEq, Int.reduceNe, Int.reduceBEq, Int.reduceBNe, Int.reduceToNat, Int.reduceNeg]
  (repeat (with_reducible refine And.intro (by first | omega | (simp_all; done) | grind) ?_)); refine callO_pure (find_ok name) b_samples_find (fun h => by first | exact h | (simp only [h, Bool.and_self, Bool.and_true])) (fun _ => by first | exact ⟨matchA_refl, trivial⟩ | exact ⟨matchA_refl, matchA_refl, trivial⟩ | exact ⟨matchA_refl, matchA_refl, matchA_refl, trivial⟩ | simp only [encS, encSmp, go_sem, Nat.reduceAdd, Nat.reduceMul, Nat.reduceSub, Nat.reduceEqDiff, Nat.reduceLT, Nat.reduceLeDiff, Nat.reduceBEq, reduceIte, reduceCtorEq, Int.reduceAdd, Int.reduceLT, Int.reduceLE, Int.reduceGT, Int.reduceGE, Int.reduceEq, Int.reduceNe, Int.reduceBEq, Int.reduceBNe, Int.reduceToNat, Int.reduceNeg]) (by simp only [go_sem, Nat.reduceAdd, Nat.reduceMul, Nat.reduceSub, Nat.reduceEqDiff, Nat.reduceLT, Nat.reduceLeDiff, Nat.reduceBEq, reduceIte, reduceCtorEq, Int.reduceAdd, Int.reduceLT, Int.reduceLE, Int.reduceGT, Int.reduceGE, Int.reduceEq, Int.reduceNe, Int.reduceBEq, Int.reduceBNe, Int.reduceToNat, Int.reduceNeg]) rfl rfl ?_
  simp only [encSmp, go_sem, Nat.reduceAdd, Nat.reduceMul, Nat.reduceSub, Nat.reduceEqDiff, Nat.reduceLT, Nat.reduceLeDiff, Nat.reduceBEq, reduceIte, reduceCtorEq, Int.reduceAdd, Int.reduceLT, Int.reduceLE, Int.reduceGT, Int.reduceGE, Int.reduceEq, Int.reduceNe, Int.reduceBEq, Int.reduceBNe, Int.reduceToNat, Int.reduceNeg]
  cases h : has44 name <;> simp only [svc44, h, List.map_nil, go_sem, Nat.reduceAdd, Nat.reduceMul, Nat.reduceSub, Nat.reduceEqDiff, Nat.reduceLT, Nat.reduceLeDiff, Nat.reduceBEq, reduceIte, reduceCtorEq, Int.reduceAdd, Int.reduceLT, Int.reduceLE, Int.reduceGT, Int.reduceGE, Int.reduceEq, Int.reduceNe, Int.reduceBEq, Int.reduceBNe, Int.reduceToNat, Int.reduceNeg]
end Go.Proofs.Ythcpckcgjplhiaa
