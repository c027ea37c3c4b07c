/- SamplesTexts. -/
import Derived.Test.YthcpckcgjplhiaaEb
namespace Go.Proofs.Ythcpckcgjplhiaa
open Go.Abs
set_option linter.unusedSimpArgs false
set_option maxRecDepth 100000
-- ENC encS encSmp

noncomputable def s_farandolelaw44_awake_r0 : List SOper := [
  ⟨(some 0), .mov (.k (.d (.bool false))), none⟩]
noncomputable def s_farandolelaw44_awake_r1 : List SOper := [
  ⟨(some 1), .call (.k (.d (.func (.func 19) [] []))) [], none⟩,
  ⟨(some 2), .len (.t 1), none⟩,
  ⟨(some 3), .bin .eql (.t 2) (.k (.d (.int .i64 8))), none⟩,
  ⟨(some 4), .mov (.t 3), none⟩,
  ⟨(some 5), .call (.k (.d (.func (.func 17) [] []))) [(.k (.d (.str [80, 105, 110, 103])))], (some (4, true))⟩,
  ⟨(some 6), .len (.t 5), (some (4, true))⟩,
  ⟨(some 7), .bin .eql (.t 6) (.k (.d (.int .i64 2))), (some (4, true))⟩,
  ⟨(some 8), .pick (.t 4) (.t 7) (.k (.d (.bool false))), none⟩,
  ⟨(some 9), .mov (.t 8), none⟩,
  ⟨(some 10), .call (.k (.d (.func (.func 23) [] []))) [], (some (9, true))⟩,
  ⟨(some 11), .len (.t 10), (some (9, true))⟩,
  ⟨(some 12), .bin .eql (.t 11) (.k (.d (.int .i64 6))), (some (9, true))⟩,
  ⟨(some 13), .pick (.t 9) (.t 12) (.k (.d (.bool false))), none⟩,
  ⟨(some 0), .mov (.t 13), none⟩]
noncomputable def s_farandolelaw44_awake : SCode := (.seq (.region s_farandolelaw44_awake_r0 0 []) (.seq (.region s_farandolelaw44_awake_r1 0 []) .ret))
theorem e_farandolelaw44_awake {P : Program} {k0 : Nat} {Q : SExit → St → Prop} {st : St} : AWp P k0 s_farandolelaw44_awake Q st = AWp P k0 (.seq (.region s_farandolelaw44_awake_r0 0 []) (.seq (.region s_farandolelaw44_awake_r1 0 []) .ret)) Q st := rfl
theorem u_farandolelaw44_awake_r0 {P : Program} {o : Nat} {p : List (Nat × Nat)} {Q : SExit → St → Prop} {st : St} : goReg P s_farandolelaw44_awake_r0 o p Q st = goLit P (litOf s_farandolelaw44_awake_r0.eq_1) o p Q st := goReg_of _
theorem u_farandolelaw44_awake_r1 {P : Program} {o : Nat} {p : List (Nat × Nat)} {Q : SExit → St → Prop} {st : St} : goReg P s_farandolelaw44_awake_r1 o p Q st = goLit P (litOf s_farandolelaw44_awake_r1.eq_1) o p Q st := goReg_of _
attribute [go_sem] u_farandolelaw44_awake_r0 u_farandolelaw44_awake_r1 e_farandolelaw44_awake
set_option maxRecDepth 100000 in
theorem c_farandolelaw44_awake : Try.f11.body.bind (compCode Try.prog Try.f11.ntmps news) = some s_farandolelaw44_awake := by kernel_rfl
theorem r_farandolelaw44_awake : Try.f11.results.toList.mapM (compRes Try.prog) = some [(.tmp 0)] := by kernel_rfl
theorem n_farandolelaw44_awake : Try.f11.ntmps = 14 := by kernel_rfl
theorem b_farandolelaw44_awake : (Try.prog.funcs[11]?).any (fun fn => fn.body.isSome && !(fn.name == "runtime.NumGoroutine")) = true := by kernel_rfl
theorem ko_farandolelaw44_awake {args : List ASlot} {r : ASlot} {objs objs' : List AObj} (h : AWp Try.prog objs.length s_farandolelaw44_awake (bodyQ objs.length [(.tmp 0)] [r] objs') (entrySt args objs)) (hN : args.length ≤ 14 := by simp) (hw : ltB 16 (toksOf args ++ osToks objs) = true := by rfl) : ACall Try.prog 11 args objs r objs' :=
  acall_go (rs := [r]) follows Try.func11 c_farandolelaw44_awake r_farandolelaw44_awake h (by rw [n_farandolelaw44_awake]; exact hN) rfl hw
theorem k_farandolelaw44_awake {args : List ASlot} {r : ASlot} (h : AWp Try.prog 0 s_farandolelaw44_awake (bodyQ 0 [(.tmp 0)] [r] []) (entrySt args [])) (hN : args.length ≤ 14 := by simp) (hw : ltB 16 (toksOf args ++ osToks []) = true := by rfl) : ACall Try.prog 11 args [] r [] := ko_farandolelaw44_awake h hN hw

noncomputable def s_farandolelaw44_SamplesTexts_r0 : List SOper := [
  ⟨(some 2), .mov (.k (.d (.bool false))), none⟩]
noncomputable def s_farandolelaw44_SamplesTexts_r1 : List SOper := [
  ⟨(some 10), .call (.k (.d (.func (.func 11) [] []))) [], none⟩,
  ⟨(some 11), .not (.t 10), none⟩]
noncomputable def s_farandolelaw44_SamplesTexts_r2 : List SOper := [
  ⟨(some 2), .mov (.k (.d (.bool false))), none⟩]
noncomputable def s_farandolelaw44_SamplesTexts_r3 : List SOper := [
  ⟨(some 12), .mov (.t 0), none⟩,
  ⟨(some 13), .lenS (.t 12), none⟩,
  ⟨(some 14), .bin .gtr (.t 13) (.k (.d (.int .i64 100))), none⟩]
noncomputable def s_farandolelaw44_SamplesTexts_r4 : List SOper := [
  ⟨(some 2), .mov (.k (.d (.bool true))), none⟩]
noncomputable def s_farandolelaw44_SamplesTexts_r5 : List SOper := [
  ⟨(some 16), .mov (.t 0), none⟩,
  ⟨(some 17), .call (.k (.d (.func (.func 12) [] []))) [(.t 16)], none⟩,
  ⟨(some 15), .mov (.t 17), none⟩,
  ⟨(some 18), .extract 0 (.t 15), none⟩,
  ⟨(some 19), .extract 1 (.t 15), none⟩,
  ⟨(some 3), .mov (.t 18), none⟩,
  ⟨(some 4), .mov (.t 19), none⟩]
noncomputable def s_farandolelaw44_SamplesTexts_r6 : List SOper := [
  ⟨(some 21), .mov (.t 0), none⟩,
  ⟨(some 22), .call (.k (.d (.func (.func 13) [] []))) [(.t 21)], none⟩,
  ⟨(some 20), .mov (.t 22), none⟩,
  ⟨(some 23), .extract 0 (.t 20), none⟩,
  ⟨(some 24), .extract 1 (.t 20), none⟩,
  ⟨(some 5), .mov (.t 23), none⟩,
  ⟨(some 6), .mov (.t 24), none⟩]
noncomputable def s_farandolelaw44_SamplesTexts_r7 : List SOper := [
  ⟨(some 25), .call (.k (.d (.func (.func 14) [] []))) [], none⟩,
  ⟨(some 26), .call (.k (.d (.func (.func 15) [] []))) [], none⟩,
  ⟨(some 7), .mov (.t 25), none⟩,
  ⟨(some 8), .mov (.t 26), none⟩]
noncomputable def s_farandolelaw44_SamplesTexts_r8 : List SOper := [
  ⟨(some 27), .mov (.t 3), none⟩,
  ⟨(some 28), .mov (.t 5), none⟩,
  ⟨(some 29), .bin .neq (.t 27) (.t 28), none⟩,
  ⟨(some 30), .mov (.t 29), none⟩,
  ⟨(some 31), .mov (.t 4), (some (30, false))⟩,
  ⟨(some 32), .mov (.t 6), (some (30, false))⟩,
  ⟨(some 33), .bin .neq (.t 31) (.t 32), (some (30, false))⟩,
  ⟨(some 34), .pick (.t 30) (.k (.d (.bool true))) (.t 33), none⟩,
  ⟨(some 35), .mov (.t 34), none⟩,
  ⟨(some 36), .mov (.t 0), (some (35, false))⟩,
  ⟨(some 37), .call (.k (.d (.func (.func 17) [] []))) [(.t 36)], (some (35, false))⟩,
  ⟨(some 38), .mov (.t 0), (some (35, false))⟩,
  ⟨(some 39), .call (.k (.d (.func (.func 18) [] []))) [(.t 38)], (some (35, false))⟩,
  ⟨(some 40), .call (.k (.d (.func (.func 16) [] []))) [(.t 37), (.t 39)], (some (35, false))⟩,
  ⟨(some 41), .not (.t 40), (some (35, false))⟩,
  ⟨(some 42), .pick (.t 35) (.k (.d (.bool true))) (.t 41), none⟩,
  ⟨(some 43), .mov (.t 42), none⟩,
  ⟨(some 44), .mov (.t 7), (some (43, false))⟩,
  ⟨(some 45), .len (.t 44), (some (43, false))⟩,
  ⟨(some 46), .mov (.t 8), (some (43, false))⟩,
  ⟨(some 47), .len (.t 46), (some (43, false))⟩,
  ⟨(some 48), .bin .neq (.t 45) (.t 47), (some (43, false))⟩,
  ⟨(some 49), .pick (.t 43) (.k (.d (.bool true))) (.t 48), none⟩]
noncomputable def s_farandolelaw44_SamplesTexts_r9 : List SOper := [
  ⟨(some 2), .mov (.k (.d (.bool false))), none⟩]
noncomputable def s_farandolelaw44_SamplesTexts_r10 : List SOper := [
  ⟨(some 9), .mov (.k (.d (.int .i64 0))), none⟩]
noncomputable def s_farandolelaw44_SamplesTexts_r11 : List SOper := [
  ⟨(some 50), .mov (.t 9), none⟩,
  ⟨(some 51), .mov (.t 7), none⟩,
  ⟨(some 52), .len (.t 51), none⟩,
  ⟨(some 53), .bin .lss (.t 50) (.t 52), none⟩]
noncomputable def s_farandolelaw44_SamplesTexts_r12 : List SOper := [
  ⟨(some 56), .mov (.t 7), none⟩,
  ⟨(some 57), .mov (.t 9), none⟩,
  ⟨(some 58), .iaddr 1 (.t 56) (.t 57), none⟩,
  ⟨(some 59), .load none (.t 58), none⟩,
  ⟨(some 60), .mov (.t 8), none⟩,
  ⟨(some 61), .mov (.t 9), none⟩,
  ⟨(some 62), .iaddr 1 (.t 60) (.t 61), none⟩,
  ⟨(some 63), .load none (.t 62), none⟩,
  ⟨(some 64), .bin .neq (.t 59) (.t 63), none⟩]
noncomputable def s_farandolelaw44_SamplesTexts_r13 : List SOper := [
  ⟨(some 2), .mov (.k (.d (.bool false))), none⟩]
noncomputable def s_farandolelaw44_SamplesTexts_r14 : List SOper := [
  ⟨(some 54), .mov (.t 9), none⟩,
  ⟨(some 55), .bin .add (.t 54) (.k (.d (.int .i64 1))), none⟩,
  ⟨(some 9), .mov (.t 55), none⟩]
noncomputable def s_farandolelaw44_SamplesTexts_l15 : SCode := (.seq (.seq (.region s_farandolelaw44_SamplesTexts_r11 0 []) (.cond (.t 53) .skip (.exit 0))) (.seq (.block 1 (.seq (.region s_farandolelaw44_SamplesTexts_r12 0 []) (.cond (.t 64) (.seq (.region s_farandolelaw44_SamplesTexts_r13 0 []) .ret) .skip))) (.region s_farandolelaw44_SamplesTexts_r14 0 [])))
theorem e_farandolelaw44_SamplesTexts_l15 {P : Program} {k0 : Nat} {Q : SExit → St → Prop} {st : St} : AWp P k0 s_farandolelaw44_SamplesTexts_l15 Q st = AWp P k0 (.seq (.seq (.region s_farandolelaw44_SamplesTexts_r11 0 []) (.cond (.t 53) .skip (.exit 0))) (.seq (.block 1 (.seq (.region s_farandolelaw44_SamplesTexts_r12 0 []) (.cond (.t 64) (.seq (.region s_farandolelaw44_SamplesTexts_r13 0 []) .ret) .skip))) (.region s_farandolelaw44_SamplesTexts_r14 0 []))) Q st := rfl
noncomputable def s_farandolelaw44_SamplesTexts_r16 : List SOper := [
  ⟨(some 65), .call (.k (.d (.func (.func 19) [] []))) [], none⟩,
  ⟨(some 66), .call (.k (.d (.func (.func 20) [] []))) [], none⟩,
  ⟨(some 67), .call (.k (.d (.func (.func 16) [] []))) [(.t 65), (.t 66)], none⟩,
  ⟨(some 68), .mov (.t 67), none⟩,
  ⟨(some 69), .call (.k (.d (.func (.func 21) [] []))) [], (some (68, true))⟩,
  ⟨(some 70), .call (.k (.d (.func (.func 22) [] []))) [], (some (68, true))⟩,
  ⟨(some 71), .call (.k (.d (.func (.func 16) [] []))) [(.t 69), (.t 70)], (some (68, true))⟩,
  ⟨(some 72), .pick (.t 68) (.t 71) (.k (.d (.bool false))), none⟩,
  ⟨(some 73), .mov (.t 72), none⟩,
  ⟨(some 74), .call (.k (.d (.func (.func 23) [] []))) [], (some (73, true))⟩,
  ⟨(some 75), .call (.k (.d (.func (.func 24) [] []))) [], (some (73, true))⟩,
  ⟨(some 76), .call (.k (.d (.func (.func 16) [] []))) [(.t 74), (.t 75)], (some (73, true))⟩,
  ⟨(some 77), .pick (.t 73) (.t 76) (.k (.d (.bool false))), none⟩,
  ⟨(some 2), .mov (.t 77), none⟩]
noncomputable def s_farandolelaw44_SamplesTexts : SCode := (.seq (.region s_farandolelaw44_SamplesTexts_r0 0 []) (.seq (.seq (.region s_farandolelaw44_SamplesTexts_r1 0 []) (.cond (.t 11) (.seq (.region s_farandolelaw44_SamplesTexts_r2 0 []) .ret) .skip)) (.seq (.seq (.region s_farandolelaw44_SamplesTexts_r3 0 []) (.cond (.t 14) (.seq (.region s_farandolelaw44_SamplesTexts_r4 0 []) .ret) .skip)) (.seq (.region s_farandolelaw44_SamplesTexts_r5 0 []) (.seq (.region s_farandolelaw44_SamplesTexts_r6 0 []) (.seq (.region s_farandolelaw44_SamplesTexts_r7 0 []) (.seq (.seq (.region s_farandolelaw44_SamplesTexts_r8 0 []) (.cond (.t 49) (.seq (.region s_farandolelaw44_SamplesTexts_r9 0 []) .ret) .skip)) (.seq (.seq (.region s_farandolelaw44_SamplesTexts_r10 0 []) (.block 0 (.loop s_farandolelaw44_SamplesTexts_l15))) (.seq (.region s_farandolelaw44_SamplesTexts_r16 0 []) .ret)))))))))
theorem e_farandolelaw44_SamplesTexts {P : Program} {k0 : Nat} {Q : SExit → St → Prop} {st : St} : AWp P k0 s_farandolelaw44_SamplesTexts Q st = AWp P k0 (.seq (.region s_farandolelaw44_SamplesTexts_r0 0 []) (.seq (.seq (.region s_farandolelaw44_SamplesTexts_r1 0 []) (.cond (.t 11) (.seq (.region s_farandolelaw44_SamplesTexts_r2 0 []) .ret) .skip)) (.seq (.seq (.region s_farandolelaw44_SamplesTexts_r3 0 []) (.cond (.t 14) (.seq (.region s_farandolelaw44_SamplesTexts_r4 0 []) .ret) .skip)) (.seq (.region s_farandolelaw44_SamplesTexts_r5 0 []) (.seq (.region s_farandolelaw44_SamplesTexts_r6 0 []) (.seq (.region s_farandolelaw44_SamplesTexts_r7 0 []) (.seq (.seq (.region s_farandolelaw44_SamplesTexts_r8 0 []) (.cond (.t 49) (.seq (.region s_farandolelaw44_SamplesTexts_r9 0 []) .ret) .skip)) (.seq (.seq (.region s_farandolelaw44_SamplesTexts_r10 0 []) (.block 0 (.loop s_farandolelaw44_SamplesTexts_l15))) (.seq (.region s_farandolelaw44_SamplesTexts_r16 0 []) .ret))))))))) Q st := rfl
theorem u_farandolelaw44_SamplesTexts_r0 {P : Program} {o : Nat} {p : List (Nat × Nat)} {Q : SExit → St → Prop} {st : St} : goReg P s_farandolelaw44_SamplesTexts_r0 o p Q st = goLit P (litOf s_farandolelaw44_SamplesTexts_r0.eq_1) o p Q st := goReg_of _
theorem u_farandolelaw44_SamplesTexts_r1 {P : Program} {o : Nat} {p : List (Nat × Nat)} {Q : SExit → St → Prop} {st : St} : goReg P s_farandolelaw44_SamplesTexts_r1 o p Q st = goLit P (litOf s_farandolelaw44_SamplesTexts_r1.eq_1) o p Q st := goReg_of _
theorem u_farandolelaw44_SamplesTexts_r2 {P : Program} {o : Nat} {p : List (Nat × Nat)} {Q : SExit → St → Prop} {st : St} : goReg P s_farandolelaw44_SamplesTexts_r2 o p Q st = goLit P (litOf s_farandolelaw44_SamplesTexts_r2.eq_1) o p Q st := goReg_of _
theorem u_farandolelaw44_SamplesTexts_r3 {P : Program} {o : Nat} {p : List (Nat × Nat)} {Q : SExit → St → Prop} {st : St} : goReg P s_farandolelaw44_SamplesTexts_r3 o p Q st = goLit P (litOf s_farandolelaw44_SamplesTexts_r3.eq_1) o p Q st := goReg_of _
theorem u_farandolelaw44_SamplesTexts_r4 {P : Program} {o : Nat} {p : List (Nat × Nat)} {Q : SExit → St → Prop} {st : St} : goReg P s_farandolelaw44_SamplesTexts_r4 o p Q st = goLit P (litOf s_farandolelaw44_SamplesTexts_r4.eq_1) o p Q st := goReg_of _
theorem u_farandolelaw44_SamplesTexts_r5 {P : Program} {o : Nat} {p : List (Nat × Nat)} {Q : SExit → St → Prop} {st : St} : goReg P s_farandolelaw44_SamplesTexts_r5 o p Q st = goLit P (litOf s_farandolelaw44_SamplesTexts_r5.eq_1) o p Q st := goReg_of _
theorem u_farandolelaw44_SamplesTexts_r6 {P : Program} {o : Nat} {p : List (Nat × Nat)} {Q : SExit → St → Prop} {st : St} : goReg P s_farandolelaw44_SamplesTexts_r6 o p Q st = goLit P (litOf s_farandolelaw44_SamplesTexts_r6.eq_1) o p Q st := goReg_of _
theorem u_farandolelaw44_SamplesTexts_r7 {P : Program} {o : Nat} {p : List (Nat × Nat)} {Q : SExit → St → Prop} {st : St} : goReg P s_farandolelaw44_SamplesTexts_r7 o p Q st = goLit P (litOf s_farandolelaw44_SamplesTexts_r7.eq_1) o p Q st := goReg_of _
theorem u_farandolelaw44_SamplesTexts_r8 {P : Program} {o : Nat} {p : List (Nat × Nat)} {Q : SExit → St → Prop} {st : St} : goReg P s_farandolelaw44_SamplesTexts_r8 o p Q st = goLit P (litOf s_farandolelaw44_SamplesTexts_r8.eq_1) o p Q st := goReg_of _
theorem u_farandolelaw44_SamplesTexts_r9 {P : Program} {o : Nat} {p : List (Nat × Nat)} {Q : SExit → St → Prop} {st : St} : goReg P s_farandolelaw44_SamplesTexts_r9 o p Q st = goLit P (litOf s_farandolelaw44_SamplesTexts_r9.eq_1) o p Q st := goReg_of _
theorem u_farandolelaw44_SamplesTexts_r10 {P : Program} {o : Nat} {p : List (Nat × Nat)} {Q : SExit → St → Prop} {st : St} : goReg P s_farandolelaw44_SamplesTexts_r10 o p Q st = goLit P (litOf s_farandolelaw44_SamplesTexts_r10.eq_1) o p Q st := goReg_of _
theorem u_farandolelaw44_SamplesTexts_r11 {P : Program} {o : Nat} {p : List (Nat × Nat)} {Q : SExit → St → Prop} {st : St} : goReg P s_farandolelaw44_SamplesTexts_r11 o p Q st = goLit P (litOf s_farandolelaw44_SamplesTexts_r11.eq_1) o p Q st := goReg_of _
theorem u_farandolelaw44_SamplesTexts_r12 {P : Program} {o : Nat} {p : List (Nat × Nat)} {Q : SExit → St → Prop} {st : St} : goReg P s_farandolelaw44_SamplesTexts_r12 o p Q st = goLit P (litOf s_farandolelaw44_SamplesTexts_r12.eq_1) o p Q st := goReg_of _
theorem u_farandolelaw44_SamplesTexts_r13 {P : Program} {o : Nat} {p : List (Nat × Nat)} {Q : SExit → St → Prop} {st : St} : goReg P s_farandolelaw44_SamplesTexts_r13 o p Q st = goLit P (litOf s_farandolelaw44_SamplesTexts_r13.eq_1) o p Q st := goReg_of _
theorem u_farandolelaw44_SamplesTexts_r14 {P : Program} {o : Nat} {p : List (Nat × Nat)} {Q : SExit → St → Prop} {st : St} : goReg P s_farandolelaw44_SamplesTexts_r14 o p Q st = goLit P (litOf s_farandolelaw44_SamplesTexts_r14.eq_1) o p Q st := goReg_of _
theorem u_farandolelaw44_SamplesTexts_r16 {P : Program} {o : Nat} {p : List (Nat × Nat)} {Q : SExit → St → Prop} {st : St} : goReg P s_farandolelaw44_SamplesTexts_r16 o p Q st = goLit P (litOf s_farandolelaw44_SamplesTexts_r16.eq_1) o p Q st := goReg_of _
attribute [go_sem] u_farandolelaw44_SamplesTexts_r0 u_farandolelaw44_SamplesTexts_r1 u_farandolelaw44_SamplesTexts_r2 u_farandolelaw44_SamplesTexts_r3 u_farandolelaw44_SamplesTexts_r4 u_farandolelaw44_SamplesTexts_r5 u_farandolelaw44_SamplesTexts_r6 u_farandolelaw44_SamplesTexts_r7 u_farandolelaw44_SamplesTexts_r8 u_farandolelaw44_SamplesTexts_r9 u_farandolelaw44_SamplesTexts_r10 u_farandolelaw44_SamplesTexts_r11 u_farandolelaw44_SamplesTexts_r12 u_farandolelaw44_SamplesTexts_r13 u_farandolelaw44_SamplesTexts_r14 e_farandolelaw44_SamplesTexts_l15 u_farandolelaw44_SamplesTexts_r16 e_farandolelaw44_SamplesTexts
set_option maxRecDepth 100000 in
theorem c_farandolelaw44_SamplesTexts : Try.f3.body.bind (compCode Try.prog Try.f3.ntmps news) = some s_farandolelaw44_SamplesTexts := by kernel_rfl
theorem r_farandolelaw44_SamplesTexts : Try.f3.results.toList.mapM (compRes Try.prog) = some [(.tmp 2)] := by kernel_rfl
theorem n_farandolelaw44_SamplesTexts : Try.f3.ntmps = 78 := by kernel_rfl
theorem b_farandolelaw44_SamplesTexts : (Try.prog.funcs[3]?).any (fun fn => fn.body.isSome && !(fn.name == "runtime.NumGoroutine")) = true := by kernel_rfl
theorem ko_farandolelaw44_SamplesTexts {args : List ASlot} {r : ASlot} {objs objs' : List AObj} (h : AWp Try.prog objs.length s_farandolelaw44_SamplesTexts (bodyQ objs.length [(.tmp 2)] [r] objs') (entrySt args objs)) (hN : args.length ≤ 78 := by simp) (hw : ltB 16 (toksOf args ++ osToks objs) = true := by rfl) : ACall Try.prog 3 args objs r objs' :=
  acall_go (rs := [r]) follows Try.func3 c_farandolelaw44_SamplesTexts r_farandolelaw44_SamplesTexts h (by rw [n_farandolelaw44_SamplesTexts]; exact hN) rfl hw
theorem k_farandolelaw44_SamplesTexts {args : List ASlot} {r : ASlot} (h : AWp Try.prog 0 s_farandolelaw44_SamplesTexts (bodyQ 0 [(.tmp 2)] [r] []) (entrySt args [])) (hN : args.length ≤ 78 := by simp) (hw : ltB 16 (toksOf args ++ osToks []) = true := by rfl) : ACall Try.prog 3 args [] r [] := ko_farandolelaw44_SamplesTexts h hN hw



theorem svc44_len (name : List UInt8) : (svc44 name).length ≤ 1000 := by
  unfold svc44
  split
  · rename_i h
    unfold at44
    obtain ⟨h0, h8⟩ := idx_yes h
    generalize idx (· == name) nameL = n at h0 h8
    have : n = 0 ∨ n = 1 ∨ n = 2 ∨ n = 3 ∨ n = 4 ∨ n = 5 ∨ n = 6 ∨ n = 7 := by omega
    rcases this with rfl | rfl | rfl | rfl | rfl | rfl | rfl | rfl <;> decide
  · simp

theorem ping_len : (svc44 [80, 105, 110, 103]).length = 2 := by decide

theorem awake44_ok : ACall Try.prog 11 [] [] (.d (.bool true)) [] := by
  refine k_farandolelaw44_awake ?_
  try simp only [go_sem, Nat.reduceAdd, Nat.reduceMul, Nat.reduceSub, Nat.reduceEqDiff, Nat.reduceLT, Nat.reduceLeDiff, Nat.reduceBEq, reduceIte, reduceCtorEq, Int.reduceAdd, Int.reduceLT, Int.reduceLE, Int.reduceGT, Int.reduceGE, Int.reduceEq, Int.reduceNe, Int.reduceBEq, Int.reduceBNe, Int.reduceToNat, Int.reduceNeg]
  (repeat (with_reducible refine And.intro (by first | omega | (simp_all; done) | grind) ?_)); refine callO_pure (names_ok) b_samples_Names (fun h => by first | exact h | (simp only [h, Bool.and_self, Bool.and_true])) (fun _ => by first | exact ⟨matchA_refl, trivial⟩ | exact ⟨matchA_refl, matchA_refl, trivial⟩ | exact ⟨matchA_refl, matchA_refl, matchA_refl, trivial⟩ | simp only [encS, encSmp, go_sem, Nat.reduceAdd, Nat.reduceMul, Nat.reduceSub, Nat.reduceEqDiff, Nat.reduceLT, Nat.reduceLeDiff, Nat.reduceBEq, reduceIte, reduceCtorEq, Int.reduceAdd, Int.reduceLT, Int.reduceLE, Int.reduceGT, Int.reduceGE, Int.reduceEq, Int.reduceNe, Int.reduceBEq, Int.reduceBNe, Int.reduceToNat, Int.reduceNeg]) (by simp only [go_sem, Nat.reduceAdd, Nat.reduceMul, Nat.reduceSub, Nat.reduceEqDiff, Nat.reduceLT, Nat.reduceLeDiff, Nat.reduceBEq, reduceIte, reduceCtorEq, Int.reduceAdd, Int.reduceLT, Int.reduceLE, Int.reduceGT, Int.reduceGE, Int.reduceEq, Int.reduceNe, Int.reduceBEq, Int.reduceBNe, Int.reduceToNat, Int.reduceNeg]) rfl rfl ?_
  try simp only [allS_len, go_sem, Nat.reduceAdd, Nat.reduceMul, Nat.reduceSub, Nat.reduceEqDiff, Nat.reduceLT, Nat.reduceLeDiff, Nat.reduceBEq, reduceIte, reduceCtorEq, Int.reduceAdd, Int.reduceLT, Int.reduceLE, Int.reduceGT, Int.reduceGE, Int.reduceEq, Int.reduceNe, Int.reduceBEq, Int.reduceBNe, Int.reduceToNat, Int.reduceNeg]
  (repeat (with_reducible refine And.intro (by first | omega | (simp_all; done) | grind) ?_)); refine callO_pure (svc_ok [80, 105, 110, 103]) b_samples_Services (fun h => by first | exact h | (simp only [h, Bool.and_self, Bool.and_true])) (fun _ => by first | exact ⟨matchA_refl, trivial⟩ | exact ⟨matchA_refl, matchA_refl, trivial⟩ | exact ⟨matchA_refl, matchA_refl, matchA_refl, trivial⟩ | simp only [encS, encSmp, go_sem, Nat.reduceAdd, Nat.reduceMul, Nat.reduceSub, Nat.reduceEqDiff, Nat.reduceLT, Nat.reduceLeDiff, Nat.reduceBEq, reduceIte, reduceCtorEq, Int.reduceAdd, Int.reduceLT, Int.reduceLE, Int.reduceGT, Int.reduceGE, Int.reduceEq, Int.reduceNe, Int.reduceBEq, Int.reduceBNe, Int.reduceToNat, Int.reduceNeg]) (by simp only [go_sem, Nat.reduceAdd, Nat.reduceMul, Nat.reduceSub, Nat.reduceEqDiff, Nat.reduceLT, Nat.reduceLeDiff, Nat.reduceBEq, reduceIte, reduceCtorEq, Int.reduceAdd, Int.reduceLT, Int.reduceLE, Int.reduceGT, Int.reduceGE, Int.reduceEq, Int.reduceNe, Int.reduceBEq, Int.reduceBNe, Int.reduceToNat, Int.reduceNeg]) rfl rfl ?_
  try simp only [allS_len, ping_len, go_sem, Nat.reduceAdd, Nat.reduceMul, Nat.reduceSub, Nat.reduceEqDiff, Nat.reduceLT, Nat.reduceLeDiff, Nat.reduceBEq, reduceIte, reduceCtorEq, Int.reduceAdd, Int.reduceLT, Int.reduceLE, Int.reduceGT, Int.reduceGE, Int.reduceEq, Int.reduceNe, Int.reduceBEq, Int.reduceBNe, Int.reduceToNat, Int.reduceNeg]
  (repeat (with_reducible refine And.intro (by first | omega | (simp_all; done) | grind) ?_)); refine callO_pure (rejected_ok) b_samples_Rejected (fun h => by first | exact h | (simp only [h, Bool.and_self, Bool.and_true])) (fun _ => by first | exact ⟨matchA_refl, trivial⟩ | exact ⟨matchA_refl, matchA_refl, trivial⟩ | exact ⟨matchA_refl, matchA_refl, matchA_refl, trivial⟩ | simp only [encS, encSmp, go_sem, Nat.reduceAdd, Nat.reduceMul, Nat.reduceSub, Nat.reduceEqDiff, Nat.reduceLT, Nat.reduceLeDiff, Nat.reduceBEq, reduceIte, reduceCtorEq, Int.reduceAdd, Int.reduceLT, Int.reduceLE, Int.reduceGT, Int.reduceGE, Int.reduceEq, Int.reduceNe, Int.reduceBEq, Int.reduceBNe, Int.reduceToNat, Int.reduceNeg]) (by simp only [go_sem, Nat.reduceAdd, Nat.reduceMul, Nat.reduceSub, Nat.reduceEqDiff, Nat.reduceLT, Nat.reduceLeDiff, Nat.reduceBEq, reduceIte, reduceCtorEq, Int.reduceAdd, Int.reduceLT, Int.reduceLE, Int.reduceGT, Int.reduceGE, Int.reduceEq, Int.reduceNe, Int.reduceBEq, Int.reduceBNe, Int.reduceToNat, Int.reduceNeg]) rfl rfl ?_
  try simp only [allR_len, go_sem, Nat.reduceAdd, Nat.reduceMul, Nat.reduceSub, Nat.reduceEqDiff, Nat.reduceLT, Nat.reduceLeDiff, Nat.reduceBEq, reduceIte, reduceCtorEq, Int.reduceAdd, Int.reduceLT, Int.reduceLE, Int.reduceGT, Int.reduceGE, Int.reduceEq, Int.reduceNe, Int.reduceBEq, Int.reduceBNe, Int.reduceToNat, Int.reduceNeg]

def Serr (i : { i : Nat // i ≤ allR.length }) (name : List UInt8) : St :=
  ⟨[(0, true, .d (.str name)), (7, true, .d (.sl 1 ((allR.map Rej.e).map encI))), (8, true, .d (.sl 1 ((allR.map Rej.e).map encI))), (9, true, .d (.int .i64 (i.val : Nat)))], [], [], 1⟩

theorem samplesTexts_ok (name : List UInt8) : ACall Try.prog 3 [.d (.str name)] [] (.d (.bool true)) [] := by
  have hl := allR_len
  have hl8 := allS_len
  refine k_farandolelaw44_SamplesTexts ?_
  try simp only [go_sem, Nat.reduceAdd, Nat.reduceMul, Nat.reduceSub, Nat.reduceEqDiff, Nat.reduceLT, Nat.reduceLeDiff, Nat.reduceBEq, reduceIte, reduceCtorEq, Int.reduceAdd, Int.reduceLT, Int.reduceLE, Int.reduceGT, Int.reduceGE, Int.reduceEq, Int.reduceNe, Int.reduceBEq, Int.reduceBNe, Int.reduceToNat, Int.reduceNeg]
  (repeat (with_reducible refine And.intro (by first | omega | (simp_all; done) | grind) ?_)); refine callO_pure (awake44_ok) b_farandolelaw44_awake (fun h => by first | exact h | (simp only [h, Bool.and_self, Bool.and_true])) (fun _ => by first | exact ⟨matchA_refl, trivial⟩ | exact ⟨matchA_refl, matchA_refl, trivial⟩ | exact ⟨matchA_refl, matchA_refl, matchA_refl, trivial⟩ | simp only [encS, encSmp, go_sem, Nat.reduceAdd, Nat.reduceMul, Nat.reduceSub, Nat.reduceEqDiff, Nat.reduceLT, Nat.reduceLeDiff, Nat.reduceBEq, reduceIte, reduceCtorEq, Int.reduceAdd, Int.reduceLT, Int.reduceLE, Int.reduceGT, Int.reduceGE, Int.reduceEq, Int.reduceNe, Int.reduceBEq, Int.reduceBNe, Int.reduceToNat, Int.reduceNeg]) (by simp only [go_sem, Nat.reduceAdd, Nat.reduceMul, Nat.reduceSub, Nat.reduceEqDiff, Nat.reduceLT, Nat.reduceLeDiff, Nat.reduceBEq, reduceIte, reduceCtorEq, Int.reduceAdd, Int.reduceLT, Int.reduceLE, Int.reduceGT, Int.reduceGE, Int.reduceEq, Int.reduceNe, Int.reduceBEq, Int.reduceBNe, Int.reduceToNat, Int.reduceNeg]) rfl rfl ?_
  try simp only [go_sem, Nat.reduceAdd, Nat.reduceMul, Nat.reduceSub, Nat.reduceEqDiff, Nat.reduceLT, Nat.reduceLeDiff, Nat.reduceBEq, reduceIte, reduceCtorEq, Int.reduceAdd, Int.reduceLT, Int.reduceLE, Int.reduceGT, Int.reduceGE, Int.reduceEq, Int.reduceNe, Int.reduceBEq, Int.reduceBNe, Int.reduceToNat, Int.reduceNeg]
  (repeat (with_reducible refine And.intro (by first | omega | (simp_all; done) | grind) ?_)); refine AWp_cond _ rfl rfl (fun h => Bool.noConfusion h) (fun _ => ?_)
  try simp only [go_sem, Nat.reduceAdd, Nat.reduceMul, Nat.reduceSub, Nat.reduceEqDiff, Nat.reduceLT, Nat.reduceLeDiff, Nat.reduceBEq, reduceIte, reduceCtorEq, Int.reduceAdd, Int.reduceLT, Int.reduceLE, Int.reduceGT, Int.reduceGE, Int.reduceEq, Int.reduceNe, Int.reduceBEq, Int.reduceBNe, Int.reduceToNat, Int.reduceNeg]
  (repeat (with_reducible refine And.intro (by first | omega | (simp_all; done) | grind) ?_)); refine AWp_cond _ rfl rfl (fun h => ?_) (fun h => ?_)
  · try simp only [go_sem, Nat.reduceAdd, Nat.reduceMul, Nat.reduceSub, Nat.reduceEqDiff, Nat.reduceLT, Nat.reduceLeDiff, Nat.reduceBEq, reduceIte, reduceCtorEq, Int.reduceAdd, Int.reduceLT, Int.reduceLE, Int.reduceGT, Int.reduceGE, Int.reduceEq, Int.reduceNe, Int.reduceBEq, Int.reduceBNe, Int.reduceToNat, Int.reduceNeg]
  have cs := same44_ok (svc44 name) (svc44 name) (svc44_len name)
  have c1 := same44_ok (allS.map Smp.name) (allS.map Smp.name) (by rw [List.length_map, hl8]; decide)
  have c2 := same44_ok (allS.map Smp.src) (allS.map Smp.src) (by rw [List.length_map, hl8]; decide)
  have c3 := same44_ok (allR.map Rej.src) (allR.map Rej.src) (by rw [List.length_map, hl]; decide)
  simp only [decide_true] at cs c1 c2 c3
  try simp only [go_sem, Nat.reduceAdd, Nat.reduceMul, Nat.reduceSub, Nat.reduceEqDiff, Nat.reduceLT, Nat.reduceLeDiff, Nat.reduceBEq, reduceIte, reduceCtorEq, Int.reduceAdd, Int.reduceLT, Int.reduceLE, Int.reduceGT, Int.reduceGE, Int.reduceEq, Int.reduceNe, Int.reduceBEq, Int.reduceBNe, Int.reduceToNat, Int.reduceNeg]
  (repeat (with_reducible refine And.intro (by first | omega | (simp_all; done) | grind) ?_)); refine callO_pure (source_ok name) b_samples_Source (fun h => by first | exact h | (simp only [h, Bool.and_self, Bool.and_true])) (fun _ => by first | exact ⟨matchA_refl, trivial⟩ | exact ⟨matchA_refl, matchA_refl, trivial⟩ | exact ⟨matchA_refl, matchA_refl, matchA_refl, trivial⟩ | simp only [encS, encSmp, go_sem, Nat.reduceAdd, Nat.reduceMul, Nat.reduceSub, Nat.reduceEqDiff, Nat.reduceLT, Nat.reduceLeDiff, Nat.reduceBEq, reduceIte, reduceCtorEq, Int.reduceAdd, Int.reduceLT, Int.reduceLE, Int.reduceGT, Int.reduceGE, Int.reduceEq, Int.reduceNe, Int.reduceBEq, Int.reduceBNe, Int.reduceToNat, Int.reduceNeg]) (by simp only [go_sem, Nat.reduceAdd, Nat.reduceMul, Nat.reduceSub, Nat.reduceEqDiff, Nat.reduceLT, Nat.reduceLeDiff, Nat.reduceBEq, reduceIte, reduceCtorEq, Int.reduceAdd, Int.reduceLT, Int.reduceLE, Int.reduceGT, Int.reduceGE, Int.reduceEq, Int.reduceNe, Int.reduceBEq, Int.reduceBNe, Int.reduceToNat, Int.reduceNeg]) rfl rfl ?_
  try simp only [go_sem, Nat.reduceAdd, Nat.reduceMul, Nat.reduceSub, Nat.reduceEqDiff, Nat.reduceLT, Nat.reduceLeDiff, Nat.reduceBEq, reduceIte, reduceCtorEq, Int.reduceAdd, Int.reduceLT, Int.reduceLE, Int.reduceGT, Int.reduceGE, Int.reduceEq, Int.reduceNe, Int.reduceBEq, Int.reduceBNe, Int.reduceToNat, Int.reduceNeg]
  (repeat (with_reducible refine And.intro (by first | omega | (simp_all; done) | grind) ?_)); refine callO_pure (source44_ok name) b_farandoleref44_Source (fun h => by first | exact h | (simp only [h, Bool.and_self, Bool.and_true])) (fun _ => by first | exact ⟨matchA_refl, trivial⟩ | exact ⟨matchA_refl, matchA_refl, trivial⟩ | exact ⟨matchA_refl, matchA_refl, matchA_refl, trivial⟩ | simp only [encS, encSmp, go_sem, Nat.reduceAdd, Nat.reduceMul, Nat.reduceSub, Nat.reduceEqDiff, Nat.reduceLT, Nat.reduceLeDiff, Nat.reduceBEq, reduceIte, reduceCtorEq, Int.reduceAdd, Int.reduceLT, Int.reduceLE, Int.reduceGT, Int.reduceGE, Int.reduceEq, Int.reduceNe, Int.reduceBEq, Int.reduceBNe, Int.reduceToNat, Int.reduceNeg]) (by simp only [go_sem, Nat.reduceAdd, Nat.reduceMul, Nat.reduceSub, Nat.reduceEqDiff, Nat.reduceLT, Nat.reduceLeDiff, Nat.reduceBEq, reduceIte, reduceCtorEq, Int.reduceAdd, Int.reduceLT, Int.reduceLE, Int.reduceGT, Int.reduceGE, Int.reduceEq, Int.reduceNe, Int.reduceBEq, Int.reduceBNe, Int.reduceToNat, Int.reduceNeg]) rfl rfl ?_
  try simp only [go_sem, Nat.reduceAdd, Nat.reduceMul, Nat.reduceSub, Nat.reduceEqDiff, Nat.reduceLT, Nat.reduceLeDiff, Nat.reduceBEq, reduceIte, reduceCtorEq, Int.reduceAdd, Int.reduceLT, Int.reduceLE, Int.reduceGT, Int.reduceGE, Int.reduceEq, Int.reduceNe, Int.reduceBEq, Int.reduceBNe, Int.reduceToNat, Int.reduceNeg]
  (repeat (with_reducible refine And.intro (by first | omega | (simp_all; done) | grind) ?_)); refine callO_pure (errors_ok) b_samples_Errors (fun h => by first | exact h | (simp only [h, Bool.and_self, Bool.and_true])) (fun _ => by first | exact ⟨matchA_refl, trivial⟩ | exact ⟨matchA_refl, matchA_refl, trivial⟩ | exact ⟨matchA_refl, matchA_refl, matchA_refl, trivial⟩ | simp only [encS, encSmp, go_sem, Nat.reduceAdd, Nat.reduceMul, Nat.reduceSub, Nat.reduceEqDiff, Nat.reduceLT, Nat.reduceLeDiff, Nat.reduceBEq, reduceIte, reduceCtorEq, Int.reduceAdd, Int.reduceLT, Int.reduceLE, Int.reduceGT, Int.reduceGE, Int.reduceEq, Int.reduceNe, Int.reduceBEq, Int.reduceBNe, Int.reduceToNat, Int.reduceNeg]) (by simp only [go_sem, Nat.reduceAdd, Nat.reduceMul, Nat.reduceSub, Nat.reduceEqDiff, Nat.reduceLT, Nat.reduceLeDiff, Nat.reduceBEq, reduceIte, reduceCtorEq, Int.reduceAdd, Int.reduceLT, Int.reduceLE, Int.reduceGT, Int.reduceGE, Int.reduceEq, Int.reduceNe, Int.reduceBEq, Int.reduceBNe, Int.reduceToNat, Int.reduceNeg]) rfl rfl ?_
  try simp only [go_sem, Nat.reduceAdd, Nat.reduceMul, Nat.reduceSub, Nat.reduceEqDiff, Nat.reduceLT, Nat.reduceLeDiff, Nat.reduceBEq, reduceIte, reduceCtorEq, Int.reduceAdd, Int.reduceLT, Int.reduceLE, Int.reduceGT, Int.reduceGE, Int.reduceEq, Int.reduceNe, Int.reduceBEq, Int.reduceBNe, Int.reduceToNat, Int.reduceNeg]
  (repeat (with_reducible refine And.intro (by first | omega | (simp_all; done) | grind) ?_)); refine callO_pure (errors44_ok) b_farandoleref44_Errors (fun h => by first | exact h | (simp only [h, Bool.and_self, Bool.and_true])) (fun _ => by first | exact ⟨matchA_refl, trivial⟩ | exact ⟨matchA_refl, matchA_refl, trivial⟩ | exact ⟨matchA_refl, matchA_refl, matchA_refl, trivial⟩ | simp only [encS, encSmp, go_sem, Nat.reduceAdd, Nat.reduceMul, Nat.reduceSub, Nat.reduceEqDiff, Nat.reduceLT, Nat.reduceLeDiff, Nat.reduceBEq, reduceIte, reduceCtorEq, Int.reduceAdd, Int.reduceLT, Int.reduceLE, Int.reduceGT, Int.reduceGE, Int.reduceEq, Int.reduceNe, Int.reduceBEq, Int.reduceBNe, Int.reduceToNat, Int.reduceNeg]) (by simp only [go_sem, Nat.reduceAdd, Nat.reduceMul, Nat.reduceSub, Nat.reduceEqDiff, Nat.reduceLT, Nat.reduceLeDiff, Nat.reduceBEq, reduceIte, reduceCtorEq, Int.reduceAdd, Int.reduceLT, Int.reduceLE, Int.reduceGT, Int.reduceGE, Int.reduceEq, Int.reduceNe, Int.reduceBEq, Int.reduceBNe, Int.reduceToNat, Int.reduceNeg]) rfl rfl ?_
  try simp only [go_sem, Nat.reduceAdd, Nat.reduceMul, Nat.reduceSub, Nat.reduceEqDiff, Nat.reduceLT, Nat.reduceLeDiff, Nat.reduceBEq, reduceIte, reduceCtorEq, Int.reduceAdd, Int.reduceLT, Int.reduceLE, Int.reduceGT, Int.reduceGE, Int.reduceEq, Int.reduceNe, Int.reduceBEq, Int.reduceBNe, Int.reduceToNat, Int.reduceNeg]
  (repeat (with_reducible refine And.intro (by first | omega | (simp_all; done) | grind) ?_)); refine callO_pure (svc_ok name) b_samples_Services (fun h => by first | exact h | (simp only [h, Bool.and_self, Bool.and_true])) (fun _ => by first | exact ⟨matchA_refl, trivial⟩ | exact ⟨matchA_refl, matchA_refl, trivial⟩ | exact ⟨matchA_refl, matchA_refl, matchA_refl, trivial⟩ | simp only [encS, encSmp, go_sem, Nat.reduceAdd, Nat.reduceMul, Nat.reduceSub, Nat.reduceEqDiff, Nat.reduceLT, Nat.reduceLeDiff, Nat.reduceBEq, reduceIte, reduceCtorEq, Int.reduceAdd, Int.reduceLT, Int.reduceLE, Int.reduceGT, Int.reduceGE, Int.reduceEq, Int.reduceNe, Int.reduceBEq, Int.reduceBNe, Int.reduceToNat, Int.reduceNeg]) (by simp only [go_sem, Nat.reduceAdd, Nat.reduceMul, Nat.reduceSub, Nat.reduceEqDiff, Nat.reduceLT, Nat.reduceLeDiff, Nat.reduceBEq, reduceIte, reduceCtorEq, Int.reduceAdd, Int.reduceLT, Int.reduceLE, Int.reduceGT, Int.reduceGE, Int.reduceEq, Int.reduceNe, Int.reduceBEq, Int.reduceBNe, Int.reduceToNat, Int.reduceNeg]) rfl rfl ?_
  try simp only [go_sem, Nat.reduceAdd, Nat.reduceMul, Nat.reduceSub, Nat.reduceEqDiff, Nat.reduceLT, Nat.reduceLeDiff, Nat.reduceBEq, reduceIte, reduceCtorEq, Int.reduceAdd, Int.reduceLT, Int.reduceLE, Int.reduceGT, Int.reduceGE, Int.reduceEq, Int.reduceNe, Int.reduceBEq, Int.reduceBNe, Int.reduceToNat, Int.reduceNeg]
  (repeat (with_reducible refine And.intro (by first | omega | (simp_all; done) | grind) ?_)); refine callO_pure (svc44f_ok name) b_farandoleref44_Services (fun h => by first | exact h | (simp only [h, Bool.and_self, Bool.and_true])) (fun _ => by first | exact ⟨matchA_refl, trivial⟩ | exact ⟨matchA_refl, matchA_refl, trivial⟩ | exact ⟨matchA_refl, matchA_refl, matchA_refl, trivial⟩ | simp only [encS, encSmp, go_sem, Nat.reduceAdd, Nat.reduceMul, Nat.reduceSub, Nat.reduceEqDiff, Nat.reduceLT, Nat.reduceLeDiff, Nat.reduceBEq, reduceIte, reduceCtorEq, Int.reduceAdd, Int.reduceLT, Int.reduceLE, Int.reduceGT, Int.reduceGE, Int.reduceEq, Int.reduceNe, Int.reduceBEq, Int.reduceBNe, Int.reduceToNat, Int.reduceNeg]) (by simp only [go_sem, Nat.reduceAdd, Nat.reduceMul, Nat.reduceSub, Nat.reduceEqDiff, Nat.reduceLT, Nat.reduceLeDiff, Nat.reduceBEq, reduceIte, reduceCtorEq, Int.reduceAdd, Int.reduceLT, Int.reduceLE, Int.reduceGT, Int.reduceGE, Int.reduceEq, Int.reduceNe, Int.reduceBEq, Int.reduceBNe, Int.reduceToNat, Int.reduceNeg]) rfl rfl ?_
  try simp only [go_sem, Nat.reduceAdd, Nat.reduceMul, Nat.reduceSub, Nat.reduceEqDiff, Nat.reduceLT, Nat.reduceLeDiff, Nat.reduceBEq, reduceIte, reduceCtorEq, Int.reduceAdd, Int.reduceLT, Int.reduceLE, Int.reduceGT, Int.reduceGE, Int.reduceEq, Int.reduceNe, Int.reduceBEq, Int.reduceBNe, Int.reduceToNat, Int.reduceNeg]
  (repeat (with_reducible refine And.intro (by first | omega | (simp_all; done) | grind) ?_)); refine callO_pure (cs) b_farandoleref44_Same (fun h => by first | exact h | (simp only [h, Bool.and_self, Bool.and_true])) (fun _ => by first | exact ⟨matchA_refl, trivial⟩ | exact ⟨matchA_refl, matchA_refl, trivial⟩ | exact ⟨matchA_refl, matchA_refl, matchA_refl, trivial⟩ | simp only [encS, encSmp, go_sem, Nat.reduceAdd, Nat.reduceMul, Nat.reduceSub, Nat.reduceEqDiff, Nat.reduceLT, Nat.reduceLeDiff, Nat.reduceBEq, reduceIte, reduceCtorEq, Int.reduceAdd, Int.reduceLT, Int.reduceLE, Int.reduceGT, Int.reduceGE, Int.reduceEq, Int.reduceNe, Int.reduceBEq, Int.reduceBNe, Int.reduceToNat, Int.reduceNeg]) (by simp only [go_sem, Nat.reduceAdd, Nat.reduceMul, Nat.reduceSub, Nat.reduceEqDiff, Nat.reduceLT, Nat.reduceLeDiff, Nat.reduceBEq, reduceIte, reduceCtorEq, Int.reduceAdd, Int.reduceLT, Int.reduceLE, Int.reduceGT, Int.reduceGE, Int.reduceEq, Int.reduceNe, Int.reduceBEq, Int.reduceBNe, Int.reduceToNat, Int.reduceNeg]) rfl rfl ?_
  try simp only [go_sem, Nat.reduceAdd, Nat.reduceMul, Nat.reduceSub, Nat.reduceEqDiff, Nat.reduceLT, Nat.reduceLeDiff, Nat.reduceBEq, reduceIte, reduceCtorEq, Int.reduceAdd, Int.reduceLT, Int.reduceLE, Int.reduceGT, Int.reduceGE, Int.reduceEq, Int.reduceNe, Int.reduceBEq, Int.reduceBNe, Int.reduceToNat, Int.reduceNeg]
  (repeat (with_reducible refine And.intro (by first | omega | (simp_all; done) | grind) ?_)); refine AWp_cond _ rfl rfl (fun h => Bool.noConfusion h) (fun _ => ?_)
  try simp only [go_sem, Nat.reduceAdd, Nat.reduceMul, Nat.reduceSub, Nat.reduceEqDiff, Nat.reduceLT, Nat.reduceLeDiff, Nat.reduceBEq, reduceIte, reduceCtorEq, Int.reduceAdd, Int.reduceLT, Int.reduceLE, Int.reduceGT, Int.reduceGE, Int.reduceEq, Int.reduceNe, Int.reduceBEq, Int.reduceBNe, Int.reduceToNat, Int.reduceNeg]
  refine AWp_loop (fun i => Serr i name) (fun i => allR.length - i.val) ⟨0, Nat.zero_le _⟩ ?_ (fun i => ?_)
  · try simp only [Serr, go_sem, Nat.reduceAdd, Nat.reduceMul, Nat.reduceSub, Nat.reduceEqDiff, Nat.reduceLT, Nat.reduceLeDiff, Nat.reduceBEq, reduceIte, reduceCtorEq, Int.reduceAdd, Int.reduceLT, Int.reduceLE, Int.reduceGT, Int.reduceGE, Int.reduceEq, Int.reduceNe, Int.reduceBEq, Int.reduceBNe, Int.reduceToNat, Int.reduceNeg]
  obtain ⟨i, hi⟩ := i
  try simp only [Serr, go_sem, Nat.reduceAdd, Nat.reduceMul, Nat.reduceSub, Nat.reduceEqDiff, Nat.reduceLT, Nat.reduceLeDiff, Nat.reduceBEq, reduceIte, reduceCtorEq, Int.reduceAdd, Int.reduceLT, Int.reduceLE, Int.reduceGT, Int.reduceGE, Int.reduceEq, Int.reduceNe, Int.reduceBEq, Int.reduceBNe, Int.reduceToNat, Int.reduceNeg]
  (repeat (with_reducible refine And.intro (by first | omega | (simp_all; done) | grind) ?_)); refine AWp_cond _ rfl rfl (fun h => ?_) (fun h => ?_)
  · have hil : i < (allR.map Rej.e).length := by simpa using h
    simp only [getD_map encI (allR.map Rej.e) hil, encI, go_sem, Nat.reduceAdd, Nat.reduceMul, Nat.reduceSub, Nat.reduceEqDiff, Nat.reduceLT, Nat.reduceLeDiff, Nat.reduceBEq, reduceIte, reduceCtorEq, Int.reduceAdd, Int.reduceLT, Int.reduceLE, Int.reduceGT, Int.reduceGE, Int.reduceEq, Int.reduceNe, Int.reduceBEq, Int.reduceBNe, Int.reduceToNat, Int.reduceNeg]
    (repeat (with_reducible refine And.intro (by first | omega | (simp_all; done) | grind) ?_)); refine AWp_cond _ rfl rfl (fun h => Bool.noConfusion h) (fun _ => ?_)
    try simp only [go_sem, Nat.reduceAdd, Nat.reduceMul, Nat.reduceSub, Nat.reduceEqDiff, Nat.reduceLT, Nat.reduceLeDiff, Nat.reduceBEq, reduceIte, reduceCtorEq, Int.reduceAdd, Int.reduceLT, Int.reduceLE, Int.reduceGT, Int.reduceGE, Int.reduceEq, Int.reduceNe, Int.reduceBEq, Int.reduceBNe, Int.reduceToNat, Int.reduceNeg]
    refine ⟨⟨i + 1, by rw [List.length_map] at hil; omega⟩, ?_, by rw [List.length_map] at hil; dsimp only; omega⟩
    simp only [Serr, wrap_succ (show i < 9223372036854775807 by omega), go_sem, Nat.reduceAdd, Nat.reduceMul, Nat.reduceSub, Nat.reduceEqDiff, Nat.reduceLT, Nat.reduceLeDiff, Nat.reduceBEq, reduceIte, reduceCtorEq, Int.reduceAdd, Int.reduceLT, Int.reduceLE, Int.reduceGT, Int.reduceGE, Int.reduceEq, Int.reduceNe, Int.reduceBEq, Int.reduceBNe, Int.reduceToNat, Int.reduceNeg]
  · try simp only [go_sem, Nat.reduceAdd, Nat.reduceMul, Nat.reduceSub, Nat.reduceEqDiff, Nat.reduceLT, Nat.reduceLeDiff, Nat.reduceBEq, reduceIte, reduceCtorEq, Int.reduceAdd, Int.reduceLT, Int.reduceLE, Int.reduceGT, Int.reduceGE, Int.reduceEq, Int.reduceNe, Int.reduceBEq, Int.reduceBNe, Int.reduceToNat, Int.reduceNeg]
    (repeat (with_reducible refine And.intro (by first | omega | (simp_all; done) | grind) ?_)); refine callO_pure (names_ok) b_samples_Names (fun h => by first | exact h | (simp only [h, Bool.and_self, Bool.and_true])) (fun _ => by first | exact ⟨matchA_refl, trivial⟩ | exact ⟨matchA_refl, matchA_refl, trivial⟩ | exact ⟨matchA_refl, matchA_refl, matchA_refl, trivial⟩ | simp only [encS, encSmp, go_sem, Nat.reduceAdd, Nat.reduceMul, Nat.reduceSub, Nat.reduceEqDiff, Nat.reduceLT, Nat.reduceLeDiff, Nat.reduceBEq, reduceIte, reduceCtorEq, Int.reduceAdd, Int.reduceLT, Int.reduceLE, Int.reduceGT, Int.reduceGE, Int.reduceEq, Int.reduceNe, Int.reduceBEq, Int.reduceBNe, Int.reduceToNat, Int.reduceNeg]) (by simp only [go_sem, Nat.reduceAdd, Nat.reduceMul, Nat.reduceSub, Nat.reduceEqDiff, Nat.reduceLT, Nat.reduceLeDiff, Nat.reduceBEq, reduceIte, reduceCtorEq, Int.reduceAdd, Int.reduceLT, Int.reduceLE, Int.reduceGT, Int.reduceGE, Int.reduceEq, Int.reduceNe, Int.reduceBEq, Int.reduceBNe, Int.reduceToNat, Int.reduceNeg]) rfl rfl ?_
    try simp only [go_sem, Nat.reduceAdd, Nat.reduceMul, Nat.reduceSub, Nat.reduceEqDiff, Nat.reduceLT, Nat.reduceLeDiff, Nat.reduceBEq, reduceIte, reduceCtorEq, Int.reduceAdd, Int.reduceLT, Int.reduceLE, Int.reduceGT, Int.reduceGE, Int.reduceEq, Int.reduceNe, Int.reduceBEq, Int.reduceBNe, Int.reduceToNat, Int.reduceNeg]
    (repeat (with_reducible refine And.intro (by first | omega | (simp_all; done) | grind) ?_)); refine callO_pure (names44_ok) b_farandoleref44_Names (fun h => by first | exact h | (simp only [h, Bool.and_self, Bool.and_true])) (fun _ => by first | exact ⟨matchA_refl, trivial⟩ | exact ⟨matchA_refl, matchA_refl, trivial⟩ | exact ⟨matchA_refl, matchA_refl, matchA_refl, trivial⟩ | simp only [encS, encSmp, go_sem, Nat.reduceAdd, Nat.reduceMul, Nat.reduceSub, Nat.reduceEqDiff, Nat.reduceLT, Nat.reduceLeDiff, Nat.reduceBEq, reduceIte, reduceCtorEq, Int.reduceAdd, Int.reduceLT, Int.reduceLE, Int.reduceGT, Int.reduceGE, Int.reduceEq, Int.reduceNe, Int.reduceBEq, Int.reduceBNe, Int.reduceToNat, Int.reduceNeg]) (by simp only [go_sem, Nat.reduceAdd, Nat.reduceMul, Nat.reduceSub, Nat.reduceEqDiff, Nat.reduceLT, Nat.reduceLeDiff, Nat.reduceBEq, reduceIte, reduceCtorEq, Int.reduceAdd, Int.reduceLT, Int.reduceLE, Int.reduceGT, Int.reduceGE, Int.reduceEq, Int.reduceNe, Int.reduceBEq, Int.reduceBNe, Int.reduceToNat, Int.reduceNeg]) rfl rfl ?_
    try simp only [go_sem, Nat.reduceAdd, Nat.reduceMul, Nat.reduceSub, Nat.reduceEqDiff, Nat.reduceLT, Nat.reduceLeDiff, Nat.reduceBEq, reduceIte, reduceCtorEq, Int.reduceAdd, Int.reduceLT, Int.reduceLE, Int.reduceGT, Int.reduceGE, Int.reduceEq, Int.reduceNe, Int.reduceBEq, Int.reduceBNe, Int.reduceToNat, Int.reduceNeg]
    (repeat (with_reducible refine And.intro (by first | omega | (simp_all; done) | grind) ?_)); refine callO_pure (c1) b_farandoleref44_Same (fun h => by first | exact h | (simp only [h, Bool.and_self, Bool.and_true])) (fun _ => by first | exact ⟨matchA_refl, trivial⟩ | exact ⟨matchA_refl, matchA_refl, trivial⟩ | exact ⟨matchA_refl, matchA_refl, matchA_refl, trivial⟩ | simp only [encS, encSmp, go_sem, Nat.reduceAdd, Nat.reduceMul, Nat.reduceSub, Nat.reduceEqDiff, Nat.reduceLT, Nat.reduceLeDiff, Nat.reduceBEq, reduceIte, reduceCtorEq, Int.reduceAdd, Int.reduceLT, Int.reduceLE, Int.reduceGT, Int.reduceGE, Int.reduceEq, Int.reduceNe, Int.reduceBEq, Int.reduceBNe, Int.reduceToNat, Int.reduceNeg]) (by simp only [go_sem, Nat.reduceAdd, Nat.reduceMul, Nat.reduceSub, Nat.reduceEqDiff, Nat.reduceLT, Nat.reduceLeDiff, Nat.reduceBEq, reduceIte, reduceCtorEq, Int.reduceAdd, Int.reduceLT, Int.reduceLE, Int.reduceGT, Int.reduceGE, Int.reduceEq, Int.reduceNe, Int.reduceBEq, Int.reduceBNe, Int.reduceToNat, Int.reduceNeg]) rfl rfl ?_
    try simp only [go_sem, Nat.reduceAdd, Nat.reduceMul, Nat.reduceSub, Nat.reduceEqDiff, Nat.reduceLT, Nat.reduceLeDiff, Nat.reduceBEq, reduceIte, reduceCtorEq, Int.reduceAdd, Int.reduceLT, Int.reduceLE, Int.reduceGT, Int.reduceGE, Int.reduceEq, Int.reduceNe, Int.reduceBEq, Int.reduceBNe, Int.reduceToNat, Int.reduceNeg]
    (repeat (with_reducible refine And.intro (by first | omega | (simp_all; done) | grind) ?_)); refine callO_pure (protocols_ok) b_samples_Protocols (fun h => by first | exact h | (simp only [h, Bool.and_self, Bool.and_true])) (fun _ => by first | exact ⟨matchA_refl, trivial⟩ | exact ⟨matchA_refl, matchA_refl, trivial⟩ | exact ⟨matchA_refl, matchA_refl, matchA_refl, trivial⟩ | simp only [encS, encSmp, go_sem, Nat.reduceAdd, Nat.reduceMul, Nat.reduceSub, Nat.reduceEqDiff, Nat.reduceLT, Nat.reduceLeDiff, Nat.reduceBEq, reduceIte, reduceCtorEq, Int.reduceAdd, Int.reduceLT, Int.reduceLE, Int.reduceGT, Int.reduceGE, Int.reduceEq, Int.reduceNe, Int.reduceBEq, Int.reduceBNe, Int.reduceToNat, Int.reduceNeg]) (by simp only [go_sem, Nat.reduceAdd, Nat.reduceMul, Nat.reduceSub, Nat.reduceEqDiff, Nat.reduceLT, Nat.reduceLeDiff, Nat.reduceBEq, reduceIte, reduceCtorEq, Int.reduceAdd, Int.reduceLT, Int.reduceLE, Int.reduceGT, Int.reduceGE, Int.reduceEq, Int.reduceNe, Int.reduceBEq, Int.reduceBNe, Int.reduceToNat, Int.reduceNeg]) rfl rfl ?_
    try simp only [go_sem, Nat.reduceAdd, Nat.reduceMul, Nat.reduceSub, Nat.reduceEqDiff, Nat.reduceLT, Nat.reduceLeDiff, Nat.reduceBEq, reduceIte, reduceCtorEq, Int.reduceAdd, Int.reduceLT, Int.reduceLE, Int.reduceGT, Int.reduceGE, Int.reduceEq, Int.reduceNe, Int.reduceBEq, Int.reduceBNe, Int.reduceToNat, Int.reduceNeg]
    (repeat (with_reducible refine And.intro (by first | omega | (simp_all; done) | grind) ?_)); refine callO_pure (protocols44_ok) b_farandoleref44_Protocols (fun h => by first | exact h | (simp only [h, Bool.and_self, Bool.and_true])) (fun _ => by first | exact ⟨matchA_refl, trivial⟩ | exact ⟨matchA_refl, matchA_refl, trivial⟩ | exact ⟨matchA_refl, matchA_refl, matchA_refl, trivial⟩ | simp only [encS, encSmp, go_sem, Nat.reduceAdd, Nat.reduceMul, Nat.reduceSub, Nat.reduceEqDiff, Nat.reduceLT, Nat.reduceLeDiff, Nat.reduceBEq, reduceIte, reduceCtorEq, Int.reduceAdd, Int.reduceLT, Int.reduceLE, Int.reduceGT, Int.reduceGE, Int.reduceEq, Int.reduceNe, Int.reduceBEq, Int.reduceBNe, Int.reduceToNat, Int.reduceNeg]) (by simp only [go_sem, Nat.reduceAdd, Nat.reduceMul, Nat.reduceSub, Nat.reduceEqDiff, Nat.reduceLT, Nat.reduceLeDiff, Nat.reduceBEq, reduceIte, reduceCtorEq, Int.reduceAdd, Int.reduceLT, Int.reduceLE, Int.reduceGT, Int.reduceGE, Int.reduceEq, Int.reduceNe, Int.reduceBEq, Int.reduceBNe, Int.reduceToNat, Int.reduceNeg]) rfl rfl ?_
    try simp only [go_sem, Nat.reduceAdd, Nat.reduceMul, Nat.reduceSub, Nat.reduceEqDiff, Nat.reduceLT, Nat.reduceLeDiff, Nat.reduceBEq, reduceIte, reduceCtorEq, Int.reduceAdd, Int.reduceLT, Int.reduceLE, Int.reduceGT, Int.reduceGE, Int.reduceEq, Int.reduceNe, Int.reduceBEq, Int.reduceBNe, Int.reduceToNat, Int.reduceNeg]
    (repeat (with_reducible refine And.intro (by first | omega | (simp_all; done) | grind) ?_)); refine callO_pure (c2) b_farandoleref44_Same (fun h => by first | exact h | (simp only [h, Bool.and_self, Bool.and_true])) (fun _ => by first | exact ⟨matchA_refl, trivial⟩ | exact ⟨matchA_refl, matchA_refl, trivial⟩ | exact ⟨matchA_refl, matchA_refl, matchA_refl, trivial⟩ | simp only [encS, encSmp, go_sem, Nat.reduceAdd, Nat.reduceMul, Nat.reduceSub, Nat.reduceEqDiff, Nat.reduceLT, Nat.reduceLeDiff, Nat.reduceBEq, reduceIte, reduceCtorEq, Int.reduceAdd, Int.reduceLT, Int.reduceLE, Int.reduceGT, Int.reduceGE, Int.reduceEq, Int.reduceNe, Int.reduceBEq, Int.reduceBNe, Int.reduceToNat, Int.reduceNeg]) (by simp only [go_sem, Nat.reduceAdd, Nat.reduceMul, Nat.reduceSub, Nat.reduceEqDiff, Nat.reduceLT, Nat.reduceLeDiff, Nat.reduceBEq, reduceIte, reduceCtorEq, Int.reduceAdd, Int.reduceLT, Int.reduceLE, Int.reduceGT, Int.reduceGE, Int.reduceEq, Int.reduceNe, Int.reduceBEq, Int.reduceBNe, Int.reduceToNat, Int.reduceNeg]) rfl rfl ?_
    try simp only [go_sem, Nat.reduceAdd, Nat.reduceMul, Nat.reduceSub, Nat.reduceEqDiff, Nat.reduceLT, Nat.reduceLeDiff, Nat.reduceBEq, reduceIte, reduceCtorEq, Int.reduceAdd, Int.reduceLT, Int.reduceLE, Int.reduceGT, Int.reduceGE, Int.reduceEq, Int.reduceNe, Int.reduceBEq, Int.reduceBNe, Int.reduceToNat, Int.reduceNeg]
    (repeat (with_reducible refine And.intro (by first | omega | (simp_all; done) | grind) ?_)); refine callO_pure (rejected_ok) b_samples_Rejected (fun h => by first | exact h | (simp only [h, Bool.and_self, Bool.and_true])) (fun _ => by first | exact ⟨matchA_refl, trivial⟩ | exact ⟨matchA_refl, matchA_refl, trivial⟩ | exact ⟨matchA_refl, matchA_refl, matchA_refl, trivial⟩ | simp only [encS, encSmp, go_sem, Nat.reduceAdd, Nat.reduceMul, Nat.reduceSub, Nat.reduceEqDiff, Nat.reduceLT, Nat.reduceLeDiff, Nat.reduceBEq, reduceIte, reduceCtorEq, Int.reduceAdd, Int.reduceLT, Int.reduceLE, Int.reduceGT, Int.reduceGE, Int.reduceEq, Int.reduceNe, Int.reduceBEq, Int.reduceBNe, Int.reduceToNat, Int.reduceNeg]) (by simp only [go_sem, Nat.reduceAdd, Nat.reduceMul, Nat.reduceSub, Nat.reduceEqDiff, Nat.reduceLT, Nat.reduceLeDiff, Nat.reduceBEq, reduceIte, reduceCtorEq, Int.reduceAdd, Int.reduceLT, Int.reduceLE, Int.reduceGT, Int.reduceGE, Int.reduceEq, Int.reduceNe, Int.reduceBEq, Int.reduceBNe, Int.reduceToNat, Int.reduceNeg]) rfl rfl ?_
    try simp only [go_sem, Nat.reduceAdd, Nat.reduceMul, Nat.reduceSub, Nat.reduceEqDiff, Nat.reduceLT, Nat.reduceLeDiff, Nat.reduceBEq, reduceIte, reduceCtorEq, Int.reduceAdd, Int.reduceLT, Int.reduceLE, Int.reduceGT, Int.reduceGE, Int.reduceEq, Int.reduceNe, Int.reduceBEq, Int.reduceBNe, Int.reduceToNat, Int.reduceNeg]
    (repeat (with_reducible refine And.intro (by first | omega | (simp_all; done) | grind) ?_)); refine callO_pure (rejected44_ok) b_farandoleref44_Rejected (fun h => by first | exact h | (simp only [h, Bool.and_self, Bool.and_true])) (fun _ => by first | exact ⟨matchA_refl, trivial⟩ | exact ⟨matchA_refl, matchA_refl, trivial⟩ | exact ⟨matchA_refl, matchA_refl, matchA_refl, trivial⟩ | simp only [encS, encSmp, go_sem, Nat.reduceAdd, Nat.reduceMul, Nat.reduceSub, Nat.reduceEqDiff, Nat.reduceLT, Nat.reduceLeDiff, Nat.reduceBEq, reduceIte, reduceCtorEq, Int.reduceAdd, Int.reduceLT, Int.reduceLE, Int.reduceGT, Int.reduceGE, Int.reduceEq, Int.reduceNe, Int.reduceBEq, Int.reduceBNe, Int.reduceToNat, Int.reduceNeg]) (by simp only [go_sem, Nat.reduceAdd, Nat.reduceMul, Nat.reduceSub, Nat.reduceEqDiff, Nat.reduceLT, Nat.reduceLeDiff, Nat.reduceBEq, reduceIte, reduceCtorEq, Int.reduceAdd, Int.reduceLT, Int.reduceLE, Int.reduceGT, Int.reduceGE, Int.reduceEq, Int.reduceNe, Int.reduceBEq, Int.reduceBNe, Int.reduceToNat, Int.reduceNeg]) rfl rfl ?_
    try simp only [go_sem, Nat.reduceAdd, Nat.reduceMul, Nat.reduceSub, Nat.reduceEqDiff, Nat.reduceLT, Nat.reduceLeDiff, Nat.reduceBEq, reduceIte, reduceCtorEq, Int.reduceAdd, Int.reduceLT, Int.reduceLE, Int.reduceGT, Int.reduceGE, Int.reduceEq, Int.reduceNe, Int.reduceBEq, Int.reduceBNe, Int.reduceToNat, Int.reduceNeg]
    (repeat (with_reducible refine And.intro (by first | omega | (simp_all; done) | grind) ?_)); refine callO_pure (c3) b_farandoleref44_Same (fun h => by first | exact h | (simp only [h, Bool.and_self, Bool.and_true])) (fun _ => by first | exact ⟨matchA_refl, trivial⟩ | exact ⟨matchA_refl, matchA_refl, trivial⟩ | exact ⟨matchA_refl, matchA_refl, matchA_refl, trivial⟩ | simp only [encS, encSmp, go_sem, Nat.reduceAdd, Nat.reduceMul, Nat.reduceSub, Nat.reduceEqDiff, Nat.reduceLT, Nat.reduceLeDiff, Nat.reduceBEq, reduceIte, reduceCtorEq, Int.reduceAdd, Int.reduceLT, Int.reduceLE, Int.reduceGT, Int.reduceGE, Int.reduceEq, Int.reduceNe, Int.reduceBEq, Int.reduceBNe, Int.reduceToNat, Int.reduceNeg]) (by simp only [go_sem, Nat.reduceAdd, Nat.reduceMul, Nat.reduceSub, Nat.reduceEqDiff, Nat.reduceLT, Nat.reduceLeDiff, Nat.reduceBEq, reduceIte, reduceCtorEq, Int.reduceAdd, Int.reduceLT, Int.reduceLE, Int.reduceGT, Int.reduceGE, Int.reduceEq, Int.reduceNe, Int.reduceBEq, Int.reduceBNe, Int.reduceToNat, Int.reduceNeg]) rfl rfl ?_
    try simp only [go_sem, Nat.reduceAdd, Nat.reduceMul, Nat.reduceSub, Nat.reduceEqDiff, Nat.reduceLT, Nat.reduceLeDiff, Nat.reduceBEq, reduceIte, reduceCtorEq, Int.reduceAdd, Int.reduceLT, Int.reduceLE, Int.reduceGT, Int.reduceGE, Int.reduceEq, Int.reduceNe, Int.reduceBEq, Int.reduceBNe, Int.reduceToNat, Int.reduceNeg]
end Go.Proofs.Ythcpckcgjplhiaa
