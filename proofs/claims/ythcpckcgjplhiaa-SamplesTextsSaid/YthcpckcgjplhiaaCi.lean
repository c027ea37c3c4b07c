/- The reference's queues. -/
import Derived.Test.YthcpckcgjplhiaaCh
namespace Go.Proofs.Ythcpckcgjplhiaa
open Go.Abs
set_option linter.unusedSimpArgs false
-- ENC encPk encQ

noncomputable def s_farandoleref51_alike_r0 : List SOper := [
  ⟨(some 2), .box 2 (.t 0), none⟩,
  ⟨(some 3), .box 1 (.t 1), none⟩,
  ⟨(some 4), .mov (.k (.d (.bool false))), none⟩]
noncomputable def s_farandoleref51_alike_r1 : List SOper := [
  ⟨(some 5), .faddr 1 (.t 2), none⟩,
  ⟨(some 6), .load none (.t 5), none⟩,
  ⟨(some 7), .faddr 1 (.t 3), none⟩,
  ⟨(some 8), .load none (.t 7), none⟩,
  ⟨(some 9), .bin .eql (.t 6) (.t 8), none⟩,
  ⟨(some 10), .mov (.t 9), none⟩,
  ⟨(some 11), .faddr 3 (.t 2), (some (10, true))⟩,
  ⟨(some 12), .load none (.t 11), (some (10, true))⟩,
  ⟨(some 13), .faddr 3 (.t 3), (some (10, true))⟩,
  ⟨(some 14), .load none (.t 13), (some (10, true))⟩,
  ⟨(some 15), .bin .eql (.t 12) (.t 14), (some (10, true))⟩,
  ⟨(some 16), .pick (.t 10) (.t 15) (.k (.d (.bool false))), none⟩,
  ⟨(some 17), .mov (.t 16), none⟩,
  ⟨(some 18), .faddr 4 (.t 2), (some (17, true))⟩,
  ⟨(some 19), .load none (.t 18), (some (17, true))⟩,
  ⟨(some 20), .faddr 4 (.t 3), (some (17, true))⟩,
  ⟨(some 21), .load none (.t 20), (some (17, true))⟩,
  ⟨(some 22), .bin .eql (.t 19) (.t 21), (some (17, true))⟩,
  ⟨(some 23), .pick (.t 17) (.t 22) (.k (.d (.bool false))), none⟩,
  ⟨(some 4), .mov (.t 23), none⟩]
noncomputable def s_farandoleref51_alike : SCode := (.seq (.region s_farandoleref51_alike_r0 2 []) (.seq (.region s_farandoleref51_alike_r1 0 []) .ret))
theorem e_farandoleref51_alike {P : Program} {k0 : Nat} {Q : SExit → St → Prop} {st : St} : AWp P k0 s_farandoleref51_alike Q st = AWp P k0 (.seq (.region s_farandoleref51_alike_r0 2 []) (.seq (.region s_farandoleref51_alike_r1 0 []) .ret)) Q st := rfl
theorem u_farandoleref51_alike_r0 {P : Program} {o : Nat} {p : List (Nat × Nat)} {Q : SExit → St → Prop} {st : St} : goReg P s_farandoleref51_alike_r0 o p Q st = goLit P (litOf s_farandoleref51_alike_r0.eq_1) o p Q st := goReg_of _
theorem u_farandoleref51_alike_r1 {P : Program} {o : Nat} {p : List (Nat × Nat)} {Q : SExit → St → Prop} {st : St} : goReg P s_farandoleref51_alike_r1 o p Q st = goLit P (litOf s_farandoleref51_alike_r1.eq_1) o p Q st := goReg_of _
attribute [go_sem] u_farandoleref51_alike_r0 u_farandoleref51_alike_r1 e_farandoleref51_alike
set_option maxRecDepth 100000 in
theorem c_farandoleref51_alike : Try.f76.body.bind (compCode Try.prog Try.f76.ntmps news) = some s_farandoleref51_alike := by kernel_rfl
theorem r_farandoleref51_alike : Try.f76.results.toList.mapM (compRes Try.prog) = some [(.tmp 4)] := by kernel_rfl
theorem n_farandoleref51_alike : Try.f76.ntmps = 24 := by kernel_rfl
theorem b_farandoleref51_alike : (Try.prog.funcs[76]?).any (fun fn => fn.body.isSome && !(fn.name == "runtime.NumGoroutine")) = true := by kernel_rfl
theorem ko_farandoleref51_alike {args : List ASlot} {r : ASlot} {objs objs' : List AObj} (h : AWp Try.prog objs.length s_farandoleref51_alike (bodyQ objs.length [(.tmp 4)] [r] objs') (entrySt args objs)) (hN : args.length ≤ 24 := by simp) (hw : ltB 16 (toksOf args ++ osToks objs) = true := by rfl) : ACall Try.prog 76 args objs r objs' :=
  acall_go (rs := [r]) follows Try.func76 c_farandoleref51_alike r_farandoleref51_alike h (by rw [n_farandoleref51_alike]; exact hN) rfl hw
theorem k_farandoleref51_alike {args : List ASlot} {r : ASlot} (h : AWp Try.prog 0 s_farandoleref51_alike (bodyQ 0 [(.tmp 4)] [r] []) (entrySt args [])) (hN : args.length ≤ 24 := by simp) (hw : ltB 16 (toksOf args ++ osToks []) = true := by rfl) : ACall Try.prog 76 args [] r [] := ko_farandoleref51_alike h hN hw

noncomputable def s_farandoleref51_Valid_r0 : List SOper := [
  ⟨(some 1), .box 1 (.t 0), none⟩,
  ⟨(some 2), .mov (.k (.d (.bool false))), none⟩]
noncomputable def s_farandoleref51_Valid_r1 : List SOper := [
  ⟨(some 5), .faddr 1 (.t 1), none⟩,
  ⟨(some 6), .load none (.t 5), none⟩,
  ⟨(some 7), .bin .lss (.t 6) (.k (.d (.int .i64 0))), none⟩,
  ⟨(some 8), .mov (.t 7), none⟩,
  ⟨(some 9), .faddr 0 (.t 1), (some (8, false))⟩,
  ⟨(some 10), .load none (.t 9), (some (8, false))⟩,
  ⟨(some 11), .faddr 1 (.t 1), (some (8, false))⟩,
  ⟨(some 12), .load none (.t 11), (some (8, false))⟩,
  ⟨(some 13), .bin .lss (.t 10) (.t 12), (some (8, false))⟩,
  ⟨(some 14), .pick (.t 8) (.k (.d (.bool true))) (.t 13), none⟩,
  ⟨(some 15), .mov (.t 14), none⟩,
  ⟨(some 16), .faddr 0 (.t 1), (some (15, false))⟩,
  ⟨(some 17), .load none (.t 16), (some (15, false))⟩,
  ⟨(some 18), .bin .gtr (.t 17) (.k (.d (.int .i64 1099511627776))), (some (15, false))⟩,
  ⟨(some 19), .pick (.t 15) (.k (.d (.bool true))) (.t 18), none⟩,
  ⟨(some 20), .mov (.t 19), none⟩,
  ⟨(some 21), .faddr 2 (.t 1), (some (20, false))⟩,
  ⟨(some 22), .load none (.t 21), (some (20, false))⟩,
  ⟨(some 23), .len (.t 22), (some (20, false))⟩,
  ⟨(some 24), .bin .gtr (.t 23) (.k (.d (.int .i64 4))), (some (20, false))⟩,
  ⟨(some 25), .pick (.t 20) (.k (.d (.bool true))) (.t 24), none⟩,
  ⟨(some 26), .mov (.t 25), none⟩,
  ⟨(some 27), .faddr 2 (.t 1), (some (26, false))⟩,
  ⟨(some 28), .load none (.t 27), (some (26, false))⟩,
  ⟨(some 29), .len (.t 28), (some (26, false))⟩,
  ⟨(some 30), .faddr 0 (.t 1), (some (26, false))⟩,
  ⟨(some 31), .load none (.t 30), (some (26, false))⟩,
  ⟨(some 32), .faddr 1 (.t 1), (some (26, false))⟩,
  ⟨(some 33), .load none (.t 32), (some (26, false))⟩,
  ⟨(some 34), .bin .sub (.t 31) (.t 33), (some (26, false))⟩,
  ⟨(some 35), .bin .neq (.t 29) (.t 34), (some (26, false))⟩,
  ⟨(some 36), .pick (.t 26) (.k (.d (.bool true))) (.t 35), none⟩]
noncomputable def s_farandoleref51_Valid_r2 : List SOper := [
  ⟨(some 2), .mov (.k (.d (.bool false))), none⟩]
noncomputable def s_farandoleref51_Valid_r3 : List SOper := [
  ⟨(some 3), .mov (.k (.d (.int .i64 0))), none⟩]
noncomputable def s_farandoleref51_Valid_r4 : List SOper := [
  ⟨(some 37), .mov (.t 3), none⟩,
  ⟨(some 38), .faddr 2 (.t 1), none⟩,
  ⟨(some 39), .load none (.t 38), none⟩,
  ⟨(some 40), .len (.t 39), none⟩,
  ⟨(some 41), .bin .lss (.t 37) (.t 40), none⟩]
noncomputable def s_farandoleref51_Valid_r5 : List SOper := [
  ⟨(some 44), .faddr 2 (.t 1), none⟩,
  ⟨(some 45), .load none (.t 44), none⟩,
  ⟨(some 46), .mov (.t 3), none⟩,
  ⟨(some 47), .iaddr 9 (.t 45) (.t 46), none⟩,
  ⟨(some 48), .load (some 9) (.t 47), none⟩,
  ⟨(some 4), .alloc 1 [(.d (.int .i64 0)), (.d (.int .i64 0)), (.d (.int .i64 0)), (.d (.int .i64 0)), (.d (.int .i64 0)), (.d (.int .i64 0)), (.d (.int .i64 0)), (.d .nilsl), (.d .nilsl)], none⟩,
  ⟨none, .store (some 9) (.t 4) (.t 48), none⟩]
noncomputable def s_farandoleref51_Valid_r6 : List SOper := [
  ⟨(some 49), .load (some 9) (.t 4), none⟩,
  ⟨(some 50), .call (.k (.d (.func (.func 75) [] []))) [(.t 49)], none⟩,
  ⟨(some 51), .not (.t 50), none⟩,
  ⟨(some 52), .mov (.t 51), none⟩,
  ⟨(some 53), .faddr 0 (.t 4), (some (52, false))⟩,
  ⟨(some 54), .load none (.t 53), (some (52, false))⟩,
  ⟨(some 55), .bin .neq (.t 54) (.k (.d (.int .i64 1))), (some (52, false))⟩,
  ⟨(some 56), .pick (.t 52) (.k (.d (.bool true))) (.t 55), none⟩,
  ⟨(some 57), .mov (.t 56), none⟩,
  ⟨(some 58), .faddr 5 (.t 4), (some (57, false))⟩,
  ⟨(some 59), .load none (.t 58), (some (57, false))⟩,
  ⟨(some 60), .faddr 1 (.t 1), (some (57, false))⟩,
  ⟨(some 61), .load none (.t 60), (some (57, false))⟩,
  ⟨(some 62), .bin .add (.t 61) (.k (.d (.int .i64 1))), (some (57, false))⟩,
  ⟨(some 63), .mov (.t 3), (some (57, false))⟩,
  ⟨(some 64), .bin .add (.t 62) (.t 63), (some (57, false))⟩,
  ⟨(some 65), .bin .neq (.t 59) (.t 64), (some (57, false))⟩,
  ⟨(some 66), .pick (.t 57) (.k (.d (.bool true))) (.t 65), none⟩,
  ⟨(some 67), .mov (.t 66), none⟩,
  ⟨(some 68), .load (some 9) (.t 4), (some (67, false))⟩,
  ⟨(some 69), .faddr 2 (.t 1), (some (67, false))⟩,
  ⟨(some 70), .load none (.t 69), (some (67, false))⟩,
  ⟨(some 71), .iaddr 9 (.t 70) (.k (.d (.int .i64 0))), (some (67, false))⟩,
  ⟨(some 72), .load (some 9) (.t 71), (some (67, false))⟩,
  ⟨(some 73), .call (.k (.d (.func (.func 76) [] []))) [(.t 68), (.t 72)], (some (67, false))⟩,
  ⟨(some 74), .not (.t 73), (some (67, false))⟩,
  ⟨(some 75), .pick (.t 67) (.k (.d (.bool true))) (.t 74), none⟩]
noncomputable def s_farandoleref51_Valid_r7 : List SOper := [
  ⟨(some 2), .mov (.k (.d (.bool false))), none⟩]
noncomputable def s_farandoleref51_Valid_r8 : List SOper := [
  ⟨(some 42), .mov (.t 3), none⟩,
  ⟨(some 43), .bin .add (.t 42) (.k (.d (.int .i64 1))), none⟩,
  ⟨(some 3), .mov (.t 43), none⟩]
noncomputable def s_farandoleref51_Valid_l9 : SCode := (.seq (.seq (.region s_farandoleref51_Valid_r4 0 []) (.cond (.t 41) .skip (.exit 0))) (.seq (.block 1 (.seq (.region s_farandoleref51_Valid_r5 1 []) (.seq (.region s_farandoleref51_Valid_r6 0 []) (.cond (.t 75) (.seq (.region s_farandoleref51_Valid_r7 0 []) .ret) .skip)))) (.region s_farandoleref51_Valid_r8 0 [])))
theorem e_farandoleref51_Valid_l9 {P : Program} {k0 : Nat} {Q : SExit → St → Prop} {st : St} : AWp P k0 s_farandoleref51_Valid_l9 Q st = AWp P k0 (.seq (.seq (.region s_farandoleref51_Valid_r4 0 []) (.cond (.t 41) .skip (.exit 0))) (.seq (.block 1 (.seq (.region s_farandoleref51_Valid_r5 1 []) (.seq (.region s_farandoleref51_Valid_r6 0 []) (.cond (.t 75) (.seq (.region s_farandoleref51_Valid_r7 0 []) .ret) .skip)))) (.region s_farandoleref51_Valid_r8 0 []))) Q st := rfl
noncomputable def s_farandoleref51_Valid_r10 : List SOper := [
  ⟨(some 2), .mov (.k (.d (.bool true))), none⟩]
noncomputable def s_farandoleref51_Valid : SCode := (.seq (.region s_farandoleref51_Valid_r0 1 []) (.seq (.seq (.region s_farandoleref51_Valid_r1 0 []) (.cond (.t 36) (.seq (.region s_farandoleref51_Valid_r2 0 []) .ret) .skip)) (.seq (.seq (.region s_farandoleref51_Valid_r3 0 []) (.block 0 (.loop s_farandoleref51_Valid_l9))) (.seq (.region s_farandoleref51_Valid_r10 0 []) .ret))))
theorem e_farandoleref51_Valid {P : Program} {k0 : Nat} {Q : SExit → St → Prop} {st : St} : AWp P k0 s_farandoleref51_Valid Q st = AWp P k0 (.seq (.region s_farandoleref51_Valid_r0 1 []) (.seq (.seq (.region s_farandoleref51_Valid_r1 0 []) (.cond (.t 36) (.seq (.region s_farandoleref51_Valid_r2 0 []) .ret) .skip)) (.seq (.seq (.region s_farandoleref51_Valid_r3 0 []) (.block 0 (.loop s_farandoleref51_Valid_l9))) (.seq (.region s_farandoleref51_Valid_r10 0 []) .ret)))) Q st := rfl
theorem u_farandoleref51_Valid_r0 {P : Program} {o : Nat} {p : List (Nat × Nat)} {Q : SExit → St → Prop} {st : St} : goReg P s_farandoleref51_Valid_r0 o p Q st = goLit P (litOf s_farandoleref51_Valid_r0.eq_1) o p Q st := goReg_of _
theorem u_farandoleref51_Valid_r1 {P : Program} {o : Nat} {p : List (Nat × Nat)} {Q : SExit → St → Prop} {st : St} : goReg P s_farandoleref51_Valid_r1 o p Q st = goLit P (litOf s_farandoleref51_Valid_r1.eq_1) o p Q st := goReg_of _
theorem u_farandoleref51_Valid_r2 {P : Program} {o : Nat} {p : List (Nat × Nat)} {Q : SExit → St → Prop} {st : St} : goReg P s_farandoleref51_Valid_r2 o p Q st = goLit P (litOf s_farandoleref51_Valid_r2.eq_1) o p Q st := goReg_of _
theorem u_farandoleref51_Valid_r3 {P : Program} {o : Nat} {p : List (Nat × Nat)} {Q : SExit → St → Prop} {st : St} : goReg P s_farandoleref51_Valid_r3 o p Q st = goLit P (litOf s_farandoleref51_Valid_r3.eq_1) o p Q st := goReg_of _
theorem u_farandoleref51_Valid_r4 {P : Program} {o : Nat} {p : List (Nat × Nat)} {Q : SExit → St → Prop} {st : St} : goReg P s_farandoleref51_Valid_r4 o p Q st = goLit P (litOf s_farandoleref51_Valid_r4.eq_1) o p Q st := goReg_of _
theorem u_farandoleref51_Valid_r5 {P : Program} {o : Nat} {p : List (Nat × Nat)} {Q : SExit → St → Prop} {st : St} : goReg P s_farandoleref51_Valid_r5 o p Q st = goLit P (litOf s_farandoleref51_Valid_r5.eq_1) o p Q st := goReg_of _
theorem u_farandoleref51_Valid_r6 {P : Program} {o : Nat} {p : List (Nat × Nat)} {Q : SExit → St → Prop} {st : St} : goReg P s_farandoleref51_Valid_r6 o p Q st = goLit P (litOf s_farandoleref51_Valid_r6.eq_1) o p Q st := goReg_of _
theorem u_farandoleref51_Valid_r7 {P : Program} {o : Nat} {p : List (Nat × Nat)} {Q : SExit → St → Prop} {st : St} : goReg P s_farandoleref51_Valid_r7 o p Q st = goLit P (litOf s_farandoleref51_Valid_r7.eq_1) o p Q st := goReg_of _
theorem u_farandoleref51_Valid_r8 {P : Program} {o : Nat} {p : List (Nat × Nat)} {Q : SExit → St → Prop} {st : St} : goReg P s_farandoleref51_Valid_r8 o p Q st = goLit P (litOf s_farandoleref51_Valid_r8.eq_1) o p Q st := goReg_of _
theorem u_farandoleref51_Valid_r10 {P : Program} {o : Nat} {p : List (Nat × Nat)} {Q : SExit → St → Prop} {st : St} : goReg P s_farandoleref51_Valid_r10 o p Q st = goLit P (litOf s_farandoleref51_Valid_r10.eq_1) o p Q st := goReg_of _
attribute [go_sem] u_farandoleref51_Valid_r0 u_farandoleref51_Valid_r1 u_farandoleref51_Valid_r2 u_farandoleref51_Valid_r3 u_farandoleref51_Valid_r4 u_farandoleref51_Valid_r5 u_farandoleref51_Valid_r6 u_farandoleref51_Valid_r7 u_farandoleref51_Valid_r8 e_farandoleref51_Valid_l9 u_farandoleref51_Valid_r10 e_farandoleref51_Valid
set_option maxRecDepth 100000 in
theorem c_farandoleref51_Valid : Try.f39.body.bind (compCode Try.prog Try.f39.ntmps news) = some s_farandoleref51_Valid := by kernel_rfl
theorem r_farandoleref51_Valid : Try.f39.results.toList.mapM (compRes Try.prog) = some [(.tmp 2)] := by kernel_rfl
theorem n_farandoleref51_Valid : Try.f39.ntmps = 76 := by kernel_rfl
theorem b_farandoleref51_Valid : (Try.prog.funcs[39]?).any (fun fn => fn.body.isSome && !(fn.name == "runtime.NumGoroutine")) = true := by kernel_rfl
theorem ko_farandoleref51_Valid {args : List ASlot} {r : ASlot} {objs objs' : List AObj} (h : AWp Try.prog objs.length s_farandoleref51_Valid (bodyQ objs.length [(.tmp 2)] [r] objs') (entrySt args objs)) (hN : args.length ≤ 76 := by simp) (hw : ltB 16 (toksOf args ++ osToks objs) = true := by rfl) : ACall Try.prog 39 args objs r objs' :=
  acall_go (rs := [r]) follows Try.func39 c_farandoleref51_Valid r_farandoleref51_Valid h (by rw [n_farandoleref51_Valid]; exact hN) rfl hw
theorem k_farandoleref51_Valid {args : List ASlot} {r : ASlot} (h : AWp Try.prog 0 s_farandoleref51_Valid (bodyQ 0 [(.tmp 2)] [r] []) (entrySt args [])) (hN : args.length ≤ 76 := by simp) (hw : ltB 16 (toksOf args ++ osToks []) = true := by rfl) : ACall Try.prog 39 args [] r [] := ko_farandoleref51_Valid h hN hw

noncomputable def s_farandoleref51_Equal_r0 : List SOper := [
  ⟨(some 2), .box 2 (.t 0), none⟩,
  ⟨(some 3), .box 1 (.t 1), none⟩,
  ⟨(some 4), .mov (.k (.d (.bool false))), none⟩]
noncomputable def s_farandoleref51_Equal_r1 : List SOper := [
  ⟨(some 5), .faddr 0 (.t 2), none⟩,
  ⟨(some 6), .load none (.t 5), none⟩,
  ⟨(some 7), .faddr 0 (.t 3), none⟩,
  ⟨(some 8), .load none (.t 7), none⟩,
  ⟨(some 9), .bin .eql (.t 6) (.t 8), none⟩,
  ⟨(some 10), .mov (.t 9), none⟩,
  ⟨(some 11), .faddr 1 (.t 2), (some (10, true))⟩,
  ⟨(some 12), .load none (.t 11), (some (10, true))⟩,
  ⟨(some 13), .faddr 1 (.t 3), (some (10, true))⟩,
  ⟨(some 14), .load none (.t 13), (some (10, true))⟩,
  ⟨(some 15), .bin .eql (.t 12) (.t 14), (some (10, true))⟩,
  ⟨(some 16), .pick (.t 10) (.t 15) (.k (.d (.bool false))), none⟩,
  ⟨(some 17), .mov (.t 16), none⟩,
  ⟨(some 18), .faddr 2 (.t 2), (some (17, true))⟩,
  ⟨(some 19), .load none (.t 18), (some (17, true))⟩,
  ⟨(some 20), .faddr 2 (.t 3), (some (17, true))⟩,
  ⟨(some 21), .load none (.t 20), (some (17, true))⟩,
  ⟨(some 22), .call (.k (.d (.func (.func 69) [] []))) [(.t 19), (.t 21)], (some (17, true))⟩,
  ⟨(some 23), .pick (.t 17) (.t 22) (.k (.d (.bool false))), none⟩,
  ⟨(some 4), .mov (.t 23), none⟩]
noncomputable def s_farandoleref51_Equal : SCode := (.seq (.region s_farandoleref51_Equal_r0 2 []) (.seq (.region s_farandoleref51_Equal_r1 0 []) .ret))
theorem e_farandoleref51_Equal {P : Program} {k0 : Nat} {Q : SExit → St → Prop} {st : St} : AWp P k0 s_farandoleref51_Equal Q st = AWp P k0 (.seq (.region s_farandoleref51_Equal_r0 2 []) (.seq (.region s_farandoleref51_Equal_r1 0 []) .ret)) Q st := rfl
theorem u_farandoleref51_Equal_r0 {P : Program} {o : Nat} {p : List (Nat × Nat)} {Q : SExit → St → Prop} {st : St} : goReg P s_farandoleref51_Equal_r0 o p Q st = goLit P (litOf s_farandoleref51_Equal_r0.eq_1) o p Q st := goReg_of _
theorem u_farandoleref51_Equal_r1 {P : Program} {o : Nat} {p : List (Nat × Nat)} {Q : SExit → St → Prop} {st : St} : goReg P s_farandoleref51_Equal_r1 o p Q st = goLit P (litOf s_farandoleref51_Equal_r1.eq_1) o p Q st := goReg_of _
attribute [go_sem] u_farandoleref51_Equal_r0 u_farandoleref51_Equal_r1 e_farandoleref51_Equal
set_option maxRecDepth 100000 in
theorem c_farandoleref51_Equal : Try.f30.body.bind (compCode Try.prog Try.f30.ntmps news) = some s_farandoleref51_Equal := by kernel_rfl
theorem r_farandoleref51_Equal : Try.f30.results.toList.mapM (compRes Try.prog) = some [(.tmp 4)] := by kernel_rfl
theorem n_farandoleref51_Equal : Try.f30.ntmps = 24 := by kernel_rfl
theorem b_farandoleref51_Equal : (Try.prog.funcs[30]?).any (fun fn => fn.body.isSome && !(fn.name == "runtime.NumGoroutine")) = true := by kernel_rfl
theorem ko_farandoleref51_Equal {args : List ASlot} {r : ASlot} {objs objs' : List AObj} (h : AWp Try.prog objs.length s_farandoleref51_Equal (bodyQ objs.length [(.tmp 4)] [r] objs') (entrySt args objs)) (hN : args.length ≤ 24 := by simp) (hw : ltB 16 (toksOf args ++ osToks objs) = true := by rfl) : ACall Try.prog 30 args objs r objs' :=
  acall_go (rs := [r]) follows Try.func30 c_farandoleref51_Equal r_farandoleref51_Equal h (by rw [n_farandoleref51_Equal]; exact hN) rfl hw
theorem k_farandoleref51_Equal {args : List ASlot} {r : ASlot} (h : AWp Try.prog 0 s_farandoleref51_Equal (bodyQ 0 [(.tmp 4)] [r] []) (entrySt args [])) (hN : args.length ≤ 24 := by simp) (hw : ltB 16 (toksOf args ++ osToks []) = true := by rfl) : ACall Try.prog 30 args [] r [] := ko_farandoleref51_Equal h hN hw

noncomputable def s_farandoleref51_Consume_r0 : List SOper := [
  ⟨(some 2), .box 2 (.t 0), none⟩,
  ⟨(some 4), .alloc 1 [(.d (.int .i64 0)), (.d (.int .i64 0)), (.d .nilsl)], none⟩,
  ⟨(some 5), .mov (.k (.d (.int .i64 0))), none⟩]
noncomputable def s_farandoleref51_Consume_r1 : List SOper := [
  ⟨(some 6), .load (some 3) (.t 2), none⟩,
  ⟨(some 7), .call (.k (.d (.func (.func 39) [] []))) [(.t 6)], none⟩,
  ⟨(some 8), .not (.t 7), none⟩]
noncomputable def s_farandoleref51_Consume_r2 : List SOper := [
  ⟨(some 9), .build [(.int .i64 0), (.int .i64 0), .nilsl] [], none⟩,
  ⟨none, .store (some 3) (.t 4) (.t 9), none⟩,
  ⟨(some 5), .mov (.k (.d (.int .i64 1))), none⟩]
noncomputable def s_farandoleref51_Consume_r3 : List SOper := [
  ⟨(some 10), .mov (.t 1), none⟩,
  ⟨(some 11), .bin .geq (.t 10) (.k (.d (.int .i64 1))), none⟩,
  ⟨(some 12), .mov (.t 11), none⟩,
  ⟨(some 13), .mov (.t 1), (some (12, true))⟩,
  ⟨(some 14), .faddr 1 (.t 2), (some (12, true))⟩,
  ⟨(some 15), .load none (.t 14), (some (12, true))⟩,
  ⟨(some 16), .bin .leq (.t 13) (.t 15), (some (12, true))⟩,
  ⟨(some 17), .pick (.t 12) (.t 16) (.k (.d (.bool false))), none⟩]
noncomputable def s_farandoleref51_Consume_r4 : List SOper := [
  ⟨(some 18), .build [(.int .i64 0), (.int .i64 0), .nilsl] [], none⟩,
  ⟨none, .store (some 3) (.t 4) (.t 18), none⟩,
  ⟨(some 5), .mov (.k (.d (.int .i64 21))), none⟩]
noncomputable def s_farandoleref51_Consume_r5 : List SOper := [
  ⟨(some 19), .faddr 2 (.t 2), none⟩,
  ⟨(some 20), .load none (.t 19), none⟩,
  ⟨(some 21), .len (.t 20), none⟩,
  ⟨(some 22), .bin .eql (.t 21) (.k (.d (.int .i64 0))), none⟩,
  ⟨(some 23), .mov (.t 22), none⟩,
  ⟨(some 24), .mov (.t 1), (some (23, false))⟩,
  ⟨(some 25), .faddr 1 (.t 2), (some (23, false))⟩,
  ⟨(some 26), .load none (.t 25), (some (23, false))⟩,
  ⟨(some 27), .bin .add (.t 26) (.k (.d (.int .i64 1))), (some (23, false))⟩,
  ⟨(some 28), .bin .neq (.t 24) (.t 27), (some (23, false))⟩,
  ⟨(some 29), .pick (.t 23) (.k (.d (.bool true))) (.t 28), none⟩]
noncomputable def s_farandoleref51_Consume_r6 : List SOper := [
  ⟨(some 30), .build [(.int .i64 0), (.int .i64 0), .nilsl] [], none⟩,
  ⟨none, .store (some 3) (.t 4) (.t 30), none⟩,
  ⟨(some 5), .mov (.k (.d (.int .i64 22))), none⟩]
noncomputable def s_farandoleref51_Consume_r7 : List SOper := [
  ⟨(some 31), .faddr 0 (.t 2), none⟩,
  ⟨(some 32), .load none (.t 31), none⟩,
  ⟨(some 33), .faddr 1 (.t 2), none⟩,
  ⟨(some 34), .load none (.t 33), none⟩,
  ⟨(some 35), .bin .add (.t 34) (.k (.d (.int .i64 1))), none⟩,
  ⟨(some 36), .faddr 2 (.t 2), none⟩,
  ⟨(some 37), .load none (.t 36), none⟩,
  ⟨(some 38), .slice 9 (.t 37) (some (.k (.d (.int .i64 1)))) none none, none⟩,
  ⟨(some 39), .build [(.int .i64 0), (.int .i64 0), .nilsl] [(0, 1, (.t 32)), (1, 1, (.t 35)), (2, 1, (.t 38))], none⟩,
  ⟨none, .store (some 3) (.t 4) (.t 39), none⟩,
  ⟨(some 5), .mov (.k (.d (.int .i64 0))), none⟩]
noncomputable def s_farandoleref51_Consume : SCode := (.seq (.region s_farandoleref51_Consume_r0 2 []) (.seq (.seq (.region s_farandoleref51_Consume_r1 0 []) (.cond (.t 8) (.seq (.region s_farandoleref51_Consume_r2 0 []) .ret) .skip)) (.seq (.seq (.region s_farandoleref51_Consume_r3 0 []) (.cond (.t 17) (.seq (.region s_farandoleref51_Consume_r4 0 []) .ret) .skip)) (.seq (.seq (.region s_farandoleref51_Consume_r5 0 []) (.cond (.t 29) (.seq (.region s_farandoleref51_Consume_r6 0 []) .ret) .skip)) (.seq (.region s_farandoleref51_Consume_r7 0 []) .ret)))))
theorem e_farandoleref51_Consume {P : Program} {k0 : Nat} {Q : SExit → St → Prop} {st : St} : AWp P k0 s_farandoleref51_Consume Q st = AWp P k0 (.seq (.region s_farandoleref51_Consume_r0 2 []) (.seq (.seq (.region s_farandoleref51_Consume_r1 0 []) (.cond (.t 8) (.seq (.region s_farandoleref51_Consume_r2 0 []) .ret) .skip)) (.seq (.seq (.region s_farandoleref51_Consume_r3 0 []) (.cond (.t 17) (.seq (.region s_farandoleref51_Consume_r4 0 []) .ret) .skip)) (.seq (.seq (.region s_farandoleref51_Consume_r5 0 []) (.cond (.t 29) (.seq (.region s_farandoleref51_Consume_r6 0 []) .ret) .skip)) (.seq (.region s_farandoleref51_Consume_r7 0 []) .ret))))) Q st := rfl
theorem u_farandoleref51_Consume_r0 {P : Program} {o : Nat} {p : List (Nat × Nat)} {Q : SExit → St → Prop} {st : St} : goReg P s_farandoleref51_Consume_r0 o p Q st = goLit P (litOf s_farandoleref51_Consume_r0.eq_1) o p Q st := goReg_of _
theorem u_farandoleref51_Consume_r1 {P : Program} {o : Nat} {p : List (Nat × Nat)} {Q : SExit → St → Prop} {st : St} : goReg P s_farandoleref51_Consume_r1 o p Q st = goLit P (litOf s_farandoleref51_Consume_r1.eq_1) o p Q st := goReg_of _
theorem u_farandoleref51_Consume_r2 {P : Program} {o : Nat} {p : List (Nat × Nat)} {Q : SExit → St → Prop} {st : St} : goReg P s_farandoleref51_Consume_r2 o p Q st = goLit P (litOf s_farandoleref51_Consume_r2.eq_1) o p Q st := goReg_of _
theorem u_farandoleref51_Consume_r3 {P : Program} {o : Nat} {p : List (Nat × Nat)} {Q : SExit → St → Prop} {st : St} : goReg P s_farandoleref51_Consume_r3 o p Q st = goLit P (litOf s_farandoleref51_Consume_r3.eq_1) o p Q st := goReg_of _
theorem u_farandoleref51_Consume_r4 {P : Program} {o : Nat} {p : List (Nat × Nat)} {Q : SExit → St → Prop} {st : St} : goReg P s_farandoleref51_Consume_r4 o p Q st = goLit P (litOf s_farandoleref51_Consume_r4.eq_1) o p Q st := goReg_of _
theorem u_farandoleref51_Consume_r5 {P : Program} {o : Nat} {p : List (Nat × Nat)} {Q : SExit → St → Prop} {st : St} : goReg P s_farandoleref51_Consume_r5 o p Q st = goLit P (litOf s_farandoleref51_Consume_r5.eq_1) o p Q st := goReg_of _
theorem u_farandoleref51_Consume_r6 {P : Program} {o : Nat} {p : List (Nat × Nat)} {Q : SExit → St → Prop} {st : St} : goReg P s_farandoleref51_Consume_r6 o p Q st = goLit P (litOf s_farandoleref51_Consume_r6.eq_1) o p Q st := goReg_of _
theorem u_farandoleref51_Consume_r7 {P : Program} {o : Nat} {p : List (Nat × Nat)} {Q : SExit → St → Prop} {st : St} : goReg P s_farandoleref51_Consume_r7 o p Q st = goLit P (litOf s_farandoleref51_Consume_r7.eq_1) o p Q st := goReg_of _
attribute [go_sem] u_farandoleref51_Consume_r0 u_farandoleref51_Consume_r1 u_farandoleref51_Consume_r2 u_farandoleref51_Consume_r3 u_farandoleref51_Consume_r4 u_farandoleref51_Consume_r5 u_farandoleref51_Consume_r6 u_farandoleref51_Consume_r7 e_farandoleref51_Consume
set_option maxRecDepth 100000 in
theorem c_farandoleref51_Consume : Try.f29.body.bind (compCode Try.prog Try.f29.ntmps news) = some s_farandoleref51_Consume := by kernel_rfl
theorem r_farandoleref51_Consume : Try.f29.results.toList.mapM (compRes Try.prog) = some [(.cell 4 (some 3)), (.tmp 5)] := by kernel_rfl
theorem n_farandoleref51_Consume : Try.f29.ntmps = 40 := by kernel_rfl
theorem b_farandoleref51_Consume : (Try.prog.funcs[29]?).any (fun fn => fn.body.isSome && !(fn.name == "runtime.NumGoroutine")) = true := by kernel_rfl
theorem ko_farandoleref51_Consume {args rs : List ASlot} {objs objs' : List AObj} (h : AWp Try.prog objs.length s_farandoleref51_Consume (bodyQ objs.length [(.cell 4 (some 3)), (.tmp 5)] rs objs') (entrySt args objs)) (hN : args.length ≤ 40 := by simp) (hl : rs.length = 2 := by rfl) (hw : ltB 16 (toksOf args ++ osToks objs) = true := by rfl) : ACall Try.prog 29 args objs (.tup rs) objs' := by
  rw [← mkRes_tup (rs := rs) (by rw [hl]; decide)]
  exact acall_go follows Try.func29 c_farandoleref51_Consume r_farandoleref51_Consume h (by rw [n_farandoleref51_Consume]; exact hN) (by rw [hl]; rfl) hw
theorem k_farandoleref51_Consume {args rs : List ASlot} (h : AWp Try.prog 0 s_farandoleref51_Consume (bodyQ 0 [(.cell 4 (some 3)), (.tmp 5)] rs []) (entrySt args [])) (hN : args.length ≤ 40 := by simp) (hl : rs.length = 2 := by rfl) (hw : ltB 16 (toksOf args ++ osToks []) = true := by rfl) : ACall Try.prog 29 args [] (.tup rs) [] := ko_farandoleref51_Consume h hN hl hw



theorem alike51_ok (p q : Pk) : ACall Try.prog 76 [.d (.agg (encPk p)), .d (.agg (encPk q))] [] (.d (.bool (alike p q))) [] := by
  refine k_farandoleref51_alike ?_
  simp only [e_farandoleref51_alike, encPk, go_sem, Nat.reduceAdd, Nat.reduceMul, Nat.reduceSub, Nat.reduceEqDiff, Nat.reduceLT, Nat.reduceLeDiff, Nat.reduceBEq, reduceIte, reduceCtorEq, Int.reduceAdd, Int.reduceLT, Int.reduceLE, Int.reduceGT, Int.reduceGE, Int.reduceEq, Int.reduceNe, Int.reduceBEq, Int.reduceBNe, Int.reduceToNat, Int.reduceNeg]
  rfl

def item51 (q : Qu) (i : Nat) : Bool :=
  !(!valid46 (q.items.getD i default) || (q.items.getD i default).kind != 1 || (q.items.getD i default).seq != IntKind.i64.wrap (IntKind.i64.wrap (q.cons + 1) + (i : Int)) || !alike (q.items.getD i default) (q.items.getD 0 default))
def bad51 (q : Qu) : Bool := decide (q.cons < 0) || decide (q.acc < q.cons) || decide (q.acc > 1099511627776) || decide ((q.items.length : Int) > 4) || (q.items.length : Int) != IntKind.i64.wrap (q.acc - q.cons)
def valid51 (q : Qu) : Bool := !bad51 q && allTo (item51 q) q.items.length
def Sv51 (q : Qu) (i : { i : Nat // allTo (item51 q) i = true }) : St := ⟨[(1, true, .d (.ptr 0 0)), (3, true, .d (.int .i64 (i.val : Nat)))], [qObj q], [], 1⟩

set_option maxRecDepth 10000 in
theorem valid51_ok (q : Qu) (hq : q.Sm) : ACall Try.prog 39 [.d (.agg (encQ q))] [] (.d (.bool (valid51 q))) [] := by
  have hl := hq.1
  refine k_farandoleref51_Valid ?_
  simp only [e_farandoleref51_Valid, encQ, go_sem, Nat.reduceAdd, Nat.reduceMul, Nat.reduceSub, Nat.reduceEqDiff, Nat.reduceLT, Nat.reduceLeDiff, Nat.reduceBEq, reduceIte, reduceCtorEq, Int.reduceAdd, Int.reduceLT, Int.reduceLE, Int.reduceGT, Int.reduceGE, Int.reduceEq, Int.reduceNe, Int.reduceBEq, Int.reduceBNe, Int.reduceToNat, Int.reduceNeg]
  repeat (with_reducible refine And.intro (by first | omega | (simp_all; done) | grind) ?_)
  have hb : (decide (q.cons < 0) || decide (q.acc < q.cons) || decide (q.acc > 1099511627776) || decide ((q.items.length : Int) > 4) || (q.items.length : Int) != IntKind.i64.wrap (q.acc - q.cons)) = bad51 q := rfl
  try simp only [hb, go_sem, Nat.reduceAdd, Nat.reduceMul, Nat.reduceSub, Nat.reduceEqDiff, Nat.reduceLT, Nat.reduceLeDiff, Nat.reduceBEq, reduceIte, reduceCtorEq, Int.reduceAdd, Int.reduceLT, Int.reduceLE, Int.reduceGT, Int.reduceGE, Int.reduceEq, Int.reduceNe, Int.reduceBEq, Int.reduceBNe, Int.reduceToNat, Int.reduceNeg]
  refine AWp_cond _ rfl rfl (fun h0 => ?_) (fun h0 => ?_)
  · try simp only [valid51, h0, go_sem, Nat.reduceAdd, Nat.reduceMul, Nat.reduceSub, Nat.reduceEqDiff, Nat.reduceLT, Nat.reduceLeDiff, Nat.reduceBEq, reduceIte, reduceCtorEq, Int.reduceAdd, Int.reduceLT, Int.reduceLE, Int.reduceGT, Int.reduceGE, Int.reduceEq, Int.reduceNe, Int.reduceBEq, Int.reduceBNe, Int.reduceToNat, Int.reduceNeg]
  try simp only [go_sem, Nat.reduceAdd, Nat.reduceMul, Nat.reduceSub, Nat.reduceEqDiff, Nat.reduceLT, Nat.reduceLeDiff, Nat.reduceBEq, reduceIte, reduceCtorEq, Int.reduceAdd, Int.reduceLT, Int.reduceLE, Int.reduceGT, Int.reduceGE, Int.reduceEq, Int.reduceNe, Int.reduceBEq, Int.reduceBNe, Int.reduceToNat, Int.reduceNeg]
  refine AWp_loop (Sv51 q) (fun i => q.items.length - i.val) ⟨0, rfl⟩ ?_ (fun i => ?_)
  · try simp only [Sv51, qObj, go_sem, Nat.reduceAdd, Nat.reduceMul, Nat.reduceSub, Nat.reduceEqDiff, Nat.reduceLT, Nat.reduceLeDiff, Nat.reduceBEq, reduceIte, reduceCtorEq, Int.reduceAdd, Int.reduceLT, Int.reduceLE, Int.reduceGT, Int.reduceGE, Int.reduceEq, Int.reduceNe, Int.reduceBEq, Int.reduceBNe, Int.reduceToNat, Int.reduceNeg]
  obtain ⟨i, hi⟩ := i
  try simp only [Sv51, qObj, go_sem, Nat.reduceAdd, Nat.reduceMul, Nat.reduceSub, Nat.reduceEqDiff, Nat.reduceLT, Nat.reduceLeDiff, Nat.reduceBEq, reduceIte, reduceCtorEq, Int.reduceAdd, Int.reduceLT, Int.reduceLE, Int.reduceGT, Int.reduceGE, Int.reduceEq, Int.reduceNe, Int.reduceBEq, Int.reduceBNe, Int.reduceToNat, Int.reduceNeg]
  refine AWp_cond _ rfl rfl (fun h => ?_) (fun h => ?_)
  · have hil : i < q.items.length := by simpa using h
    have h0l : 0 < q.items.length := by omega
    simp only [getD_map encPk q.items hil, getD_map encPk q.items h0l, encPk, go_sem, Nat.reduceAdd, Nat.reduceMul, Nat.reduceSub, Nat.reduceEqDiff, Nat.reduceLT, Nat.reduceLeDiff, Nat.reduceBEq, reduceIte, reduceCtorEq, Int.reduceAdd, Int.reduceLT, Int.reduceLE, Int.reduceGT, Int.reduceGE, Int.reduceEq, Int.reduceNe, Int.reduceBEq, Int.reduceBNe, Int.reduceToNat, Int.reduceNeg]
    repeat (with_reducible refine And.intro (by first | omega | (simp_all; done) | grind) ?_)
    (repeat (with_reducible refine And.intro (by first | omega | (simp_all; done) | grind) ?_)); refine callO_pure (valid46_ok q.items[i] (hq.2 _ (List.getElem_mem hil))) b_farandoleref46_Valid (fun h => by first | exact h | (simp only [h, Bool.and_self, Bool.and_true])) (fun _ => by first | exact ⟨matchA_refl, trivial⟩ | exact ⟨matchA_refl, matchA_refl, trivial⟩ | exact ⟨matchA_refl, matchA_refl, matchA_refl, trivial⟩ | simp only [encPk, encQ, go_sem, Nat.reduceAdd, Nat.reduceMul, Nat.reduceSub, Nat.reduceEqDiff, Nat.reduceLT, Nat.reduceLeDiff, Nat.reduceBEq, reduceIte, reduceCtorEq, Int.reduceAdd, Int.reduceLT, Int.reduceLE, Int.reduceGT, Int.reduceGE, Int.reduceEq, Int.reduceNe, Int.reduceBEq, Int.reduceBNe, Int.reduceToNat, Int.reduceNeg]) (by simp only [go_sem, Nat.reduceAdd, Nat.reduceMul, Nat.reduceSub, Nat.reduceEqDiff, Nat.reduceLT, Nat.reduceLeDiff, Nat.reduceBEq, reduceIte, reduceCtorEq, Int.reduceAdd, Int.reduceLT, Int.reduceLE, Int.reduceGT, Int.reduceGE, Int.reduceEq, Int.reduceNe, Int.reduceBEq, Int.reduceBNe, Int.reduceToNat, Int.reduceNeg]) rfl rfl ?_
    simp only [getD_map encPk q.items h0l, encPk, go_sem, Nat.reduceAdd, Nat.reduceMul, Nat.reduceSub, Nat.reduceEqDiff, Nat.reduceLT, Nat.reduceLeDiff, Nat.reduceBEq, reduceIte, reduceCtorEq, Int.reduceAdd, Int.reduceLT, Int.reduceLE, Int.reduceGT, Int.reduceGE, Int.reduceEq, Int.reduceNe, Int.reduceBEq, Int.reduceBNe, Int.reduceToNat, Int.reduceNeg]
    repeat (with_reducible refine And.intro (by first | omega | (simp_all; done) | grind) ?_)
    (repeat (with_reducible refine And.intro (by first | omega | (simp_all; done) | grind) ?_)); refine callO_pure (alike51_ok q.items[i] q.items[0]) b_farandoleref51_alike (fun h => by first | exact h | (simp only [h, Bool.and_self, Bool.and_true])) (fun _ => by first | exact ⟨matchA_refl, trivial⟩ | exact ⟨matchA_refl, matchA_refl, trivial⟩ | exact ⟨matchA_refl, matchA_refl, matchA_refl, trivial⟩ | simp only [encPk, encQ, go_sem, Nat.reduceAdd, Nat.reduceMul, Nat.reduceSub, Nat.reduceEqDiff, Nat.reduceLT, Nat.reduceLeDiff, Nat.reduceBEq, reduceIte, reduceCtorEq, Int.reduceAdd, Int.reduceLT, Int.reduceLE, Int.reduceGT, Int.reduceGE, Int.reduceEq, Int.reduceNe, Int.reduceBEq, Int.reduceBNe, Int.reduceToNat, Int.reduceNeg]) (by simp only [go_sem, Nat.reduceAdd, Nat.reduceMul, Nat.reduceSub, Nat.reduceEqDiff, Nat.reduceLT, Nat.reduceLeDiff, Nat.reduceBEq, reduceIte, reduceCtorEq, Int.reduceAdd, Int.reduceLT, Int.reduceLE, Int.reduceGT, Int.reduceGE, Int.reduceEq, Int.reduceNe, Int.reduceBEq, Int.reduceBNe, Int.reduceToNat, Int.reduceNeg]) rfl rfl ?_
    try simp only [go_sem, Nat.reduceAdd, Nat.reduceMul, Nat.reduceSub, Nat.reduceEqDiff, Nat.reduceLT, Nat.reduceLeDiff, Nat.reduceBEq, reduceIte, reduceCtorEq, Int.reduceAdd, Int.reduceLT, Int.reduceLE, Int.reduceGT, Int.reduceGE, Int.reduceEq, Int.reduceNe, Int.reduceBEq, Int.reduceBNe, Int.reduceToNat, Int.reduceNeg]
    repeat (with_reducible refine And.intro (by first | omega | (simp_all; done) | grind) ?_)
    have hx : (!valid46 q.items[i] || q.items[i].kind != 1 || q.items[i].seq != IntKind.i64.wrap (IntKind.i64.wrap (q.cons + 1) + (i : Int)) || !alike q.items[i] q.items[0]) = !item51 q i := by
      simp only [item51, getD_lt hil, getD_lt h0l, Bool.not_not]
    try simp only [hx, go_sem, Nat.reduceAdd, Nat.reduceMul, Nat.reduceSub, Nat.reduceEqDiff, Nat.reduceLT, Nat.reduceLeDiff, Nat.reduceBEq, reduceIte, reduceCtorEq, Int.reduceAdd, Int.reduceLT, Int.reduceLE, Int.reduceGT, Int.reduceGE, Int.reduceEq, Int.reduceNe, Int.reduceBEq, Int.reduceBNe, Int.reduceToNat, Int.reduceNeg]
    refine AWp_cond _ rfl rfl (fun h2 => ?_) (fun h2 => ?_)
    · have hg : item51 q i = false := by simpa using h2
      simp only [valid51, allTo_no hil hg, go_sem, Nat.reduceAdd, Nat.reduceMul, Nat.reduceSub, Nat.reduceEqDiff, Nat.reduceLT, Nat.reduceLeDiff, Nat.reduceBEq, reduceIte, reduceCtorEq, Int.reduceAdd, Int.reduceLT, Int.reduceLE, Int.reduceGT, Int.reduceGE, Int.reduceEq, Int.reduceNe, Int.reduceBEq, Int.reduceBNe, Int.reduceToNat, Int.reduceNeg]
    · have hg : item51 q i = true := by simpa using h2
      try simp only [go_sem, Nat.reduceAdd, Nat.reduceMul, Nat.reduceSub, Nat.reduceEqDiff, Nat.reduceLT, Nat.reduceLeDiff, Nat.reduceBEq, reduceIte, reduceCtorEq, Int.reduceAdd, Int.reduceLT, Int.reduceLE, Int.reduceGT, Int.reduceGE, Int.reduceEq, Int.reduceNe, Int.reduceBEq, Int.reduceBNe, Int.reduceToNat, Int.reduceNeg]
      refine ⟨⟨i + 1, allTo_step hi hg⟩, ?_, by dsimp only; omega⟩
      simp only [Sv51, qObj, wrap_succ (show i < 9223372036854775807 by omega), go_sem, Nat.reduceAdd, Nat.reduceMul, Nat.reduceSub, Nat.reduceEqDiff, Nat.reduceLT, Nat.reduceLeDiff, Nat.reduceBEq, reduceIte, reduceCtorEq, Int.reduceAdd, Int.reduceLT, Int.reduceLE, Int.reduceGT, Int.reduceGE, Int.reduceEq, Int.reduceNe, Int.reduceBEq, Int.reduceBNe, Int.reduceToNat, Int.reduceNeg]
  · have hil : q.items.length ≤ i := by simpa using h
    have ha : allTo (item51 q) q.items.length = true := allTo_iff.2 fun j hj => allTo_iff.1 hi j (by omega)
    simp only [valid51, h0, ha, go_sem, Nat.reduceAdd, Nat.reduceMul, Nat.reduceSub, Nat.reduceEqDiff, Nat.reduceLT, Nat.reduceLeDiff, Nat.reduceBEq, reduceIte, reduceCtorEq, Int.reduceAdd, Int.reduceLT, Int.reduceLE, Int.reduceGT, Int.reduceGE, Int.reduceEq, Int.reduceNe, Int.reduceBEq, Int.reduceBNe, Int.reduceToNat, Int.reduceNeg]

theorem equal51_ok (a b : Qu) (ha : a.Sm) : ACall Try.prog 30 [.d (.agg (encQ a)), .d (.agg (encQ b))] [] (.d (.bool (decide (a = b)))) [] := by
  refine k_farandoleref51_Equal ?_
  simp only [e_farandoleref51_Equal, encQ, go_sem, Nat.reduceAdd, Nat.reduceMul, Nat.reduceSub, Nat.reduceEqDiff, Nat.reduceLT, Nat.reduceLeDiff, Nat.reduceBEq, reduceIte, reduceCtorEq, Int.reduceAdd, Int.reduceLT, Int.reduceLE, Int.reduceGT, Int.reduceGE, Int.reduceEq, Int.reduceNe, Int.reduceBEq, Int.reduceBNe, Int.reduceToNat, Int.reduceNeg]
  (repeat (with_reducible refine And.intro (by first | omega | (simp_all; done) | grind) ?_)); refine callO_pure (sameP_ok a.items b.items ha.1 ha.2) b_farandoleref46_SameAll (fun h => by first | exact h | (simp only [h, Bool.and_self, Bool.and_true])) (fun _ => by first | exact ⟨matchA_refl, trivial⟩ | exact ⟨matchA_refl, matchA_refl, trivial⟩ | exact ⟨matchA_refl, matchA_refl, matchA_refl, trivial⟩ | simp only [encPk, encQ, go_sem, Nat.reduceAdd, Nat.reduceMul, Nat.reduceSub, Nat.reduceEqDiff, Nat.reduceLT, Nat.reduceLeDiff, Nat.reduceBEq, reduceIte, reduceCtorEq, Int.reduceAdd, Int.reduceLT, Int.reduceLE, Int.reduceGT, Int.reduceGE, Int.reduceEq, Int.reduceNe, Int.reduceBEq, Int.reduceBNe, Int.reduceToNat, Int.reduceNeg]) (by simp only [go_sem, Nat.reduceAdd, Nat.reduceMul, Nat.reduceSub, Nat.reduceEqDiff, Nat.reduceLT, Nat.reduceLeDiff, Nat.reduceBEq, reduceIte, reduceCtorEq, Int.reduceAdd, Int.reduceLT, Int.reduceLE, Int.reduceGT, Int.reduceGE, Int.reduceEq, Int.reduceNe, Int.reduceBEq, Int.reduceBNe, Int.reduceToNat, Int.reduceNeg]) rfl rfl ?_
  try simp only [go_sem, Nat.reduceAdd, Nat.reduceMul, Nat.reduceSub, Nat.reduceEqDiff, Nat.reduceLT, Nat.reduceLeDiff, Nat.reduceBEq, reduceIte, reduceCtorEq, Int.reduceAdd, Int.reduceLT, Int.reduceLE, Int.reduceGT, Int.reduceGE, Int.reduceEq, Int.reduceNe, Int.reduceBEq, Int.reduceBNe, Int.reduceToNat, Int.reduceNeg]
  exact beq_Qu a b

def consume51 (q : Qu) (seq : Int) : Qu × Int :=
  if !valid51 q then (qEmpty, 1)
  else if decide (seq ≥ 1) && decide (seq ≤ q.cons) then (qEmpty, 21)
  else if (q.items.length : Int) == 0 || seq != IntKind.i64.wrap (q.cons + 1) then (qEmpty, 22)
  else (⟨q.acc, IntKind.i64.wrap (q.cons + 1), q.items.drop 1⟩, 0)

theorem consume51_ok (q : Qu) (seq : Int) (hq : q.Sm) : ACall Try.prog 29 [.d (.agg (encQ q)), .d (.int .i64 seq)] [] (.tup [.d (.agg (encQ (consume51 q seq).1)), .d (.int .i64 (consume51 q seq).2)]) [] := by
  have hl := hq.1
  refine k_farandoleref51_Consume ?_
  simp only [e_farandoleref51_Consume, encQ, go_sem, Nat.reduceAdd, Nat.reduceMul, Nat.reduceSub, Nat.reduceEqDiff, Nat.reduceLT, Nat.reduceLeDiff, Nat.reduceBEq, reduceIte, reduceCtorEq, Int.reduceAdd, Int.reduceLT, Int.reduceLE, Int.reduceGT, Int.reduceGE, Int.reduceEq, Int.reduceNe, Int.reduceBEq, Int.reduceBNe, Int.reduceToNat, Int.reduceNeg]
  (repeat (with_reducible refine And.intro (by first | omega | (simp_all; done) | grind) ?_)); refine callO_pure (valid51_ok q hq) b_farandoleref51_Valid (fun h => by first | exact h | (simp only [h, Bool.and_self, Bool.and_true])) (fun _ => by first | exact ⟨matchA_refl, trivial⟩ | exact ⟨matchA_refl, matchA_refl, trivial⟩ | exact ⟨matchA_refl, matchA_refl, matchA_refl, trivial⟩ | simp only [encPk, encQ, go_sem, Nat.reduceAdd, Nat.reduceMul, Nat.reduceSub, Nat.reduceEqDiff, Nat.reduceLT, Nat.reduceLeDiff, Nat.reduceBEq, reduceIte, reduceCtorEq, Int.reduceAdd, Int.reduceLT, Int.reduceLE, Int.reduceGT, Int.reduceGE, Int.reduceEq, Int.reduceNe, Int.reduceBEq, Int.reduceBNe, Int.reduceToNat, Int.reduceNeg]) (by simp only [go_sem, Nat.reduceAdd, Nat.reduceMul, Nat.reduceSub, Nat.reduceEqDiff, Nat.reduceLT, Nat.reduceLeDiff, Nat.reduceBEq, reduceIte, reduceCtorEq, Int.reduceAdd, Int.reduceLT, Int.reduceLE, Int.reduceGT, Int.reduceGE, Int.reduceEq, Int.reduceNe, Int.reduceBEq, Int.reduceBNe, Int.reduceToNat, Int.reduceNeg]) rfl rfl ?_
  try simp only [go_sem, Nat.reduceAdd, Nat.reduceMul, Nat.reduceSub, Nat.reduceEqDiff, Nat.reduceLT, Nat.reduceLeDiff, Nat.reduceBEq, reduceIte, reduceCtorEq, Int.reduceAdd, Int.reduceLT, Int.reduceLE, Int.reduceGT, Int.reduceGE, Int.reduceEq, Int.reduceNe, Int.reduceBEq, Int.reduceBNe, Int.reduceToNat, Int.reduceNeg]
  refine AWp_cond _ rfl rfl (fun h1 => ?_) (fun h1 => ?_)
  · try simp only [consume51, h1, qEmpty, go_sem, Nat.reduceAdd, Nat.reduceMul, Nat.reduceSub, Nat.reduceEqDiff, Nat.reduceLT, Nat.reduceLeDiff, Nat.reduceBEq, reduceIte, reduceCtorEq, Int.reduceAdd, Int.reduceLT, Int.reduceLE, Int.reduceGT, Int.reduceGE, Int.reduceEq, Int.reduceNe, Int.reduceBEq, Int.reduceBNe, Int.reduceToNat, Int.reduceNeg]
  try simp only [go_sem, Nat.reduceAdd, Nat.reduceMul, Nat.reduceSub, Nat.reduceEqDiff, Nat.reduceLT, Nat.reduceLeDiff, Nat.reduceBEq, reduceIte, reduceCtorEq, Int.reduceAdd, Int.reduceLT, Int.reduceLE, Int.reduceGT, Int.reduceGE, Int.reduceEq, Int.reduceNe, Int.reduceBEq, Int.reduceBNe, Int.reduceToNat, Int.reduceNeg]
  repeat (with_reducible refine And.intro (by first | omega | (simp_all; done) | grind) ?_)
  refine AWp_cond _ rfl rfl (fun h2 => ?_) (fun h2 => ?_)
  · try simp only [consume51, h1, h2, qEmpty, go_sem, Nat.reduceAdd, Nat.reduceMul, Nat.reduceSub, Nat.reduceEqDiff, Nat.reduceLT, Nat.reduceLeDiff, Nat.reduceBEq, reduceIte, reduceCtorEq, Int.reduceAdd, Int.reduceLT, Int.reduceLE, Int.reduceGT, Int.reduceGE, Int.reduceEq, Int.reduceNe, Int.reduceBEq, Int.reduceBNe, Int.reduceToNat, Int.reduceNeg]
  try simp only [go_sem, Nat.reduceAdd, Nat.reduceMul, Nat.reduceSub, Nat.reduceEqDiff, Nat.reduceLT, Nat.reduceLeDiff, Nat.reduceBEq, reduceIte, reduceCtorEq, Int.reduceAdd, Int.reduceLT, Int.reduceLE, Int.reduceGT, Int.reduceGE, Int.reduceEq, Int.reduceNe, Int.reduceBEq, Int.reduceBNe, Int.reduceToNat, Int.reduceNeg]
  repeat (with_reducible refine And.intro (by first | omega | (simp_all; done) | grind) ?_)
  refine AWp_cond _ rfl rfl (fun h3 => ?_) (fun h3 => ?_)
  · try simp only [consume51, h1, h2, h3, qEmpty, go_sem, Nat.reduceAdd, Nat.reduceMul, Nat.reduceSub, Nat.reduceEqDiff, Nat.reduceLT, Nat.reduceLeDiff, Nat.reduceBEq, reduceIte, reduceCtorEq, Int.reduceAdd, Int.reduceLT, Int.reduceLE, Int.reduceGT, Int.reduceGE, Int.reduceEq, Int.reduceNe, Int.reduceBEq, Int.reduceBNe, Int.reduceToNat, Int.reduceNeg]
  try simp only [go_sem, Nat.reduceAdd, Nat.reduceMul, Nat.reduceSub, Nat.reduceEqDiff, Nat.reduceLT, Nat.reduceLeDiff, Nat.reduceBEq, reduceIte, reduceCtorEq, Int.reduceAdd, Int.reduceLT, Int.reduceLE, Int.reduceGT, Int.reduceGE, Int.reduceEq, Int.reduceNe, Int.reduceBEq, Int.reduceBNe, Int.reduceToNat, Int.reduceNeg]
  have h1l : 1 ≤ q.items.length := by
    rcases Nat.eq_zero_or_pos q.items.length with h | h
    · simp [h] at h3
    · exact h
  refine ⟨by omega, ?_⟩
  simp only [consume51, h1, h2, h3, ← List.map_drop, go_sem, Nat.reduceAdd, Nat.reduceMul, Nat.reduceSub, Nat.reduceEqDiff, Nat.reduceLT, Nat.reduceLeDiff, Nat.reduceBEq, reduceIte, reduceCtorEq, Int.reduceAdd, Int.reduceLT, Int.reduceLE, Int.reduceGT, Int.reduceGE, Int.reduceEq, Int.reduceNe, Int.reduceBEq, Int.reduceBNe, Int.reduceToNat, Int.reduceNeg]
  rw [List.take_of_length_le (by simp)]
  try simp only [go_sem, Nat.reduceAdd, Nat.reduceMul, Nat.reduceSub, Nat.reduceEqDiff, Nat.reduceLT, Nat.reduceLeDiff, Nat.reduceBEq, reduceIte, reduceCtorEq, Int.reduceAdd, Int.reduceLT, Int.reduceLE, Int.reduceGT, Int.reduceGE, Int.reduceEq, Int.reduceNe, Int.reduceBEq, Int.reduceBNe, Int.reduceToNat, Int.reduceNeg]
end Go.Proofs.Ythcpckcgjplhiaa
