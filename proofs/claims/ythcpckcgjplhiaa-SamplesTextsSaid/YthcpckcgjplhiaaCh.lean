/- The reference's comparisons. -/
import Derived.Test.YthcpckcgjplhiaaCg
namespace Go.Proofs.Ythcpckcgjplhiaa
open Go.Abs
set_option linter.unusedSimpArgs false
-- ENC encPk encAV encI

noncomputable def s_farandoleref01_SameValues_r0 : List SOper := [
  ⟨(some 4), .mov (.k (.d (.bool false))), none⟩]
noncomputable def s_farandoleref01_SameValues_r1 : List SOper := [
  ⟨(some 6), .mov (.t 0), none⟩,
  ⟨(some 7), .len (.t 6), none⟩,
  ⟨(some 8), .mov (.t 1), none⟩,
  ⟨(some 9), .len (.t 8), none⟩,
  ⟨(some 10), .bin .neq (.t 7) (.t 9), none⟩]
noncomputable def s_farandoleref01_SameValues_r2 : List SOper := [
  ⟨(some 4), .mov (.k (.d (.bool false))), none⟩]
noncomputable def s_farandoleref01_SameValues_r3 : List SOper := [
  ⟨(some 5), .mov (.k (.d (.int .i64 0))), none⟩]
noncomputable def s_farandoleref01_SameValues_r4 : List SOper := [
  ⟨(some 11), .mov (.t 5), none⟩,
  ⟨(some 12), .mov (.t 0), none⟩,
  ⟨(some 13), .len (.t 12), none⟩,
  ⟨(some 14), .bin .lss (.t 11) (.t 13), none⟩]
noncomputable def s_farandoleref01_SameValues_r5 : List SOper := [
  ⟨(some 17), .mov (.t 0), none⟩,
  ⟨(some 18), .mov (.t 5), none⟩,
  ⟨(some 19), .iaddr 3 (.t 17) (.t 18), none⟩,
  ⟨(some 20), .load (some 3) (.t 19), none⟩,
  ⟨(some 21), .mov (.t 1), none⟩,
  ⟨(some 22), .mov (.t 5), none⟩,
  ⟨(some 23), .iaddr 3 (.t 21) (.t 22), none⟩,
  ⟨(some 24), .load (some 3) (.t 23), none⟩,
  ⟨(some 25), .eqAgg true [.int, .int, .str] (.t 20) (.t 24), none⟩]
noncomputable def s_farandoleref01_SameValues_r6 : List SOper := [
  ⟨(some 4), .mov (.k (.d (.bool false))), none⟩]
noncomputable def s_farandoleref01_SameValues_r7 : List SOper := [
  ⟨(some 15), .mov (.t 5), none⟩,
  ⟨(some 16), .bin .add (.t 15) (.k (.d (.int .i64 1))), none⟩,
  ⟨(some 5), .mov (.t 16), none⟩]
noncomputable def s_farandoleref01_SameValues_l8 : SCode := (.seq (.seq (.region s_farandoleref01_SameValues_r4 0 []) (.cond (.t 14) .skip (.exit 0))) (.seq (.block 1 (.seq (.region s_farandoleref01_SameValues_r5 0 []) (.cond (.t 25) (.seq (.region s_farandoleref01_SameValues_r6 0 []) .ret) .skip))) (.region s_farandoleref01_SameValues_r7 0 [])))
theorem e_farandoleref01_SameValues_l8 {P : Program} {k0 : Nat} {Q : SExit → St → Prop} {st : St} : AWp P k0 s_farandoleref01_SameValues_l8 Q st = AWp P k0 (.seq (.seq (.region s_farandoleref01_SameValues_r4 0 []) (.cond (.t 14) .skip (.exit 0))) (.seq (.block 1 (.seq (.region s_farandoleref01_SameValues_r5 0 []) (.cond (.t 25) (.seq (.region s_farandoleref01_SameValues_r6 0 []) .ret) .skip))) (.region s_farandoleref01_SameValues_r7 0 []))) Q st := rfl
noncomputable def s_farandoleref01_SameValues_r9 : List SOper := [
  ⟨(some 4), .mov (.k (.d (.bool true))), none⟩]
noncomputable def s_farandoleref01_SameValues : SCode := (.seq (.region s_farandoleref01_SameValues_r0 0 []) (.seq (.seq (.region s_farandoleref01_SameValues_r1 0 []) (.cond (.t 10) (.seq (.region s_farandoleref01_SameValues_r2 0 []) .ret) .skip)) (.seq (.seq (.region s_farandoleref01_SameValues_r3 0 []) (.block 0 (.loop s_farandoleref01_SameValues_l8))) (.seq (.region s_farandoleref01_SameValues_r9 0 []) .ret))))
theorem e_farandoleref01_SameValues {P : Program} {k0 : Nat} {Q : SExit → St → Prop} {st : St} : AWp P k0 s_farandoleref01_SameValues Q st = AWp P k0 (.seq (.region s_farandoleref01_SameValues_r0 0 []) (.seq (.seq (.region s_farandoleref01_SameValues_r1 0 []) (.cond (.t 10) (.seq (.region s_farandoleref01_SameValues_r2 0 []) .ret) .skip)) (.seq (.seq (.region s_farandoleref01_SameValues_r3 0 []) (.block 0 (.loop s_farandoleref01_SameValues_l8))) (.seq (.region s_farandoleref01_SameValues_r9 0 []) .ret)))) Q st := rfl
theorem u_farandoleref01_SameValues_r0 {P : Program} {o : Nat} {p : List (Nat × Nat)} {Q : SExit → St → Prop} {st : St} : goReg P s_farandoleref01_SameValues_r0 o p Q st = goLit P (litOf s_farandoleref01_SameValues_r0.eq_1) o p Q st := goReg_of _
theorem u_farandoleref01_SameValues_r1 {P : Program} {o : Nat} {p : List (Nat × Nat)} {Q : SExit → St → Prop} {st : St} : goReg P s_farandoleref01_SameValues_r1 o p Q st = goLit P (litOf s_farandoleref01_SameValues_r1.eq_1) o p Q st := goReg_of _
theorem u_farandoleref01_SameValues_r2 {P : Program} {o : Nat} {p : List (Nat × Nat)} {Q : SExit → St → Prop} {st : St} : goReg P s_farandoleref01_SameValues_r2 o p Q st = goLit P (litOf s_farandoleref01_SameValues_r2.eq_1) o p Q st := goReg_of _
theorem u_farandoleref01_SameValues_r3 {P : Program} {o : Nat} {p : List (Nat × Nat)} {Q : SExit → St → Prop} {st : St} : goReg P s_farandoleref01_SameValues_r3 o p Q st = goLit P (litOf s_farandoleref01_SameValues_r3.eq_1) o p Q st := goReg_of _
theorem u_farandoleref01_SameValues_r4 {P : Program} {o : Nat} {p : List (Nat × Nat)} {Q : SExit → St → Prop} {st : St} : goReg P s_farandoleref01_SameValues_r4 o p Q st = goLit P (litOf s_farandoleref01_SameValues_r4.eq_1) o p Q st := goReg_of _
theorem u_farandoleref01_SameValues_r5 {P : Program} {o : Nat} {p : List (Nat × Nat)} {Q : SExit → St → Prop} {st : St} : goReg P s_farandoleref01_SameValues_r5 o p Q st = goLit P (litOf s_farandoleref01_SameValues_r5.eq_1) o p Q st := goReg_of _
theorem u_farandoleref01_SameValues_r6 {P : Program} {o : Nat} {p : List (Nat × Nat)} {Q : SExit → St → Prop} {st : St} : goReg P s_farandoleref01_SameValues_r6 o p Q st = goLit P (litOf s_farandoleref01_SameValues_r6.eq_1) o p Q st := goReg_of _
theorem u_farandoleref01_SameValues_r7 {P : Program} {o : Nat} {p : List (Nat × Nat)} {Q : SExit → St → Prop} {st : St} : goReg P s_farandoleref01_SameValues_r7 o p Q st = goLit P (litOf s_farandoleref01_SameValues_r7.eq_1) o p Q st := goReg_of _
theorem u_farandoleref01_SameValues_r9 {P : Program} {o : Nat} {p : List (Nat × Nat)} {Q : SExit → St → Prop} {st : St} : goReg P s_farandoleref01_SameValues_r9 o p Q st = goLit P (litOf s_farandoleref01_SameValues_r9.eq_1) o p Q st := goReg_of _
attribute [go_sem] u_farandoleref01_SameValues_r0 u_farandoleref01_SameValues_r1 u_farandoleref01_SameValues_r2 u_farandoleref01_SameValues_r3 u_farandoleref01_SameValues_r4 u_farandoleref01_SameValues_r5 u_farandoleref01_SameValues_r6 u_farandoleref01_SameValues_r7 e_farandoleref01_SameValues_l8 u_farandoleref01_SameValues_r9 e_farandoleref01_SameValues
set_option maxRecDepth 100000 in
theorem c_farandoleref01_SameValues : Try.f78.body.bind (compCode Try.prog Try.f78.ntmps news) = some s_farandoleref01_SameValues := by kernel_rfl
theorem r_farandoleref01_SameValues : Try.f78.results.toList.mapM (compRes Try.prog) = some [(.tmp 4)] := by kernel_rfl
theorem n_farandoleref01_SameValues : Try.f78.ntmps = 26 := by kernel_rfl
theorem b_farandoleref01_SameValues : (Try.prog.funcs[78]?).any (fun fn => fn.body.isSome && !(fn.name == "runtime.NumGoroutine")) = true := by kernel_rfl
theorem ko_farandoleref01_SameValues {args : List ASlot} {r : ASlot} {objs objs' : List AObj} (h : AWp Try.prog objs.length s_farandoleref01_SameValues (bodyQ objs.length [(.tmp 4)] [r] objs') (entrySt args objs)) (hN : args.length ≤ 26 := by simp) (hw : ltB 16 (toksOf args ++ osToks objs) = true := by rfl) : ACall Try.prog 78 args objs r objs' :=
  acall_go (rs := [r]) follows Try.func78 c_farandoleref01_SameValues r_farandoleref01_SameValues h (by rw [n_farandoleref01_SameValues]; exact hN) rfl hw
theorem k_farandoleref01_SameValues {args : List ASlot} {r : ASlot} (h : AWp Try.prog 0 s_farandoleref01_SameValues (bodyQ 0 [(.tmp 4)] [r] []) (entrySt args [])) (hN : args.length ≤ 26 := by simp) (hw : ltB 16 (toksOf args ++ osToks []) = true := by rfl) : ACall Try.prog 78 args [] r [] := ko_farandoleref01_SameValues h hN hw

noncomputable def s_farandoleref01_SameInts_r0 : List SOper := [
  ⟨(some 4), .mov (.k (.d (.bool false))), none⟩]
noncomputable def s_farandoleref01_SameInts_r1 : List SOper := [
  ⟨(some 6), .mov (.t 0), none⟩,
  ⟨(some 7), .len (.t 6), none⟩,
  ⟨(some 8), .mov (.t 1), none⟩,
  ⟨(some 9), .len (.t 8), none⟩,
  ⟨(some 10), .bin .neq (.t 7) (.t 9), none⟩]
noncomputable def s_farandoleref01_SameInts_r2 : List SOper := [
  ⟨(some 4), .mov (.k (.d (.bool false))), none⟩]
noncomputable def s_farandoleref01_SameInts_r3 : List SOper := [
  ⟨(some 5), .mov (.k (.d (.int .i64 0))), none⟩]
noncomputable def s_farandoleref01_SameInts_r4 : List SOper := [
  ⟨(some 11), .mov (.t 5), none⟩,
  ⟨(some 12), .mov (.t 0), none⟩,
  ⟨(some 13), .len (.t 12), none⟩,
  ⟨(some 14), .bin .lss (.t 11) (.t 13), none⟩]
noncomputable def s_farandoleref01_SameInts_r5 : List SOper := [
  ⟨(some 17), .mov (.t 0), none⟩,
  ⟨(some 18), .mov (.t 5), none⟩,
  ⟨(some 19), .iaddr 1 (.t 17) (.t 18), none⟩,
  ⟨(some 20), .load none (.t 19), none⟩,
  ⟨(some 21), .mov (.t 1), none⟩,
  ⟨(some 22), .mov (.t 5), none⟩,
  ⟨(some 23), .iaddr 1 (.t 21) (.t 22), none⟩,
  ⟨(some 24), .load none (.t 23), none⟩,
  ⟨(some 25), .bin .neq (.t 20) (.t 24), none⟩]
noncomputable def s_farandoleref01_SameInts_r6 : List SOper := [
  ⟨(some 4), .mov (.k (.d (.bool false))), none⟩]
noncomputable def s_farandoleref01_SameInts_r7 : List SOper := [
  ⟨(some 15), .mov (.t 5), none⟩,
  ⟨(some 16), .bin .add (.t 15) (.k (.d (.int .i64 1))), none⟩,
  ⟨(some 5), .mov (.t 16), none⟩]
noncomputable def s_farandoleref01_SameInts_l8 : SCode := (.seq (.seq (.region s_farandoleref01_SameInts_r4 0 []) (.cond (.t 14) .skip (.exit 0))) (.seq (.block 1 (.seq (.region s_farandoleref01_SameInts_r5 0 []) (.cond (.t 25) (.seq (.region s_farandoleref01_SameInts_r6 0 []) .ret) .skip))) (.region s_farandoleref01_SameInts_r7 0 [])))
theorem e_farandoleref01_SameInts_l8 {P : Program} {k0 : Nat} {Q : SExit → St → Prop} {st : St} : AWp P k0 s_farandoleref01_SameInts_l8 Q st = AWp P k0 (.seq (.seq (.region s_farandoleref01_SameInts_r4 0 []) (.cond (.t 14) .skip (.exit 0))) (.seq (.block 1 (.seq (.region s_farandoleref01_SameInts_r5 0 []) (.cond (.t 25) (.seq (.region s_farandoleref01_SameInts_r6 0 []) .ret) .skip))) (.region s_farandoleref01_SameInts_r7 0 []))) Q st := rfl
noncomputable def s_farandoleref01_SameInts_r9 : List SOper := [
  ⟨(some 4), .mov (.k (.d (.bool true))), none⟩]
noncomputable def s_farandoleref01_SameInts : SCode := (.seq (.region s_farandoleref01_SameInts_r0 0 []) (.seq (.seq (.region s_farandoleref01_SameInts_r1 0 []) (.cond (.t 10) (.seq (.region s_farandoleref01_SameInts_r2 0 []) .ret) .skip)) (.seq (.seq (.region s_farandoleref01_SameInts_r3 0 []) (.block 0 (.loop s_farandoleref01_SameInts_l8))) (.seq (.region s_farandoleref01_SameInts_r9 0 []) .ret))))
theorem e_farandoleref01_SameInts {P : Program} {k0 : Nat} {Q : SExit → St → Prop} {st : St} : AWp P k0 s_farandoleref01_SameInts Q st = AWp P k0 (.seq (.region s_farandoleref01_SameInts_r0 0 []) (.seq (.seq (.region s_farandoleref01_SameInts_r1 0 []) (.cond (.t 10) (.seq (.region s_farandoleref01_SameInts_r2 0 []) .ret) .skip)) (.seq (.seq (.region s_farandoleref01_SameInts_r3 0 []) (.block 0 (.loop s_farandoleref01_SameInts_l8))) (.seq (.region s_farandoleref01_SameInts_r9 0 []) .ret)))) Q st := rfl
theorem u_farandoleref01_SameInts_r0 {P : Program} {o : Nat} {p : List (Nat × Nat)} {Q : SExit → St → Prop} {st : St} : goReg P s_farandoleref01_SameInts_r0 o p Q st = goLit P (litOf s_farandoleref01_SameInts_r0.eq_1) o p Q st := goReg_of _
theorem u_farandoleref01_SameInts_r1 {P : Program} {o : Nat} {p : List (Nat × Nat)} {Q : SExit → St → Prop} {st : St} : goReg P s_farandoleref01_SameInts_r1 o p Q st = goLit P (litOf s_farandoleref01_SameInts_r1.eq_1) o p Q st := goReg_of _
theorem u_farandoleref01_SameInts_r2 {P : Program} {o : Nat} {p : List (Nat × Nat)} {Q : SExit → St → Prop} {st : St} : goReg P s_farandoleref01_SameInts_r2 o p Q st = goLit P (litOf s_farandoleref01_SameInts_r2.eq_1) o p Q st := goReg_of _
theorem u_farandoleref01_SameInts_r3 {P : Program} {o : Nat} {p : List (Nat × Nat)} {Q : SExit → St → Prop} {st : St} : goReg P s_farandoleref01_SameInts_r3 o p Q st = goLit P (litOf s_farandoleref01_SameInts_r3.eq_1) o p Q st := goReg_of _
theorem u_farandoleref01_SameInts_r4 {P : Program} {o : Nat} {p : List (Nat × Nat)} {Q : SExit → St → Prop} {st : St} : goReg P s_farandoleref01_SameInts_r4 o p Q st = goLit P (litOf s_farandoleref01_SameInts_r4.eq_1) o p Q st := goReg_of _
theorem u_farandoleref01_SameInts_r5 {P : Program} {o : Nat} {p : List (Nat × Nat)} {Q : SExit → St → Prop} {st : St} : goReg P s_farandoleref01_SameInts_r5 o p Q st = goLit P (litOf s_farandoleref01_SameInts_r5.eq_1) o p Q st := goReg_of _
theorem u_farandoleref01_SameInts_r6 {P : Program} {o : Nat} {p : List (Nat × Nat)} {Q : SExit → St → Prop} {st : St} : goReg P s_farandoleref01_SameInts_r6 o p Q st = goLit P (litOf s_farandoleref01_SameInts_r6.eq_1) o p Q st := goReg_of _
theorem u_farandoleref01_SameInts_r7 {P : Program} {o : Nat} {p : List (Nat × Nat)} {Q : SExit → St → Prop} {st : St} : goReg P s_farandoleref01_SameInts_r7 o p Q st = goLit P (litOf s_farandoleref01_SameInts_r7.eq_1) o p Q st := goReg_of _
theorem u_farandoleref01_SameInts_r9 {P : Program} {o : Nat} {p : List (Nat × Nat)} {Q : SExit → St → Prop} {st : St} : goReg P s_farandoleref01_SameInts_r9 o p Q st = goLit P (litOf s_farandoleref01_SameInts_r9.eq_1) o p Q st := goReg_of _
attribute [go_sem] u_farandoleref01_SameInts_r0 u_farandoleref01_SameInts_r1 u_farandoleref01_SameInts_r2 u_farandoleref01_SameInts_r3 u_farandoleref01_SameInts_r4 u_farandoleref01_SameInts_r5 u_farandoleref01_SameInts_r6 u_farandoleref01_SameInts_r7 e_farandoleref01_SameInts_l8 u_farandoleref01_SameInts_r9 e_farandoleref01_SameInts
set_option maxRecDepth 100000 in
theorem c_farandoleref01_SameInts : Try.f79.body.bind (compCode Try.prog Try.f79.ntmps news) = some s_farandoleref01_SameInts := by kernel_rfl
theorem r_farandoleref01_SameInts : Try.f79.results.toList.mapM (compRes Try.prog) = some [(.tmp 4)] := by kernel_rfl
theorem n_farandoleref01_SameInts : Try.f79.ntmps = 26 := by kernel_rfl
theorem b_farandoleref01_SameInts : (Try.prog.funcs[79]?).any (fun fn => fn.body.isSome && !(fn.name == "runtime.NumGoroutine")) = true := by kernel_rfl
theorem ko_farandoleref01_SameInts {args : List ASlot} {r : ASlot} {objs objs' : List AObj} (h : AWp Try.prog objs.length s_farandoleref01_SameInts (bodyQ objs.length [(.tmp 4)] [r] objs') (entrySt args objs)) (hN : args.length ≤ 26 := by simp) (hw : ltB 16 (toksOf args ++ osToks objs) = true := by rfl) : ACall Try.prog 79 args objs r objs' :=
  acall_go (rs := [r]) follows Try.func79 c_farandoleref01_SameInts r_farandoleref01_SameInts h (by rw [n_farandoleref01_SameInts]; exact hN) rfl hw
theorem k_farandoleref01_SameInts {args : List ASlot} {r : ASlot} (h : AWp Try.prog 0 s_farandoleref01_SameInts (bodyQ 0 [(.tmp 4)] [r] []) (entrySt args [])) (hN : args.length ≤ 26 := by simp) (hw : ltB 16 (toksOf args ++ osToks []) = true := by rfl) : ACall Try.prog 79 args [] r [] := ko_farandoleref01_SameInts h hN hw

noncomputable def s_farandoleref46_Equal_r0 : List SOper := [
  ⟨(some 2), .box 2 (.t 0), none⟩,
  ⟨(some 3), .box 1 (.t 1), none⟩,
  ⟨(some 4), .mov (.k (.d (.bool false))), none⟩]
noncomputable def s_farandoleref46_Equal_r1 : List SOper := [
  ⟨(some 5), .faddr 0 (.t 2), none⟩,
  ⟨(some 6), .load none (.t 5), none⟩,
  ⟨(some 7), .faddr 0 (.t 3), none⟩,
  ⟨(some 8), .load none (.t 7), none⟩,
  ⟨(some 9), .bin .eql (.t 6) (.t 8), none⟩,
  ⟨(some 10), .mov (.t 9), none⟩,
  ⟨(some 11), .faddr 1 (.t 2), (some (10, true))⟩,
  ⟨(some 12), .load none (.t 11), (some (10, true))⟩,
  ⟨(some 13), .faddr 1 (.t 3), (some (10, true))⟩,
  ⟨(some 14), .load none (.t 13), (some (10, true))⟩,
  ⟨(some 15), .bin .eql (.t 12) (.t 14), (some (10, true))⟩,
  ⟨(some 16), .pick (.t 10) (.t 15) (.k (.d (.bool false))), none⟩,
  ⟨(some 17), .mov (.t 16), none⟩,
  ⟨(some 18), .faddr 2 (.t 2), (some (17, true))⟩,
  ⟨(some 19), .load none (.t 18), (some (17, true))⟩,
  ⟨(some 20), .faddr 2 (.t 3), (some (17, true))⟩,
  ⟨(some 21), .load none (.t 20), (some (17, true))⟩,
  ⟨(some 22), .bin .eql (.t 19) (.t 21), (some (17, true))⟩,
  ⟨(some 23), .pick (.t 17) (.t 22) (.k (.d (.bool false))), none⟩,
  ⟨(some 24), .mov (.t 23), none⟩,
  ⟨(some 25), .faddr 3 (.t 2), (some (24, true))⟩,
  ⟨(some 26), .load none (.t 25), (some (24, true))⟩,
  ⟨(some 27), .faddr 3 (.t 3), (some (24, true))⟩,
  ⟨(some 28), .load none (.t 27), (some (24, true))⟩,
  ⟨(some 29), .bin .eql (.t 26) (.t 28), (some (24, true))⟩,
  ⟨(some 30), .pick (.t 24) (.t 29) (.k (.d (.bool false))), none⟩,
  ⟨(some 31), .mov (.t 30), none⟩,
  ⟨(some 32), .faddr 4 (.t 2), (some (31, true))⟩,
  ⟨(some 33), .load none (.t 32), (some (31, true))⟩,
  ⟨(some 34), .faddr 4 (.t 3), (some (31, true))⟩,
  ⟨(some 35), .load none (.t 34), (some (31, true))⟩,
  ⟨(some 36), .bin .eql (.t 33) (.t 35), (some (31, true))⟩,
  ⟨(some 37), .pick (.t 31) (.t 36) (.k (.d (.bool false))), none⟩,
  ⟨(some 38), .mov (.t 37), none⟩,
  ⟨(some 39), .faddr 5 (.t 2), (some (38, true))⟩,
  ⟨(some 40), .load none (.t 39), (some (38, true))⟩,
  ⟨(some 41), .faddr 5 (.t 3), (some (38, true))⟩,
  ⟨(some 42), .load none (.t 41), (some (38, true))⟩,
  ⟨(some 43), .bin .eql (.t 40) (.t 42), (some (38, true))⟩,
  ⟨(some 44), .pick (.t 38) (.t 43) (.k (.d (.bool false))), none⟩,
  ⟨(some 45), .mov (.t 44), none⟩,
  ⟨(some 46), .faddr 6 (.t 2), (some (45, true))⟩,
  ⟨(some 47), .load none (.t 46), (some (45, true))⟩,
  ⟨(some 48), .faddr 6 (.t 3), (some (45, true))⟩,
  ⟨(some 49), .load none (.t 48), (some (45, true))⟩,
  ⟨(some 50), .bin .eql (.t 47) (.t 49), (some (45, true))⟩,
  ⟨(some 51), .pick (.t 45) (.t 50) (.k (.d (.bool false))), none⟩,
  ⟨(some 52), .mov (.t 51), none⟩,
  ⟨(some 53), .faddr 7 (.t 2), (some (52, true))⟩,
  ⟨(some 54), .load none (.t 53), (some (52, true))⟩,
  ⟨(some 55), .faddr 7 (.t 3), (some (52, true))⟩,
  ⟨(some 56), .load none (.t 55), (some (52, true))⟩,
  ⟨(some 57), .call (.k (.d (.func (.func 78) [] []))) [(.t 54), (.t 56)], (some (52, true))⟩,
  ⟨(some 58), .pick (.t 52) (.t 57) (.k (.d (.bool false))), none⟩,
  ⟨(some 59), .mov (.t 58), none⟩,
  ⟨(some 60), .faddr 8 (.t 2), (some (59, true))⟩,
  ⟨(some 61), .load none (.t 60), (some (59, true))⟩,
  ⟨(some 62), .faddr 8 (.t 3), (some (59, true))⟩,
  ⟨(some 63), .load none (.t 62), (some (59, true))⟩,
  ⟨(some 64), .call (.k (.d (.func (.func 79) [] []))) [(.t 61), (.t 63)], (some (59, true))⟩,
  ⟨(some 65), .pick (.t 59) (.t 64) (.k (.d (.bool false))), none⟩,
  ⟨(some 4), .mov (.t 65), none⟩]
noncomputable def s_farandoleref46_Equal : SCode := (.seq (.region s_farandoleref46_Equal_r0 2 []) (.seq (.region s_farandoleref46_Equal_r1 0 []) .ret))
theorem e_farandoleref46_Equal {P : Program} {k0 : Nat} {Q : SExit → St → Prop} {st : St} : AWp P k0 s_farandoleref46_Equal Q st = AWp P k0 (.seq (.region s_farandoleref46_Equal_r0 2 []) (.seq (.region s_farandoleref46_Equal_r1 0 []) .ret)) Q st := rfl
theorem u_farandoleref46_Equal_r0 {P : Program} {o : Nat} {p : List (Nat × Nat)} {Q : SExit → St → Prop} {st : St} : goReg P s_farandoleref46_Equal_r0 o p Q st = goLit P (litOf s_farandoleref46_Equal_r0.eq_1) o p Q st := goReg_of _
theorem u_farandoleref46_Equal_r1 {P : Program} {o : Nat} {p : List (Nat × Nat)} {Q : SExit → St → Prop} {st : St} : goReg P s_farandoleref46_Equal_r1 o p Q st = goLit P (litOf s_farandoleref46_Equal_r1.eq_1) o p Q st := goReg_of _
attribute [go_sem] u_farandoleref46_Equal_r0 u_farandoleref46_Equal_r1 e_farandoleref46_Equal
set_option maxRecDepth 100000 in
theorem c_farandoleref46_Equal : Try.f46.body.bind (compCode Try.prog Try.f46.ntmps news) = some s_farandoleref46_Equal := by kernel_rfl
theorem r_farandoleref46_Equal : Try.f46.results.toList.mapM (compRes Try.prog) = some [(.tmp 4)] := by kernel_rfl
theorem n_farandoleref46_Equal : Try.f46.ntmps = 66 := by kernel_rfl
theorem b_farandoleref46_Equal : (Try.prog.funcs[46]?).any (fun fn => fn.body.isSome && !(fn.name == "runtime.NumGoroutine")) = true := by kernel_rfl
theorem ko_farandoleref46_Equal {args : List ASlot} {r : ASlot} {objs objs' : List AObj} (h : AWp Try.prog objs.length s_farandoleref46_Equal (bodyQ objs.length [(.tmp 4)] [r] objs') (entrySt args objs)) (hN : args.length ≤ 66 := by simp) (hw : ltB 16 (toksOf args ++ osToks objs) = true := by rfl) : ACall Try.prog 46 args objs r objs' :=
  acall_go (rs := [r]) follows Try.func46 c_farandoleref46_Equal r_farandoleref46_Equal h (by rw [n_farandoleref46_Equal]; exact hN) rfl hw
theorem k_farandoleref46_Equal {args : List ASlot} {r : ASlot} (h : AWp Try.prog 0 s_farandoleref46_Equal (bodyQ 0 [(.tmp 4)] [r] []) (entrySt args [])) (hN : args.length ≤ 66 := by simp) (hw : ltB 16 (toksOf args ++ osToks []) = true := by rfl) : ACall Try.prog 46 args [] r [] := ko_farandoleref46_Equal h hN hw

noncomputable def s_farandoleref46_SameAll_r0 : List SOper := [
  ⟨(some 4), .mov (.k (.d (.bool false))), none⟩]
noncomputable def s_farandoleref46_SameAll_r1 : List SOper := [
  ⟨(some 6), .mov (.t 0), none⟩,
  ⟨(some 7), .len (.t 6), none⟩,
  ⟨(some 8), .mov (.t 1), none⟩,
  ⟨(some 9), .len (.t 8), none⟩,
  ⟨(some 10), .bin .neq (.t 7) (.t 9), none⟩]
noncomputable def s_farandoleref46_SameAll_r2 : List SOper := [
  ⟨(some 4), .mov (.k (.d (.bool false))), none⟩]
noncomputable def s_farandoleref46_SameAll_r3 : List SOper := [
  ⟨(some 5), .mov (.k (.d (.int .i64 0))), none⟩]
noncomputable def s_farandoleref46_SameAll_r4 : List SOper := [
  ⟨(some 11), .mov (.t 5), none⟩,
  ⟨(some 12), .mov (.t 0), none⟩,
  ⟨(some 13), .len (.t 12), none⟩,
  ⟨(some 14), .bin .lss (.t 11) (.t 13), none⟩]
noncomputable def s_farandoleref46_SameAll_r5 : List SOper := [
  ⟨(some 17), .mov (.t 0), none⟩,
  ⟨(some 18), .mov (.t 5), none⟩,
  ⟨(some 19), .iaddr 9 (.t 17) (.t 18), none⟩,
  ⟨(some 20), .load (some 9) (.t 19), none⟩,
  ⟨(some 21), .mov (.t 1), none⟩,
  ⟨(some 22), .mov (.t 5), none⟩,
  ⟨(some 23), .iaddr 9 (.t 21) (.t 22), none⟩,
  ⟨(some 24), .load (some 9) (.t 23), none⟩,
  ⟨(some 25), .call (.k (.d (.func (.func 46) [] []))) [(.t 20), (.t 24)], none⟩,
  ⟨(some 26), .not (.t 25), none⟩]
noncomputable def s_farandoleref46_SameAll_r6 : List SOper := [
  ⟨(some 4), .mov (.k (.d (.bool false))), none⟩]
noncomputable def s_farandoleref46_SameAll_r7 : List SOper := [
  ⟨(some 15), .mov (.t 5), none⟩,
  ⟨(some 16), .bin .add (.t 15) (.k (.d (.int .i64 1))), none⟩,
  ⟨(some 5), .mov (.t 16), none⟩]
noncomputable def s_farandoleref46_SameAll_l8 : SCode := (.seq (.seq (.region s_farandoleref46_SameAll_r4 0 []) (.cond (.t 14) .skip (.exit 0))) (.seq (.block 1 (.seq (.region s_farandoleref46_SameAll_r5 0 []) (.cond (.t 26) (.seq (.region s_farandoleref46_SameAll_r6 0 []) .ret) .skip))) (.region s_farandoleref46_SameAll_r7 0 [])))
theorem e_farandoleref46_SameAll_l8 {P : Program} {k0 : Nat} {Q : SExit → St → Prop} {st : St} : AWp P k0 s_farandoleref46_SameAll_l8 Q st = AWp P k0 (.seq (.seq (.region s_farandoleref46_SameAll_r4 0 []) (.cond (.t 14) .skip (.exit 0))) (.seq (.block 1 (.seq (.region s_farandoleref46_SameAll_r5 0 []) (.cond (.t 26) (.seq (.region s_farandoleref46_SameAll_r6 0 []) .ret) .skip))) (.region s_farandoleref46_SameAll_r7 0 []))) Q st := rfl
noncomputable def s_farandoleref46_SameAll_r9 : List SOper := [
  ⟨(some 4), .mov (.k (.d (.bool true))), none⟩]
noncomputable def s_farandoleref46_SameAll : SCode := (.seq (.region s_farandoleref46_SameAll_r0 0 []) (.seq (.seq (.region s_farandoleref46_SameAll_r1 0 []) (.cond (.t 10) (.seq (.region s_farandoleref46_SameAll_r2 0 []) .ret) .skip)) (.seq (.seq (.region s_farandoleref46_SameAll_r3 0 []) (.block 0 (.loop s_farandoleref46_SameAll_l8))) (.seq (.region s_farandoleref46_SameAll_r9 0 []) .ret))))
theorem e_farandoleref46_SameAll {P : Program} {k0 : Nat} {Q : SExit → St → Prop} {st : St} : AWp P k0 s_farandoleref46_SameAll Q st = AWp P k0 (.seq (.region s_farandoleref46_SameAll_r0 0 []) (.seq (.seq (.region s_farandoleref46_SameAll_r1 0 []) (.cond (.t 10) (.seq (.region s_farandoleref46_SameAll_r2 0 []) .ret) .skip)) (.seq (.seq (.region s_farandoleref46_SameAll_r3 0 []) (.block 0 (.loop s_farandoleref46_SameAll_l8))) (.seq (.region s_farandoleref46_SameAll_r9 0 []) .ret)))) Q st := rfl
theorem u_farandoleref46_SameAll_r0 {P : Program} {o : Nat} {p : List (Nat × Nat)} {Q : SExit → St → Prop} {st : St} : goReg P s_farandoleref46_SameAll_r0 o p Q st = goLit P (litOf s_farandoleref46_SameAll_r0.eq_1) o p Q st := goReg_of _
theorem u_farandoleref46_SameAll_r1 {P : Program} {o : Nat} {p : List (Nat × Nat)} {Q : SExit → St → Prop} {st : St} : goReg P s_farandoleref46_SameAll_r1 o p Q st = goLit P (litOf s_farandoleref46_SameAll_r1.eq_1) o p Q st := goReg_of _
theorem u_farandoleref46_SameAll_r2 {P : Program} {o : Nat} {p : List (Nat × Nat)} {Q : SExit → St → Prop} {st : St} : goReg P s_farandoleref46_SameAll_r2 o p Q st = goLit P (litOf s_farandoleref46_SameAll_r2.eq_1) o p Q st := goReg_of _
theorem u_farandoleref46_SameAll_r3 {P : Program} {o : Nat} {p : List (Nat × Nat)} {Q : SExit → St → Prop} {st : St} : goReg P s_farandoleref46_SameAll_r3 o p Q st = goLit P (litOf s_farandoleref46_SameAll_r3.eq_1) o p Q st := goReg_of _
theorem u_farandoleref46_SameAll_r4 {P : Program} {o : Nat} {p : List (Nat × Nat)} {Q : SExit → St → Prop} {st : St} : goReg P s_farandoleref46_SameAll_r4 o p Q st = goLit P (litOf s_farandoleref46_SameAll_r4.eq_1) o p Q st := goReg_of _
theorem u_farandoleref46_SameAll_r5 {P : Program} {o : Nat} {p : List (Nat × Nat)} {Q : SExit → St → Prop} {st : St} : goReg P s_farandoleref46_SameAll_r5 o p Q st = goLit P (litOf s_farandoleref46_SameAll_r5.eq_1) o p Q st := goReg_of _
theorem u_farandoleref46_SameAll_r6 {P : Program} {o : Nat} {p : List (Nat × Nat)} {Q : SExit → St → Prop} {st : St} : goReg P s_farandoleref46_SameAll_r6 o p Q st = goLit P (litOf s_farandoleref46_SameAll_r6.eq_1) o p Q st := goReg_of _
theorem u_farandoleref46_SameAll_r7 {P : Program} {o : Nat} {p : List (Nat × Nat)} {Q : SExit → St → Prop} {st : St} : goReg P s_farandoleref46_SameAll_r7 o p Q st = goLit P (litOf s_farandoleref46_SameAll_r7.eq_1) o p Q st := goReg_of _
theorem u_farandoleref46_SameAll_r9 {P : Program} {o : Nat} {p : List (Nat × Nat)} {Q : SExit → St → Prop} {st : St} : goReg P s_farandoleref46_SameAll_r9 o p Q st = goLit P (litOf s_farandoleref46_SameAll_r9.eq_1) o p Q st := goReg_of _
attribute [go_sem] u_farandoleref46_SameAll_r0 u_farandoleref46_SameAll_r1 u_farandoleref46_SameAll_r2 u_farandoleref46_SameAll_r3 u_farandoleref46_SameAll_r4 u_farandoleref46_SameAll_r5 u_farandoleref46_SameAll_r6 u_farandoleref46_SameAll_r7 e_farandoleref46_SameAll_l8 u_farandoleref46_SameAll_r9 e_farandoleref46_SameAll
set_option maxRecDepth 100000 in
theorem c_farandoleref46_SameAll : Try.f69.body.bind (compCode Try.prog Try.f69.ntmps news) = some s_farandoleref46_SameAll := by kernel_rfl
theorem r_farandoleref46_SameAll : Try.f69.results.toList.mapM (compRes Try.prog) = some [(.tmp 4)] := by kernel_rfl
theorem n_farandoleref46_SameAll : Try.f69.ntmps = 27 := by kernel_rfl
theorem b_farandoleref46_SameAll : (Try.prog.funcs[69]?).any (fun fn => fn.body.isSome && !(fn.name == "runtime.NumGoroutine")) = true := by kernel_rfl
theorem ko_farandoleref46_SameAll {args : List ASlot} {r : ASlot} {objs objs' : List AObj} (h : AWp Try.prog objs.length s_farandoleref46_SameAll (bodyQ objs.length [(.tmp 4)] [r] objs') (entrySt args objs)) (hN : args.length ≤ 27 := by simp) (hw : ltB 16 (toksOf args ++ osToks objs) = true := by rfl) : ACall Try.prog 69 args objs r objs' :=
  acall_go (rs := [r]) follows Try.func69 c_farandoleref46_SameAll r_farandoleref46_SameAll h (by rw [n_farandoleref46_SameAll]; exact hN) rfl hw
theorem k_farandoleref46_SameAll {args : List ASlot} {r : ASlot} (h : AWp Try.prog 0 s_farandoleref46_SameAll (bodyQ 0 [(.tmp 4)] [r] []) (entrySt args [])) (hN : args.length ≤ 27 := by simp) (hw : ltB 16 (toksOf args ++ osToks []) = true := by rfl) : ACall Try.prog 69 args [] r [] := ko_farandoleref46_SameAll h hN hw

noncomputable def s_farandoleref46_Few_r0 : List SOper := [
  ⟨(some 1), .box 1 (.t 0), none⟩,
  ⟨(some 2), .mov (.k (.d (.bool false))), none⟩]
noncomputable def s_farandoleref46_Few_r1 : List SOper := [
  ⟨(some 3), .mov (.k (.d (.int .i64 0))), none⟩]
noncomputable def s_farandoleref46_Few_r2 : List SOper := [
  ⟨(some 4), .mov (.t 3), none⟩,
  ⟨(some 5), .faddr 7 (.t 1), none⟩,
  ⟨(some 6), .load none (.t 5), none⟩,
  ⟨(some 7), .len (.t 6), none⟩,
  ⟨(some 8), .bin .lss (.t 4) (.t 7), none⟩]
noncomputable def s_farandoleref46_Few_r3 : List SOper := [
  ⟨(some 11), .faddr 7 (.t 1), none⟩,
  ⟨(some 12), .load none (.t 11), none⟩,
  ⟨(some 13), .mov (.t 3), none⟩,
  ⟨(some 14), .iaddr 3 (.t 12) (.t 13), none⟩,
  ⟨(some 15), .faddr 2 (.t 14), none⟩,
  ⟨(some 16), .load none (.t 15), none⟩,
  ⟨(some 17), .lenS (.t 16), none⟩,
  ⟨(some 18), .bin .gtr (.t 17) (.k (.d (.int .i64 100))), none⟩]
noncomputable def s_farandoleref46_Few_r4 : List SOper := [
  ⟨(some 2), .mov (.k (.d (.bool false))), none⟩]
noncomputable def s_farandoleref46_Few_r5 : List SOper := [
  ⟨(some 9), .mov (.t 3), none⟩,
  ⟨(some 10), .bin .add (.t 9) (.k (.d (.int .i64 1))), none⟩,
  ⟨(some 3), .mov (.t 10), none⟩]
noncomputable def s_farandoleref46_Few_l6 : SCode := (.seq (.seq (.region s_farandoleref46_Few_r2 0 []) (.cond (.t 8) .skip (.exit 0))) (.seq (.block 1 (.seq (.region s_farandoleref46_Few_r3 0 []) (.cond (.t 18) (.seq (.region s_farandoleref46_Few_r4 0 []) .ret) .skip))) (.region s_farandoleref46_Few_r5 0 [])))
theorem e_farandoleref46_Few_l6 {P : Program} {k0 : Nat} {Q : SExit → St → Prop} {st : St} : AWp P k0 s_farandoleref46_Few_l6 Q st = AWp P k0 (.seq (.seq (.region s_farandoleref46_Few_r2 0 []) (.cond (.t 8) .skip (.exit 0))) (.seq (.block 1 (.seq (.region s_farandoleref46_Few_r3 0 []) (.cond (.t 18) (.seq (.region s_farandoleref46_Few_r4 0 []) .ret) .skip))) (.region s_farandoleref46_Few_r5 0 []))) Q st := rfl
noncomputable def s_farandoleref46_Few_r7 : List SOper := [
  ⟨(some 19), .faddr 7 (.t 1), none⟩,
  ⟨(some 20), .load none (.t 19), none⟩,
  ⟨(some 21), .len (.t 20), none⟩,
  ⟨(some 22), .bin .leq (.t 21) (.k (.d (.int .i64 10))), none⟩,
  ⟨(some 23), .mov (.t 22), none⟩,
  ⟨(some 24), .faddr 8 (.t 1), (some (23, true))⟩,
  ⟨(some 25), .load none (.t 24), (some (23, true))⟩,
  ⟨(some 26), .len (.t 25), (some (23, true))⟩,
  ⟨(some 27), .bin .leq (.t 26) (.k (.d (.int .i64 10))), (some (23, true))⟩,
  ⟨(some 28), .pick (.t 23) (.t 27) (.k (.d (.bool false))), none⟩,
  ⟨(some 2), .mov (.t 28), none⟩]
noncomputable def s_farandoleref46_Few : SCode := (.seq (.region s_farandoleref46_Few_r0 1 []) (.seq (.seq (.region s_farandoleref46_Few_r1 0 []) (.block 0 (.loop s_farandoleref46_Few_l6))) (.seq (.region s_farandoleref46_Few_r7 0 []) .ret)))
theorem e_farandoleref46_Few {P : Program} {k0 : Nat} {Q : SExit → St → Prop} {st : St} : AWp P k0 s_farandoleref46_Few Q st = AWp P k0 (.seq (.region s_farandoleref46_Few_r0 1 []) (.seq (.seq (.region s_farandoleref46_Few_r1 0 []) (.block 0 (.loop s_farandoleref46_Few_l6))) (.seq (.region s_farandoleref46_Few_r7 0 []) .ret))) Q st := rfl
theorem u_farandoleref46_Few_r0 {P : Program} {o : Nat} {p : List (Nat × Nat)} {Q : SExit → St → Prop} {st : St} : goReg P s_farandoleref46_Few_r0 o p Q st = goLit P (litOf s_farandoleref46_Few_r0.eq_1) o p Q st := goReg_of _
theorem u_farandoleref46_Few_r1 {P : Program} {o : Nat} {p : List (Nat × Nat)} {Q : SExit → St → Prop} {st : St} : goReg P s_farandoleref46_Few_r1 o p Q st = goLit P (litOf s_farandoleref46_Few_r1.eq_1) o p Q st := goReg_of _
theorem u_farandoleref46_Few_r2 {P : Program} {o : Nat} {p : List (Nat × Nat)} {Q : SExit → St → Prop} {st : St} : goReg P s_farandoleref46_Few_r2 o p Q st = goLit P (litOf s_farandoleref46_Few_r2.eq_1) o p Q st := goReg_of _
theorem u_farandoleref46_Few_r3 {P : Program} {o : Nat} {p : List (Nat × Nat)} {Q : SExit → St → Prop} {st : St} : goReg P s_farandoleref46_Few_r3 o p Q st = goLit P (litOf s_farandoleref46_Few_r3.eq_1) o p Q st := goReg_of _
theorem u_farandoleref46_Few_r4 {P : Program} {o : Nat} {p : List (Nat × Nat)} {Q : SExit → St → Prop} {st : St} : goReg P s_farandoleref46_Few_r4 o p Q st = goLit P (litOf s_farandoleref46_Few_r4.eq_1) o p Q st := goReg_of _
theorem u_farandoleref46_Few_r5 {P : Program} {o : Nat} {p : List (Nat × Nat)} {Q : SExit → St → Prop} {st : St} : goReg P s_farandoleref46_Few_r5 o p Q st = goLit P (litOf s_farandoleref46_Few_r5.eq_1) o p Q st := goReg_of _
theorem u_farandoleref46_Few_r7 {P : Program} {o : Nat} {p : List (Nat × Nat)} {Q : SExit → St → Prop} {st : St} : goReg P s_farandoleref46_Few_r7 o p Q st = goLit P (litOf s_farandoleref46_Few_r7.eq_1) o p Q st := goReg_of _
attribute [go_sem] u_farandoleref46_Few_r0 u_farandoleref46_Few_r1 u_farandoleref46_Few_r2 u_farandoleref46_Few_r3 u_farandoleref46_Few_r4 u_farandoleref46_Few_r5 e_farandoleref46_Few_l6 u_farandoleref46_Few_r7 e_farandoleref46_Few
set_option maxRecDepth 100000 in
theorem c_farandoleref46_Few : Try.f37.body.bind (compCode Try.prog Try.f37.ntmps news) = some s_farandoleref46_Few := by kernel_rfl
theorem r_farandoleref46_Few : Try.f37.results.toList.mapM (compRes Try.prog) = some [(.tmp 2)] := by kernel_rfl
theorem n_farandoleref46_Few : Try.f37.ntmps = 29 := by kernel_rfl
theorem b_farandoleref46_Few : (Try.prog.funcs[37]?).any (fun fn => fn.body.isSome && !(fn.name == "runtime.NumGoroutine")) = true := by kernel_rfl
theorem ko_farandoleref46_Few {args : List ASlot} {r : ASlot} {objs objs' : List AObj} (h : AWp Try.prog objs.length s_farandoleref46_Few (bodyQ objs.length [(.tmp 2)] [r] objs') (entrySt args objs)) (hN : args.length ≤ 29 := by simp) (hw : ltB 16 (toksOf args ++ osToks objs) = true := by rfl) : ACall Try.prog 37 args objs r objs' :=
  acall_go (rs := [r]) follows Try.func37 c_farandoleref46_Few r_farandoleref46_Few h (by rw [n_farandoleref46_Few]; exact hN) rfl hw
theorem k_farandoleref46_Few {args : List ASlot} {r : ASlot} (h : AWp Try.prog 0 s_farandoleref46_Few (bodyQ 0 [(.tmp 2)] [r] []) (entrySt args [])) (hN : args.length ≤ 29 := by simp) (hw : ltB 16 (toksOf args ++ osToks []) = true := by rfl) : ACall Try.prog 37 args [] r [] := ko_farandoleref46_Few h hN hw

noncomputable def s_farandoleref51_Few_r0 : List SOper := [
  ⟨(some 1), .box 1 (.t 0), none⟩,
  ⟨(some 2), .mov (.k (.d (.bool false))), none⟩]
noncomputable def s_farandoleref51_Few_r1 : List SOper := [
  ⟨(some 3), .mov (.k (.d (.int .i64 0))), none⟩]
noncomputable def s_farandoleref51_Few_r2 : List SOper := [
  ⟨(some 4), .mov (.t 3), none⟩,
  ⟨(some 5), .faddr 2 (.t 1), none⟩,
  ⟨(some 6), .load none (.t 5), none⟩,
  ⟨(some 7), .len (.t 6), none⟩,
  ⟨(some 8), .bin .lss (.t 4) (.t 7), none⟩]
noncomputable def s_farandoleref51_Few_r3 : List SOper := [
  ⟨(some 11), .faddr 2 (.t 1), none⟩,
  ⟨(some 12), .load none (.t 11), none⟩,
  ⟨(some 13), .mov (.t 3), none⟩,
  ⟨(some 14), .iaddr 9 (.t 12) (.t 13), none⟩,
  ⟨(some 15), .load (some 9) (.t 14), none⟩,
  ⟨(some 16), .call (.k (.d (.func (.func 37) [] []))) [(.t 15)], none⟩,
  ⟨(some 17), .not (.t 16), none⟩]
noncomputable def s_farandoleref51_Few_r4 : List SOper := [
  ⟨(some 2), .mov (.k (.d (.bool false))), none⟩]
noncomputable def s_farandoleref51_Few_r5 : List SOper := [
  ⟨(some 9), .mov (.t 3), none⟩,
  ⟨(some 10), .bin .add (.t 9) (.k (.d (.int .i64 1))), none⟩,
  ⟨(some 3), .mov (.t 10), none⟩]
noncomputable def s_farandoleref51_Few_l6 : SCode := (.seq (.seq (.region s_farandoleref51_Few_r2 0 []) (.cond (.t 8) .skip (.exit 0))) (.seq (.block 1 (.seq (.region s_farandoleref51_Few_r3 0 []) (.cond (.t 17) (.seq (.region s_farandoleref51_Few_r4 0 []) .ret) .skip))) (.region s_farandoleref51_Few_r5 0 [])))
theorem e_farandoleref51_Few_l6 {P : Program} {k0 : Nat} {Q : SExit → St → Prop} {st : St} : AWp P k0 s_farandoleref51_Few_l6 Q st = AWp P k0 (.seq (.seq (.region s_farandoleref51_Few_r2 0 []) (.cond (.t 8) .skip (.exit 0))) (.seq (.block 1 (.seq (.region s_farandoleref51_Few_r3 0 []) (.cond (.t 17) (.seq (.region s_farandoleref51_Few_r4 0 []) .ret) .skip))) (.region s_farandoleref51_Few_r5 0 []))) Q st := rfl
noncomputable def s_farandoleref51_Few_r7 : List SOper := [
  ⟨(some 18), .faddr 2 (.t 1), none⟩,
  ⟨(some 19), .load none (.t 18), none⟩,
  ⟨(some 20), .len (.t 19), none⟩,
  ⟨(some 21), .bin .leq (.t 20) (.k (.d (.int .i64 8))), none⟩,
  ⟨(some 2), .mov (.t 21), none⟩]
noncomputable def s_farandoleref51_Few : SCode := (.seq (.region s_farandoleref51_Few_r0 1 []) (.seq (.seq (.region s_farandoleref51_Few_r1 0 []) (.block 0 (.loop s_farandoleref51_Few_l6))) (.seq (.region s_farandoleref51_Few_r7 0 []) .ret)))
theorem e_farandoleref51_Few {P : Program} {k0 : Nat} {Q : SExit → St → Prop} {st : St} : AWp P k0 s_farandoleref51_Few Q st = AWp P k0 (.seq (.region s_farandoleref51_Few_r0 1 []) (.seq (.seq (.region s_farandoleref51_Few_r1 0 []) (.block 0 (.loop s_farandoleref51_Few_l6))) (.seq (.region s_farandoleref51_Few_r7 0 []) .ret))) Q st := rfl
theorem u_farandoleref51_Few_r0 {P : Program} {o : Nat} {p : List (Nat × Nat)} {Q : SExit → St → Prop} {st : St} : goReg P s_farandoleref51_Few_r0 o p Q st = goLit P (litOf s_farandoleref51_Few_r0.eq_1) o p Q st := goReg_of _
theorem u_farandoleref51_Few_r1 {P : Program} {o : Nat} {p : List (Nat × Nat)} {Q : SExit → St → Prop} {st : St} : goReg P s_farandoleref51_Few_r1 o p Q st = goLit P (litOf s_farandoleref51_Few_r1.eq_1) o p Q st := goReg_of _
theorem u_farandoleref51_Few_r2 {P : Program} {o : Nat} {p : List (Nat × Nat)} {Q : SExit → St → Prop} {st : St} : goReg P s_farandoleref51_Few_r2 o p Q st = goLit P (litOf s_farandoleref51_Few_r2.eq_1) o p Q st := goReg_of _
theorem u_farandoleref51_Few_r3 {P : Program} {o : Nat} {p : List (Nat × Nat)} {Q : SExit → St → Prop} {st : St} : goReg P s_farandoleref51_Few_r3 o p Q st = goLit P (litOf s_farandoleref51_Few_r3.eq_1) o p Q st := goReg_of _
theorem u_farandoleref51_Few_r4 {P : Program} {o : Nat} {p : List (Nat × Nat)} {Q : SExit → St → Prop} {st : St} : goReg P s_farandoleref51_Few_r4 o p Q st = goLit P (litOf s_farandoleref51_Few_r4.eq_1) o p Q st := goReg_of _
theorem u_farandoleref51_Few_r5 {P : Program} {o : Nat} {p : List (Nat × Nat)} {Q : SExit → St → Prop} {st : St} : goReg P s_farandoleref51_Few_r5 o p Q st = goLit P (litOf s_farandoleref51_Few_r5.eq_1) o p Q st := goReg_of _
theorem u_farandoleref51_Few_r7 {P : Program} {o : Nat} {p : List (Nat × Nat)} {Q : SExit → St → Prop} {st : St} : goReg P s_farandoleref51_Few_r7 o p Q st = goLit P (litOf s_farandoleref51_Few_r7.eq_1) o p Q st := goReg_of _
attribute [go_sem] u_farandoleref51_Few_r0 u_farandoleref51_Few_r1 u_farandoleref51_Few_r2 u_farandoleref51_Few_r3 u_farandoleref51_Few_r4 u_farandoleref51_Few_r5 e_farandoleref51_Few_l6 u_farandoleref51_Few_r7 e_farandoleref51_Few
set_option maxRecDepth 100000 in
theorem c_farandoleref51_Few : Try.f26.body.bind (compCode Try.prog Try.f26.ntmps news) = some s_farandoleref51_Few := by kernel_rfl
theorem r_farandoleref51_Few : Try.f26.results.toList.mapM (compRes Try.prog) = some [(.tmp 2)] := by kernel_rfl
theorem n_farandoleref51_Few : Try.f26.ntmps = 22 := by kernel_rfl
theorem b_farandoleref51_Few : (Try.prog.funcs[26]?).any (fun fn => fn.body.isSome && !(fn.name == "runtime.NumGoroutine")) = true := by kernel_rfl
theorem ko_farandoleref51_Few {args : List ASlot} {r : ASlot} {objs objs' : List AObj} (h : AWp Try.prog objs.length s_farandoleref51_Few (bodyQ objs.length [(.tmp 2)] [r] objs') (entrySt args objs)) (hN : args.length ≤ 22 := by simp) (hw : ltB 16 (toksOf args ++ osToks objs) = true := by rfl) : ACall Try.prog 26 args objs r objs' :=
  acall_go (rs := [r]) follows Try.func26 c_farandoleref51_Few r_farandoleref51_Few h (by rw [n_farandoleref51_Few]; exact hN) rfl hw
theorem k_farandoleref51_Few {args : List ASlot} {r : ASlot} (h : AWp Try.prog 0 s_farandoleref51_Few (bodyQ 0 [(.tmp 2)] [r] []) (entrySt args [])) (hN : args.length ≤ 22 := by simp) (hw : ltB 16 (toksOf args ++ osToks []) = true := by rfl) : ACall Try.prog 26 args [] r [] := ko_farandoleref51_Few h hN hw



def Ssame {α : Type} (es : Nat) (enc : α → List D) (l m : List α) (i : { i : Nat // l.take i = m.take i }) : St :=
  ⟨[(0, true, .d (.sl es (l.map enc))), (1, true, .d (.sl es (m.map enc))), (5, true, .d (.int .i64 (i.val : Nat)))], [], [], 1⟩

theorem take_eq_done {α : Type} [DecidableEq α] {l m : List α} {i : Nat} (h : l.take i = m.take i) (hi : l.length ≤ i) (hlm : l.length = m.length) : decide (l = m) = true := by
  rw [List.take_of_length_le hi, List.take_of_length_le (by omega)] at h
  simp [h]

theorem sameV_ok (l m : List AV) (hl : l.length ≤ 1000) : ACall Try.prog 78 [.d (.sl 3 (l.map encAV)), .d (.sl 3 (m.map encAV))] [] (.d (.bool (decide (l = m)))) [] := by
  refine k_farandoleref01_SameValues ?_
  simp only [e_farandoleref01_SameValues, go_sem, Nat.reduceAdd, Nat.reduceMul, Nat.reduceSub, Nat.reduceEqDiff, Nat.reduceLT, Nat.reduceLeDiff, Nat.reduceBEq, reduceIte, reduceCtorEq, Int.reduceAdd, Int.reduceLT, Int.reduceLE, Int.reduceGT, Int.reduceGE, Int.reduceEq, Int.reduceNe, Int.reduceBEq, Int.reduceBNe, Int.reduceToNat, Int.reduceNeg]
  refine AWp_cond _ rfl rfl (fun h => ?_) (fun h => ?_)
  · have hne : decide (l = m) = false := by rw [decide_eq_false_iff_not]; rintro rfl; simp at h
    try simp only [hne, go_sem, Nat.reduceAdd, Nat.reduceMul, Nat.reduceSub, Nat.reduceEqDiff, Nat.reduceLT, Nat.reduceLeDiff, Nat.reduceBEq, reduceIte, reduceCtorEq, Int.reduceAdd, Int.reduceLT, Int.reduceLE, Int.reduceGT, Int.reduceGE, Int.reduceEq, Int.reduceNe, Int.reduceBEq, Int.reduceBNe, Int.reduceToNat, Int.reduceNeg]
  have hlm : l.length = m.length := by simp at h; omega
  try simp only [go_sem, Nat.reduceAdd, Nat.reduceMul, Nat.reduceSub, Nat.reduceEqDiff, Nat.reduceLT, Nat.reduceLeDiff, Nat.reduceBEq, reduceIte, reduceCtorEq, Int.reduceAdd, Int.reduceLT, Int.reduceLE, Int.reduceGT, Int.reduceGE, Int.reduceEq, Int.reduceNe, Int.reduceBEq, Int.reduceBNe, Int.reduceToNat, Int.reduceNeg]
  refine AWp_loop (Ssame 3 encAV l m) (fun i => l.length - i.val) ⟨0, rfl⟩ ?_ (fun i => ?_)
  · try simp only [Ssame, go_sem, Nat.reduceAdd, Nat.reduceMul, Nat.reduceSub, Nat.reduceEqDiff, Nat.reduceLT, Nat.reduceLeDiff, Nat.reduceBEq, reduceIte, reduceCtorEq, Int.reduceAdd, Int.reduceLT, Int.reduceLE, Int.reduceGT, Int.reduceGE, Int.reduceEq, Int.reduceNe, Int.reduceBEq, Int.reduceBNe, Int.reduceToNat, Int.reduceNeg]
  obtain ⟨i, hi⟩ := i
  try simp only [Ssame, go_sem, Nat.reduceAdd, Nat.reduceMul, Nat.reduceSub, Nat.reduceEqDiff, Nat.reduceLT, Nat.reduceLeDiff, Nat.reduceBEq, reduceIte, reduceCtorEq, Int.reduceAdd, Int.reduceLT, Int.reduceLE, Int.reduceGT, Int.reduceGE, Int.reduceEq, Int.reduceNe, Int.reduceBEq, Int.reduceBNe, Int.reduceToNat, Int.reduceNeg]
  refine AWp_cond _ rfl rfl (fun h => ?_) (fun h => ?_)
  · have hil : i < l.length := by simpa using h
    have him : i < m.length := by omega
    simp only [getD_map encAV l hil, getD_map encAV m him, encAV, beq_AV, go_sem, Nat.reduceAdd, Nat.reduceMul, Nat.reduceSub, Nat.reduceEqDiff, Nat.reduceLT, Nat.reduceLeDiff, Nat.reduceBEq, reduceIte, reduceCtorEq, Int.reduceAdd, Int.reduceLT, Int.reduceLE, Int.reduceGT, Int.reduceGE, Int.reduceEq, Int.reduceNe, Int.reduceBEq, Int.reduceBNe, Int.reduceToNat, Int.reduceNeg]
    repeat (with_reducible refine And.intro (by first | omega | (simp_all; done) | grind) ?_)
    skip
    refine AWp_cond _ rfl rfl (fun h2 => ?_) (fun h2 => ?_)
    · have hne : l[i] ≠ m[i] := by simpa using h2
      try simp only [eq_ne hil him hne, go_sem, Nat.reduceAdd, Nat.reduceMul, Nat.reduceSub, Nat.reduceEqDiff, Nat.reduceLT, Nat.reduceLeDiff, Nat.reduceBEq, reduceIte, reduceCtorEq, Int.reduceAdd, Int.reduceLT, Int.reduceLE, Int.reduceGT, Int.reduceGE, Int.reduceEq, Int.reduceNe, Int.reduceBEq, Int.reduceBNe, Int.reduceToNat, Int.reduceNeg]
    · have he : l[i] = m[i] := by simpa using h2
      try simp only [go_sem, Nat.reduceAdd, Nat.reduceMul, Nat.reduceSub, Nat.reduceEqDiff, Nat.reduceLT, Nat.reduceLeDiff, Nat.reduceBEq, reduceIte, reduceCtorEq, Int.reduceAdd, Int.reduceLT, Int.reduceLE, Int.reduceGT, Int.reduceGE, Int.reduceEq, Int.reduceNe, Int.reduceBEq, Int.reduceBNe, Int.reduceToNat, Int.reduceNeg]
      refine ⟨⟨i + 1, take_eq_succ hi hil him he⟩, ?_, by dsimp only; omega⟩
      simp only [Ssame, wrap_succ (show i < 9223372036854775807 by omega), go_sem, Nat.reduceAdd, Nat.reduceMul, Nat.reduceSub, Nat.reduceEqDiff, Nat.reduceLT, Nat.reduceLeDiff, Nat.reduceBEq, reduceIte, reduceCtorEq, Int.reduceAdd, Int.reduceLT, Int.reduceLE, Int.reduceGT, Int.reduceGE, Int.reduceEq, Int.reduceNe, Int.reduceBEq, Int.reduceBNe, Int.reduceToNat, Int.reduceNeg]
  · try simp only [take_eq_done hi (by simpa using h) hlm, go_sem, Nat.reduceAdd, Nat.reduceMul, Nat.reduceSub, Nat.reduceEqDiff, Nat.reduceLT, Nat.reduceLeDiff, Nat.reduceBEq, reduceIte, reduceCtorEq, Int.reduceAdd, Int.reduceLT, Int.reduceLE, Int.reduceGT, Int.reduceGE, Int.reduceEq, Int.reduceNe, Int.reduceBEq, Int.reduceBNe, Int.reduceToNat, Int.reduceNeg]

theorem sameI_ok (l m : List Int) (hl : l.length ≤ 1000) : ACall Try.prog 79 [.d (.sl 1 (l.map encI)), .d (.sl 1 (m.map encI))] [] (.d (.bool (decide (l = m)))) [] := by
  refine k_farandoleref01_SameInts ?_
  simp only [e_farandoleref01_SameInts, go_sem, Nat.reduceAdd, Nat.reduceMul, Nat.reduceSub, Nat.reduceEqDiff, Nat.reduceLT, Nat.reduceLeDiff, Nat.reduceBEq, reduceIte, reduceCtorEq, Int.reduceAdd, Int.reduceLT, Int.reduceLE, Int.reduceGT, Int.reduceGE, Int.reduceEq, Int.reduceNe, Int.reduceBEq, Int.reduceBNe, Int.reduceToNat, Int.reduceNeg]
  refine AWp_cond _ rfl rfl (fun h => ?_) (fun h => ?_)
  · have hne : decide (l = m) = false := by rw [decide_eq_false_iff_not]; rintro rfl; simp at h
    try simp only [hne, go_sem, Nat.reduceAdd, Nat.reduceMul, Nat.reduceSub, Nat.reduceEqDiff, Nat.reduceLT, Nat.reduceLeDiff, Nat.reduceBEq, reduceIte, reduceCtorEq, Int.reduceAdd, Int.reduceLT, Int.reduceLE, Int.reduceGT, Int.reduceGE, Int.reduceEq, Int.reduceNe, Int.reduceBEq, Int.reduceBNe, Int.reduceToNat, Int.reduceNeg]
  have hlm : l.length = m.length := by simp at h; omega
  try simp only [go_sem, Nat.reduceAdd, Nat.reduceMul, Nat.reduceSub, Nat.reduceEqDiff, Nat.reduceLT, Nat.reduceLeDiff, Nat.reduceBEq, reduceIte, reduceCtorEq, Int.reduceAdd, Int.reduceLT, Int.reduceLE, Int.reduceGT, Int.reduceGE, Int.reduceEq, Int.reduceNe, Int.reduceBEq, Int.reduceBNe, Int.reduceToNat, Int.reduceNeg]
  refine AWp_loop (Ssame 1 encI l m) (fun i => l.length - i.val) ⟨0, rfl⟩ ?_ (fun i => ?_)
  · try simp only [Ssame, go_sem, Nat.reduceAdd, Nat.reduceMul, Nat.reduceSub, Nat.reduceEqDiff, Nat.reduceLT, Nat.reduceLeDiff, Nat.reduceBEq, reduceIte, reduceCtorEq, Int.reduceAdd, Int.reduceLT, Int.reduceLE, Int.reduceGT, Int.reduceGE, Int.reduceEq, Int.reduceNe, Int.reduceBEq, Int.reduceBNe, Int.reduceToNat, Int.reduceNeg]
  obtain ⟨i, hi⟩ := i
  try simp only [Ssame, go_sem, Nat.reduceAdd, Nat.reduceMul, Nat.reduceSub, Nat.reduceEqDiff, Nat.reduceLT, Nat.reduceLeDiff, Nat.reduceBEq, reduceIte, reduceCtorEq, Int.reduceAdd, Int.reduceLT, Int.reduceLE, Int.reduceGT, Int.reduceGE, Int.reduceEq, Int.reduceNe, Int.reduceBEq, Int.reduceBNe, Int.reduceToNat, Int.reduceNeg]
  refine AWp_cond _ rfl rfl (fun h => ?_) (fun h => ?_)
  · have hil : i < l.length := by simpa using h
    have him : i < m.length := by omega
    simp only [getD_map encI l hil, getD_map encI m him, encI, encI, go_sem, Nat.reduceAdd, Nat.reduceMul, Nat.reduceSub, Nat.reduceEqDiff, Nat.reduceLT, Nat.reduceLeDiff, Nat.reduceBEq, reduceIte, reduceCtorEq, Int.reduceAdd, Int.reduceLT, Int.reduceLE, Int.reduceGT, Int.reduceGE, Int.reduceEq, Int.reduceNe, Int.reduceBEq, Int.reduceBNe, Int.reduceToNat, Int.reduceNeg]
    repeat (with_reducible refine And.intro (by first | omega | (simp_all; done) | grind) ?_)
    skip
    refine AWp_cond _ rfl rfl (fun h2 => ?_) (fun h2 => ?_)
    · have hne : l[i] ≠ m[i] := by simpa using h2
      try simp only [eq_ne hil him hne, go_sem, Nat.reduceAdd, Nat.reduceMul, Nat.reduceSub, Nat.reduceEqDiff, Nat.reduceLT, Nat.reduceLeDiff, Nat.reduceBEq, reduceIte, reduceCtorEq, Int.reduceAdd, Int.reduceLT, Int.reduceLE, Int.reduceGT, Int.reduceGE, Int.reduceEq, Int.reduceNe, Int.reduceBEq, Int.reduceBNe, Int.reduceToNat, Int.reduceNeg]
    · have he : l[i] = m[i] := by simpa using h2
      try simp only [go_sem, Nat.reduceAdd, Nat.reduceMul, Nat.reduceSub, Nat.reduceEqDiff, Nat.reduceLT, Nat.reduceLeDiff, Nat.reduceBEq, reduceIte, reduceCtorEq, Int.reduceAdd, Int.reduceLT, Int.reduceLE, Int.reduceGT, Int.reduceGE, Int.reduceEq, Int.reduceNe, Int.reduceBEq, Int.reduceBNe, Int.reduceToNat, Int.reduceNeg]
      refine ⟨⟨i + 1, take_eq_succ hi hil him he⟩, ?_, by dsimp only; omega⟩
      simp only [Ssame, wrap_succ (show i < 9223372036854775807 by omega), go_sem, Nat.reduceAdd, Nat.reduceMul, Nat.reduceSub, Nat.reduceEqDiff, Nat.reduceLT, Nat.reduceLeDiff, Nat.reduceBEq, reduceIte, reduceCtorEq, Int.reduceAdd, Int.reduceLT, Int.reduceLE, Int.reduceGT, Int.reduceGE, Int.reduceEq, Int.reduceNe, Int.reduceBEq, Int.reduceBNe, Int.reduceToNat, Int.reduceNeg]
  · try simp only [take_eq_done hi (by simpa using h) hlm, go_sem, Nat.reduceAdd, Nat.reduceMul, Nat.reduceSub, Nat.reduceEqDiff, Nat.reduceLT, Nat.reduceLeDiff, Nat.reduceBEq, reduceIte, reduceCtorEq, Int.reduceAdd, Int.reduceLT, Int.reduceLE, Int.reduceGT, Int.reduceGE, Int.reduceEq, Int.reduceNe, Int.reduceBEq, Int.reduceBNe, Int.reduceToNat, Int.reduceNeg]

set_option maxRecDepth 10000 in
theorem pkEqual46_ok (p q : Pk) (hp : p.Sm) :
    ACall Try.prog 46 [.d (.agg (encPk p)), .d (.agg (encPk q))] [] (.d (.bool (decide (p = q)))) [] := by
  refine k_farandoleref46_Equal ?_
  simp only [e_farandoleref46_Equal, encPk, go_sem, Nat.reduceAdd, Nat.reduceMul, Nat.reduceSub, Nat.reduceEqDiff, Nat.reduceLT, Nat.reduceLeDiff, Nat.reduceBEq, reduceIte, reduceCtorEq, Int.reduceAdd, Int.reduceLT, Int.reduceLE, Int.reduceGT, Int.reduceGE, Int.reduceEq, Int.reduceNe, Int.reduceBEq, Int.reduceBNe, Int.reduceToNat, Int.reduceNeg]
  (repeat (with_reducible refine And.intro (by first | omega | (simp_all; done) | grind) ?_)); refine callO_pure (sameV_ok p.values q.values hp.1) b_farandoleref01_SameValues (fun h => by first | exact h | (simp only [h, Bool.and_self, Bool.and_true])) (fun _ => by first | exact ⟨matchA_refl, trivial⟩ | exact ⟨matchA_refl, matchA_refl, trivial⟩ | exact ⟨matchA_refl, matchA_refl, matchA_refl, trivial⟩ | simp only [encPk, encAV, encI, go_sem, Nat.reduceAdd, Nat.reduceMul, Nat.reduceSub, Nat.reduceEqDiff, Nat.reduceLT, Nat.reduceLeDiff, Nat.reduceBEq, reduceIte, reduceCtorEq, Int.reduceAdd, Int.reduceLT, Int.reduceLE, Int.reduceGT, Int.reduceGE, Int.reduceEq, Int.reduceNe, Int.reduceBEq, Int.reduceBNe, Int.reduceToNat, Int.reduceNeg]) (by simp only [go_sem, Nat.reduceAdd, Nat.reduceMul, Nat.reduceSub, Nat.reduceEqDiff, Nat.reduceLT, Nat.reduceLeDiff, Nat.reduceBEq, reduceIte, reduceCtorEq, Int.reduceAdd, Int.reduceLT, Int.reduceLE, Int.reduceGT, Int.reduceGE, Int.reduceEq, Int.reduceNe, Int.reduceBEq, Int.reduceBNe, Int.reduceToNat, Int.reduceNeg]) rfl rfl ?_
  try simp only [go_sem, Nat.reduceAdd, Nat.reduceMul, Nat.reduceSub, Nat.reduceEqDiff, Nat.reduceLT, Nat.reduceLeDiff, Nat.reduceBEq, reduceIte, reduceCtorEq, Int.reduceAdd, Int.reduceLT, Int.reduceLE, Int.reduceGT, Int.reduceGE, Int.reduceEq, Int.reduceNe, Int.reduceBEq, Int.reduceBNe, Int.reduceToNat, Int.reduceNeg]
  (repeat (with_reducible refine And.intro (by first | omega | (simp_all; done) | grind) ?_)); refine callO_pure (sameI_ok p.clock q.clock hp.2) b_farandoleref01_SameInts (fun h => by first | exact h | (simp only [h, Bool.and_self, Bool.and_true])) (fun _ => by first | exact ⟨matchA_refl, trivial⟩ | exact ⟨matchA_refl, matchA_refl, trivial⟩ | exact ⟨matchA_refl, matchA_refl, matchA_refl, trivial⟩ | simp only [encPk, encAV, encI, go_sem, Nat.reduceAdd, Nat.reduceMul, Nat.reduceSub, Nat.reduceEqDiff, Nat.reduceLT, Nat.reduceLeDiff, Nat.reduceBEq, reduceIte, reduceCtorEq, Int.reduceAdd, Int.reduceLT, Int.reduceLE, Int.reduceGT, Int.reduceGE, Int.reduceEq, Int.reduceNe, Int.reduceBEq, Int.reduceBNe, Int.reduceToNat, Int.reduceNeg]) (by simp only [go_sem, Nat.reduceAdd, Nat.reduceMul, Nat.reduceSub, Nat.reduceEqDiff, Nat.reduceLT, Nat.reduceLeDiff, Nat.reduceBEq, reduceIte, reduceCtorEq, Int.reduceAdd, Int.reduceLT, Int.reduceLE, Int.reduceGT, Int.reduceGE, Int.reduceEq, Int.reduceNe, Int.reduceBEq, Int.reduceBNe, Int.reduceToNat, Int.reduceNeg]) rfl rfl ?_
  try simp only [beq_Pk, go_sem, Nat.reduceAdd, Nat.reduceMul, Nat.reduceSub, Nat.reduceEqDiff, Nat.reduceLT, Nat.reduceLeDiff, Nat.reduceBEq, reduceIte, reduceCtorEq, Int.reduceAdd, Int.reduceLT, Int.reduceLE, Int.reduceGT, Int.reduceGE, Int.reduceEq, Int.reduceNe, Int.reduceBEq, Int.reduceBNe, Int.reduceToNat, Int.reduceNeg]

theorem sameP_ok (l m : List Pk) (hl : l.length ≤ 1000) (hp : ∀ p ∈ l, p.Sm) : ACall Try.prog 69 [.d (.sl 9 (l.map encPk)), .d (.sl 9 (m.map encPk))] [] (.d (.bool (decide (l = m)))) [] := by
  refine k_farandoleref46_SameAll ?_
  simp only [e_farandoleref46_SameAll, go_sem, Nat.reduceAdd, Nat.reduceMul, Nat.reduceSub, Nat.reduceEqDiff, Nat.reduceLT, Nat.reduceLeDiff, Nat.reduceBEq, reduceIte, reduceCtorEq, Int.reduceAdd, Int.reduceLT, Int.reduceLE, Int.reduceGT, Int.reduceGE, Int.reduceEq, Int.reduceNe, Int.reduceBEq, Int.reduceBNe, Int.reduceToNat, Int.reduceNeg]
  refine AWp_cond _ rfl rfl (fun h => ?_) (fun h => ?_)
  · have hne : decide (l = m) = false := by rw [decide_eq_false_iff_not]; rintro rfl; simp at h
    try simp only [hne, go_sem, Nat.reduceAdd, Nat.reduceMul, Nat.reduceSub, Nat.reduceEqDiff, Nat.reduceLT, Nat.reduceLeDiff, Nat.reduceBEq, reduceIte, reduceCtorEq, Int.reduceAdd, Int.reduceLT, Int.reduceLE, Int.reduceGT, Int.reduceGE, Int.reduceEq, Int.reduceNe, Int.reduceBEq, Int.reduceBNe, Int.reduceToNat, Int.reduceNeg]
  have hlm : l.length = m.length := by simp at h; omega
  try simp only [go_sem, Nat.reduceAdd, Nat.reduceMul, Nat.reduceSub, Nat.reduceEqDiff, Nat.reduceLT, Nat.reduceLeDiff, Nat.reduceBEq, reduceIte, reduceCtorEq, Int.reduceAdd, Int.reduceLT, Int.reduceLE, Int.reduceGT, Int.reduceGE, Int.reduceEq, Int.reduceNe, Int.reduceBEq, Int.reduceBNe, Int.reduceToNat, Int.reduceNeg]
  refine AWp_loop (Ssame 9 encPk l m) (fun i => l.length - i.val) ⟨0, rfl⟩ ?_ (fun i => ?_)
  · try simp only [Ssame, go_sem, Nat.reduceAdd, Nat.reduceMul, Nat.reduceSub, Nat.reduceEqDiff, Nat.reduceLT, Nat.reduceLeDiff, Nat.reduceBEq, reduceIte, reduceCtorEq, Int.reduceAdd, Int.reduceLT, Int.reduceLE, Int.reduceGT, Int.reduceGE, Int.reduceEq, Int.reduceNe, Int.reduceBEq, Int.reduceBNe, Int.reduceToNat, Int.reduceNeg]
  obtain ⟨i, hi⟩ := i
  try simp only [Ssame, go_sem, Nat.reduceAdd, Nat.reduceMul, Nat.reduceSub, Nat.reduceEqDiff, Nat.reduceLT, Nat.reduceLeDiff, Nat.reduceBEq, reduceIte, reduceCtorEq, Int.reduceAdd, Int.reduceLT, Int.reduceLE, Int.reduceGT, Int.reduceGE, Int.reduceEq, Int.reduceNe, Int.reduceBEq, Int.reduceBNe, Int.reduceToNat, Int.reduceNeg]
  refine AWp_cond _ rfl rfl (fun h => ?_) (fun h => ?_)
  · have hil : i < l.length := by simpa using h
    have him : i < m.length := by omega
    simp only [getD_map encPk l hil, getD_map encPk m him, encPk, encPk, go_sem, Nat.reduceAdd, Nat.reduceMul, Nat.reduceSub, Nat.reduceEqDiff, Nat.reduceLT, Nat.reduceLeDiff, Nat.reduceBEq, reduceIte, reduceCtorEq, Int.reduceAdd, Int.reduceLT, Int.reduceLE, Int.reduceGT, Int.reduceGE, Int.reduceEq, Int.reduceNe, Int.reduceBEq, Int.reduceBNe, Int.reduceToNat, Int.reduceNeg]
    repeat (with_reducible refine And.intro (by first | omega | (simp_all; done) | grind) ?_)
    ((repeat (with_reducible refine And.intro (by first | omega | (simp_all; done) | grind) ?_)); refine callO_pure (pkEqual46_ok l[i] m[i] (hp _ (List.getElem_mem hil))) b_farandoleref46_Equal (fun h => by first | exact h | (simp only [h, Bool.and_self, Bool.and_true])) (fun _ => by first | exact ⟨matchA_refl, trivial⟩ | exact ⟨matchA_refl, matchA_refl, trivial⟩ | exact ⟨matchA_refl, matchA_refl, matchA_refl, trivial⟩ | simp only [encPk, encAV, encI, go_sem, Nat.reduceAdd, Nat.reduceMul, Nat.reduceSub, Nat.reduceEqDiff, Nat.reduceLT, Nat.reduceLeDiff, Nat.reduceBEq, reduceIte, reduceCtorEq, Int.reduceAdd, Int.reduceLT, Int.reduceLE, Int.reduceGT, Int.reduceGE, Int.reduceEq, Int.reduceNe, Int.reduceBEq, Int.reduceBNe, Int.reduceToNat, Int.reduceNeg]) (by simp only [go_sem, Nat.reduceAdd, Nat.reduceMul, Nat.reduceSub, Nat.reduceEqDiff, Nat.reduceLT, Nat.reduceLeDiff, Nat.reduceBEq, reduceIte, reduceCtorEq, Int.reduceAdd, Int.reduceLT, Int.reduceLE, Int.reduceGT, Int.reduceGE, Int.reduceEq, Int.reduceNe, Int.reduceBEq, Int.reduceBNe, Int.reduceToNat, Int.reduceNeg]) rfl rfl ?_); try simp only [go_sem, Nat.reduceAdd, Nat.reduceMul, Nat.reduceSub, Nat.reduceEqDiff, Nat.reduceLT, Nat.reduceLeDiff, Nat.reduceBEq, reduceIte, reduceCtorEq, Int.reduceAdd, Int.reduceLT, Int.reduceLE, Int.reduceGT, Int.reduceGE, Int.reduceEq, Int.reduceNe, Int.reduceBEq, Int.reduceBNe, Int.reduceToNat, Int.reduceNeg]
    refine AWp_cond _ rfl rfl (fun h2 => ?_) (fun h2 => ?_)
    · have hne : l[i] ≠ m[i] := by simpa using h2
      try simp only [eq_ne hil him hne, go_sem, Nat.reduceAdd, Nat.reduceMul, Nat.reduceSub, Nat.reduceEqDiff, Nat.reduceLT, Nat.reduceLeDiff, Nat.reduceBEq, reduceIte, reduceCtorEq, Int.reduceAdd, Int.reduceLT, Int.reduceLE, Int.reduceGT, Int.reduceGE, Int.reduceEq, Int.reduceNe, Int.reduceBEq, Int.reduceBNe, Int.reduceToNat, Int.reduceNeg]
    · have he : l[i] = m[i] := by simpa using h2
      try simp only [go_sem, Nat.reduceAdd, Nat.reduceMul, Nat.reduceSub, Nat.reduceEqDiff, Nat.reduceLT, Nat.reduceLeDiff, Nat.reduceBEq, reduceIte, reduceCtorEq, Int.reduceAdd, Int.reduceLT, Int.reduceLE, Int.reduceGT, Int.reduceGE, Int.reduceEq, Int.reduceNe, Int.reduceBEq, Int.reduceBNe, Int.reduceToNat, Int.reduceNeg]
      refine ⟨⟨i + 1, take_eq_succ hi hil him he⟩, ?_, by dsimp only; omega⟩
      simp only [Ssame, wrap_succ (show i < 9223372036854775807 by omega), go_sem, Nat.reduceAdd, Nat.reduceMul, Nat.reduceSub, Nat.reduceEqDiff, Nat.reduceLT, Nat.reduceLeDiff, Nat.reduceBEq, reduceIte, reduceCtorEq, Int.reduceAdd, Int.reduceLT, Int.reduceLE, Int.reduceGT, Int.reduceGE, Int.reduceEq, Int.reduceNe, Int.reduceBEq, Int.reduceBNe, Int.reduceToNat, Int.reduceNeg]
  · try simp only [take_eq_done hi (by simpa using h) hlm, go_sem, Nat.reduceAdd, Nat.reduceMul, Nat.reduceSub, Nat.reduceEqDiff, Nat.reduceLT, Nat.reduceLeDiff, Nat.reduceBEq, reduceIte, reduceCtorEq, Int.reduceAdd, Int.reduceLT, Int.reduceLE, Int.reduceGT, Int.reduceGE, Int.reduceEq, Int.reduceNe, Int.reduceBEq, Int.reduceBNe, Int.reduceToNat, Int.reduceNeg]

def short46 (v : AV) : Bool := !decide ((v.s.length : Int) > 100)
def few46 (p : Pk) : Bool := p.values.all short46 && (decide ((p.values.length : Int) ≤ 10) && decide ((p.clock.length : Int) ≤ 10))
def Sfew46 (p : Pk) (i : { i : Nat // (p.values.take i).all short46 = true }) : St := ⟨[(1, true, .d (.ptr 0 0)), (3, true, .d (.int .i64 (i.val : Nat)))], [pkObj p], [], 1⟩
theorem few46_ok (p : Pk) (hp : p.values.length ≤ maxLen) : ACall Try.prog 37 [.d (.agg (encPk p))] [] (.d (.bool (few46 p))) [] := by
  unfold maxLen at hp
  refine k_farandoleref46_Few ?_
  simp only [e_farandoleref46_Few, encPk, go_sem, Nat.reduceAdd, Nat.reduceMul, Nat.reduceSub, Nat.reduceEqDiff, Nat.reduceLT, Nat.reduceLeDiff, Nat.reduceBEq, reduceIte, reduceCtorEq, Int.reduceAdd, Int.reduceLT, Int.reduceLE, Int.reduceGT, Int.reduceGE, Int.reduceEq, Int.reduceNe, Int.reduceBEq, Int.reduceBNe, Int.reduceToNat, Int.reduceNeg]
  refine AWp_loop (Sfew46 p) (fun i => p.values.length - i.val) ⟨0, rfl⟩ ?_ (fun i => ?_)
  · try simp only [Sfew46, pkObj, go_sem, Nat.reduceAdd, Nat.reduceMul, Nat.reduceSub, Nat.reduceEqDiff, Nat.reduceLT, Nat.reduceLeDiff, Nat.reduceBEq, reduceIte, reduceCtorEq, Int.reduceAdd, Int.reduceLT, Int.reduceLE, Int.reduceGT, Int.reduceGE, Int.reduceEq, Int.reduceNe, Int.reduceBEq, Int.reduceBNe, Int.reduceToNat, Int.reduceNeg]
  obtain ⟨i, hi⟩ := i
  try simp only [Sfew46, pkObj, go_sem, Nat.reduceAdd, Nat.reduceMul, Nat.reduceSub, Nat.reduceEqDiff, Nat.reduceLT, Nat.reduceLeDiff, Nat.reduceBEq, reduceIte, reduceCtorEq, Int.reduceAdd, Int.reduceLT, Int.reduceLE, Int.reduceGT, Int.reduceGE, Int.reduceEq, Int.reduceNe, Int.reduceBEq, Int.reduceBNe, Int.reduceToNat, Int.reduceNeg]
  refine AWp_cond _ rfl rfl (fun h => ?_) (fun h => ?_)
  · have hil : i < p.values.length := by simpa using h
    simp only [getD_map encAV p.values hil, encAV, go_sem, Nat.reduceAdd, Nat.reduceMul, Nat.reduceSub, Nat.reduceEqDiff, Nat.reduceLT, Nat.reduceLeDiff, Nat.reduceBEq, reduceIte, reduceCtorEq, Int.reduceAdd, Int.reduceLT, Int.reduceLE, Int.reduceGT, Int.reduceGE, Int.reduceEq, Int.reduceNe, Int.reduceBEq, Int.reduceBNe, Int.reduceToNat, Int.reduceNeg]
    repeat (with_reducible refine And.intro (by first | omega | (simp_all; done) | grind) ?_)
    refine AWp_cond _ rfl rfl (fun h2 => ?_) (fun h2 => ?_)
    · have hg : short46 p.values[i] = false := by simp only [short46, h2]; rfl
      simp only [few46, all_no hil hg, go_sem, Nat.reduceAdd, Nat.reduceMul, Nat.reduceSub, Nat.reduceEqDiff, Nat.reduceLT, Nat.reduceLeDiff, Nat.reduceBEq, reduceIte, reduceCtorEq, Int.reduceAdd, Int.reduceLT, Int.reduceLE, Int.reduceGT, Int.reduceGE, Int.reduceEq, Int.reduceNe, Int.reduceBEq, Int.reduceBNe, Int.reduceToNat, Int.reduceNeg]
    · have hg : short46 p.values[i] = true := by simp only [short46, h2]; rfl
      try simp only [go_sem, Nat.reduceAdd, Nat.reduceMul, Nat.reduceSub, Nat.reduceEqDiff, Nat.reduceLT, Nat.reduceLeDiff, Nat.reduceBEq, reduceIte, reduceCtorEq, Int.reduceAdd, Int.reduceLT, Int.reduceLE, Int.reduceGT, Int.reduceGE, Int.reduceEq, Int.reduceNe, Int.reduceBEq, Int.reduceBNe, Int.reduceToNat, Int.reduceNeg]
      refine ⟨⟨i + 1, take_all_succ hi hil hg⟩, ?_, by dsimp only; omega⟩
      simp only [Sfew46, pkObj, wrap_succ (show i < 9223372036854775807 by omega), go_sem, Nat.reduceAdd, Nat.reduceMul, Nat.reduceSub, Nat.reduceEqDiff, Nat.reduceLT, Nat.reduceLeDiff, Nat.reduceBEq, reduceIte, reduceCtorEq, Int.reduceAdd, Int.reduceLT, Int.reduceLE, Int.reduceGT, Int.reduceGE, Int.reduceEq, Int.reduceNe, Int.reduceBEq, Int.reduceBNe, Int.reduceToNat, Int.reduceNeg]
  · have hall : p.values.all short46 = true := all_done hi (by simpa using h)
    simp only [few46, hall, go_sem, Nat.reduceAdd, Nat.reduceMul, Nat.reduceSub, Nat.reduceEqDiff, Nat.reduceLT, Nat.reduceLeDiff, Nat.reduceBEq, reduceIte, reduceCtorEq, Int.reduceAdd, Int.reduceLT, Int.reduceLE, Int.reduceGT, Int.reduceGE, Int.reduceEq, Int.reduceNe, Int.reduceBEq, Int.reduceBNe, Int.reduceToNat, Int.reduceNeg]

def qObj (q : Qu) : AObj := .row [.d (.int .i64 q.acc), .d (.int .i64 q.cons), .d (.sl 9 (q.items.map encPk))]
def fewQ (q : Qu) : Bool := q.items.all few46 && decide ((q.items.length : Int) ≤ 8)
def SfewQ (q : Qu) (i : { i : Nat // (q.items.take i).all few46 = true }) : St := ⟨[(1, true, .d (.ptr 0 0)), (3, true, .d (.int .i64 (i.val : Nat)))], [qObj q], [], 1⟩
theorem fewQ_ok (q : Qu) (hq : q.items.length ≤ maxLen) (hv : ∀ p ∈ q.items, p.values.length ≤ maxLen) : ACall Try.prog 26 [.d (.agg (encQ q))] [] (.d (.bool (fewQ q))) [] := by
  unfold maxLen at hq
  refine k_farandoleref51_Few ?_
  simp only [e_farandoleref51_Few, encQ, go_sem, Nat.reduceAdd, Nat.reduceMul, Nat.reduceSub, Nat.reduceEqDiff, Nat.reduceLT, Nat.reduceLeDiff, Nat.reduceBEq, reduceIte, reduceCtorEq, Int.reduceAdd, Int.reduceLT, Int.reduceLE, Int.reduceGT, Int.reduceGE, Int.reduceEq, Int.reduceNe, Int.reduceBEq, Int.reduceBNe, Int.reduceToNat, Int.reduceNeg]
  refine AWp_loop (SfewQ q) (fun i => q.items.length - i.val) ⟨0, rfl⟩ ?_ (fun i => ?_)
  · try simp only [SfewQ, qObj, go_sem, Nat.reduceAdd, Nat.reduceMul, Nat.reduceSub, Nat.reduceEqDiff, Nat.reduceLT, Nat.reduceLeDiff, Nat.reduceBEq, reduceIte, reduceCtorEq, Int.reduceAdd, Int.reduceLT, Int.reduceLE, Int.reduceGT, Int.reduceGE, Int.reduceEq, Int.reduceNe, Int.reduceBEq, Int.reduceBNe, Int.reduceToNat, Int.reduceNeg]
  obtain ⟨i, hi⟩ := i
  try simp only [SfewQ, qObj, go_sem, Nat.reduceAdd, Nat.reduceMul, Nat.reduceSub, Nat.reduceEqDiff, Nat.reduceLT, Nat.reduceLeDiff, Nat.reduceBEq, reduceIte, reduceCtorEq, Int.reduceAdd, Int.reduceLT, Int.reduceLE, Int.reduceGT, Int.reduceGE, Int.reduceEq, Int.reduceNe, Int.reduceBEq, Int.reduceBNe, Int.reduceToNat, Int.reduceNeg]
  refine AWp_cond _ rfl rfl (fun h => ?_) (fun h => ?_)
  · have hil : i < q.items.length := by simpa using h
    simp only [getD_map encPk q.items hil, encPk, go_sem, Nat.reduceAdd, Nat.reduceMul, Nat.reduceSub, Nat.reduceEqDiff, Nat.reduceLT, Nat.reduceLeDiff, Nat.reduceBEq, reduceIte, reduceCtorEq, Int.reduceAdd, Int.reduceLT, Int.reduceLE, Int.reduceGT, Int.reduceGE, Int.reduceEq, Int.reduceNe, Int.reduceBEq, Int.reduceBNe, Int.reduceToNat, Int.reduceNeg]
    repeat (with_reducible refine And.intro (by first | omega | (simp_all; done) | grind) ?_)
    (repeat (with_reducible refine And.intro (by first | omega | (simp_all; done) | grind) ?_)); refine callO_pure (few46_ok q.items[i] (hv _ (List.getElem_mem hil))) b_farandoleref46_Few (fun h => by first | exact h | (simp only [h, Bool.and_self, Bool.and_true])) (fun _ => by first | exact ⟨matchA_refl, trivial⟩ | exact ⟨matchA_refl, matchA_refl, trivial⟩ | exact ⟨matchA_refl, matchA_refl, matchA_refl, trivial⟩ | simp only [encPk, encAV, encI, go_sem, Nat.reduceAdd, Nat.reduceMul, Nat.reduceSub, Nat.reduceEqDiff, Nat.reduceLT, Nat.reduceLeDiff, Nat.reduceBEq, reduceIte, reduceCtorEq, Int.reduceAdd, Int.reduceLT, Int.reduceLE, Int.reduceGT, Int.reduceGE, Int.reduceEq, Int.reduceNe, Int.reduceBEq, Int.reduceBNe, Int.reduceToNat, Int.reduceNeg]) (by simp only [go_sem, Nat.reduceAdd, Nat.reduceMul, Nat.reduceSub, Nat.reduceEqDiff, Nat.reduceLT, Nat.reduceLeDiff, Nat.reduceBEq, reduceIte, reduceCtorEq, Int.reduceAdd, Int.reduceLT, Int.reduceLE, Int.reduceGT, Int.reduceGE, Int.reduceEq, Int.reduceNe, Int.reduceBEq, Int.reduceBNe, Int.reduceToNat, Int.reduceNeg]) rfl rfl ?_
    try simp only [go_sem, Nat.reduceAdd, Nat.reduceMul, Nat.reduceSub, Nat.reduceEqDiff, Nat.reduceLT, Nat.reduceLeDiff, Nat.reduceBEq, reduceIte, reduceCtorEq, Int.reduceAdd, Int.reduceLT, Int.reduceLE, Int.reduceGT, Int.reduceGE, Int.reduceEq, Int.reduceNe, Int.reduceBEq, Int.reduceBNe, Int.reduceToNat, Int.reduceNeg]
    refine AWp_cond _ rfl rfl (fun h2 => ?_) (fun h2 => ?_)
    · have hg : few46 q.items[i] = false := by simpa using h2
      simp only [fewQ, all_no hil hg, go_sem, Nat.reduceAdd, Nat.reduceMul, Nat.reduceSub, Nat.reduceEqDiff, Nat.reduceLT, Nat.reduceLeDiff, Nat.reduceBEq, reduceIte, reduceCtorEq, Int.reduceAdd, Int.reduceLT, Int.reduceLE, Int.reduceGT, Int.reduceGE, Int.reduceEq, Int.reduceNe, Int.reduceBEq, Int.reduceBNe, Int.reduceToNat, Int.reduceNeg]
    · have hg : few46 q.items[i] = true := by simpa using h2
      try simp only [go_sem, Nat.reduceAdd, Nat.reduceMul, Nat.reduceSub, Nat.reduceEqDiff, Nat.reduceLT, Nat.reduceLeDiff, Nat.reduceBEq, reduceIte, reduceCtorEq, Int.reduceAdd, Int.reduceLT, Int.reduceLE, Int.reduceGT, Int.reduceGE, Int.reduceEq, Int.reduceNe, Int.reduceBEq, Int.reduceBNe, Int.reduceToNat, Int.reduceNeg]
      refine ⟨⟨i + 1, take_all_succ hi hil hg⟩, ?_, by dsimp only; omega⟩
      simp only [SfewQ, qObj, wrap_succ (show i < 9223372036854775807 by omega), go_sem, Nat.reduceAdd, Nat.reduceMul, Nat.reduceSub, Nat.reduceEqDiff, Nat.reduceLT, Nat.reduceLeDiff, Nat.reduceBEq, reduceIte, reduceCtorEq, Int.reduceAdd, Int.reduceLT, Int.reduceLE, Int.reduceGT, Int.reduceGE, Int.reduceEq, Int.reduceNe, Int.reduceBEq, Int.reduceBNe, Int.reduceToNat, Int.reduceNeg]
  · have hall : q.items.all few46 = true := all_done hi (by simpa using h)
    simp only [fewQ, hall, go_sem, Nat.reduceAdd, Nat.reduceMul, Nat.reduceSub, Nat.reduceEqDiff, Nat.reduceLT, Nat.reduceLeDiff, Nat.reduceBEq, reduceIte, reduceCtorEq, Int.reduceAdd, Int.reduceLT, Int.reduceLE, Int.reduceGT, Int.reduceGE, Int.reduceEq, Int.reduceNe, Int.reduceBEq, Int.reduceBNe, Int.reduceToNat, Int.reduceNeg]

theorem few46_sm {p : Pk} (h : few46 p = true) : p.Sm := by
  simp only [few46, Bool.and_eq_true, decide_eq_true_eq] at h
  exact ⟨by omega, by omega⟩
theorem fewQ_sm {q : Qu} (h : fewQ q = true) : q.Sm ∧ q.items.length ≤ 8 := by
  simp only [fewQ, Bool.and_eq_true, decide_eq_true_eq, List.all_eq_true] at h
  exact ⟨⟨by omega, fun p hp => few46_sm (h.1 p hp)⟩, by omega⟩
end Go.Proofs.Ythcpckcgjplhiaa
