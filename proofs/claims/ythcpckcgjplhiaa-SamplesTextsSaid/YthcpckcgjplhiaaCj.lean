/- The reference's Offer; the statements' helpers. -/
import Derived.Test.YthcpckcgjplhiaaCi
namespace Go.Proofs.Ythcpckcgjplhiaa
open Go.Abs
set_option linter.unusedSimpArgs false
-- ENC encPk encQ

noncomputable def s_farandoleref51_Offer_r0 : List SOper := [
  ⟨(some 2), .box 3 (.t 0), none⟩,
  ⟨(some 3), .box 2 (.t 1), none⟩,
  ⟨(some 4), .alloc 1 [(.d (.int .i64 0)), (.d (.int .i64 0)), (.d .nilsl)], none⟩,
  ⟨(some 5), .mov (.k (.d (.int .i64 0))), none⟩]
noncomputable def s_farandoleref51_Offer_r1 : List SOper := [
  ⟨(some 6), .load (some 3) (.t 2), none⟩,
  ⟨(some 7), .call (.k (.d (.func (.func 39) [] []))) [(.t 6)], none⟩,
  ⟨(some 8), .not (.t 7), none⟩,
  ⟨(some 9), .mov (.t 8), none⟩,
  ⟨(some 10), .load (some 9) (.t 3), (some (9, false))⟩,
  ⟨(some 11), .call (.k (.d (.func (.func 75) [] []))) [(.t 10)], (some (9, false))⟩,
  ⟨(some 12), .not (.t 11), (some (9, false))⟩,
  ⟨(some 13), .pick (.t 9) (.k (.d (.bool true))) (.t 12), none⟩,
  ⟨(some 14), .mov (.t 13), none⟩,
  ⟨(some 15), .faddr 0 (.t 3), (some (14, false))⟩,
  ⟨(some 16), .load none (.t 15), (some (14, false))⟩,
  ⟨(some 17), .bin .neq (.t 16) (.k (.d (.int .i64 1))), (some (14, false))⟩,
  ⟨(some 18), .pick (.t 14) (.k (.d (.bool true))) (.t 17), none⟩,
  ⟨(some 19), .mov (.t 18), none⟩,
  ⟨(some 20), .faddr 2 (.t 2), (some (19, false))⟩,
  ⟨(some 21), .load none (.t 20), (some (19, false))⟩,
  ⟨(some 22), .len (.t 21), (some (19, false))⟩,
  ⟨(some 23), .bin .gtr (.t 22) (.k (.d (.int .i64 0))), (some (19, false))⟩,
  ⟨(some 24), .mov (.t 23), (some (19, false))⟩,
  ⟨(some 25), .load (some 9) (.t 3), (some (24, true))⟩,
  ⟨(some 26), .faddr 2 (.t 2), (some (24, true))⟩,
  ⟨(some 27), .load none (.t 26), (some (24, true))⟩,
  ⟨(some 28), .iaddr 9 (.t 27) (.k (.d (.int .i64 0))), (some (24, true))⟩,
  ⟨(some 29), .load (some 9) (.t 28), (some (24, true))⟩,
  ⟨(some 30), .call (.k (.d (.func (.func 76) [] []))) [(.t 25), (.t 29)], (some (24, true))⟩,
  ⟨(some 31), .not (.t 30), (some (24, true))⟩,
  ⟨(some 32), .pick (.t 24) (.t 31) (.k (.d (.bool false))), (some (19, false))⟩,
  ⟨(some 33), .pick (.t 19) (.k (.d (.bool true))) (.t 32), none⟩]
noncomputable def s_farandoleref51_Offer_r2 : List SOper := [
  ⟨(some 34), .build [(.int .i64 0), (.int .i64 0), .nilsl] [], none⟩,
  ⟨none, .store (some 3) (.t 4) (.t 34), none⟩,
  ⟨(some 5), .mov (.k (.d (.int .i64 1))), none⟩]
noncomputable def s_farandoleref51_Offer_r3 : List SOper := [
  ⟨(some 35), .faddr 5 (.t 3), none⟩,
  ⟨(some 36), .load none (.t 35), none⟩,
  ⟨(some 37), .faddr 0 (.t 2), none⟩,
  ⟨(some 38), .load none (.t 37), none⟩,
  ⟨(some 39), .bin .leq (.t 36) (.t 38), none⟩]
noncomputable def s_farandoleref51_Offer_r4 : List SOper := [
  ⟨(some 40), .build [(.int .i64 0), (.int .i64 0), .nilsl] [], none⟩,
  ⟨none, .store (some 3) (.t 4) (.t 40), none⟩,
  ⟨(some 5), .mov (.k (.d (.int .i64 21))), none⟩]
noncomputable def s_farandoleref51_Offer_r5 : List SOper := [
  ⟨(some 41), .faddr 5 (.t 3), none⟩,
  ⟨(some 42), .load none (.t 41), none⟩,
  ⟨(some 43), .faddr 0 (.t 2), none⟩,
  ⟨(some 44), .load none (.t 43), none⟩,
  ⟨(some 45), .bin .add (.t 44) (.k (.d (.int .i64 1))), none⟩,
  ⟨(some 46), .bin .gtr (.t 42) (.t 45), none⟩]
noncomputable def s_farandoleref51_Offer_r6 : List SOper := [
  ⟨(some 47), .build [(.int .i64 0), (.int .i64 0), .nilsl] [], none⟩,
  ⟨none, .store (some 3) (.t 4) (.t 47), none⟩,
  ⟨(some 5), .mov (.k (.d (.int .i64 22))), none⟩]
noncomputable def s_farandoleref51_Offer_r7 : List SOper := [
  ⟨(some 48), .faddr 2 (.t 2), none⟩,
  ⟨(some 49), .load none (.t 48), none⟩,
  ⟨(some 50), .len (.t 49), none⟩,
  ⟨(some 51), .bin .eql (.t 50) (.k (.d (.int .i64 4))), none⟩]
noncomputable def s_farandoleref51_Offer_r8 : List SOper := [
  ⟨(some 52), .build [(.int .i64 0), (.int .i64 0), .nilsl] [], none⟩,
  ⟨none, .store (some 3) (.t 4) (.t 52), none⟩,
  ⟨(some 5), .mov (.k (.d (.int .i64 19))), none⟩]
noncomputable def s_farandoleref51_Offer_r9 : List SOper := [
  ⟨(some 53), .faddr 0 (.t 2), none⟩,
  ⟨(some 54), .load none (.t 53), none⟩,
  ⟨(some 55), .bin .add (.t 54) (.k (.d (.int .i64 1))), none⟩,
  ⟨(some 56), .faddr 1 (.t 2), none⟩,
  ⟨(some 57), .load none (.t 56), none⟩,
  ⟨(some 58), .buildSlice 9 0 [(.int .i64 0), (.int .i64 0), (.int .i64 0), (.int .i64 0), (.int .i64 0), (.int .i64 0), (.int .i64 0), .nilsl, .nilsl] [], none⟩,
  ⟨(some 59), .faddr 2 (.t 2), none⟩,
  ⟨(some 60), .load none (.t 59), none⟩,
  ⟨(some 61), .append 9 104 (.t 58) (.t 60), none⟩,
  ⟨(some 62), .load (some 9) (.t 3), none⟩,
  ⟨(some 63), .buildSlice 9 1 [(.int .i64 0), (.int .i64 0), (.int .i64 0), (.int .i64 0), (.int .i64 0), (.int .i64 0), (.int .i64 0), .nilsl, .nilsl] [(0, 9, (.t 62))], none⟩,
  ⟨(some 64), .append 9 104 (.t 61) (.t 63), none⟩,
  ⟨(some 65), .build [(.int .i64 0), (.int .i64 0), .nilsl] [(0, 1, (.t 55)), (1, 1, (.t 57)), (2, 1, (.t 64))], none⟩,
  ⟨none, .store (some 3) (.t 4) (.t 65), none⟩,
  ⟨(some 5), .mov (.k (.d (.int .i64 0))), none⟩]
noncomputable def s_farandoleref51_Offer : SCode := (.seq (.region s_farandoleref51_Offer_r0 3 []) (.seq (.seq (.region s_farandoleref51_Offer_r1 0 []) (.cond (.t 33) (.seq (.region s_farandoleref51_Offer_r2 0 []) .ret) .skip)) (.seq (.seq (.region s_farandoleref51_Offer_r3 0 []) (.cond (.t 39) (.seq (.region s_farandoleref51_Offer_r4 0 []) .ret) .skip)) (.seq (.seq (.region s_farandoleref51_Offer_r5 0 []) (.cond (.t 46) (.seq (.region s_farandoleref51_Offer_r6 0 []) .ret) .skip)) (.seq (.seq (.region s_farandoleref51_Offer_r7 0 []) (.cond (.t 51) (.seq (.region s_farandoleref51_Offer_r8 0 []) .ret) .skip)) (.seq (.region s_farandoleref51_Offer_r9 0 []) .ret))))))
theorem e_farandoleref51_Offer {P : Program} {k0 : Nat} {Q : SExit → St → Prop} {st : St} : AWp P k0 s_farandoleref51_Offer Q st = AWp P k0 (.seq (.region s_farandoleref51_Offer_r0 3 []) (.seq (.seq (.region s_farandoleref51_Offer_r1 0 []) (.cond (.t 33) (.seq (.region s_farandoleref51_Offer_r2 0 []) .ret) .skip)) (.seq (.seq (.region s_farandoleref51_Offer_r3 0 []) (.cond (.t 39) (.seq (.region s_farandoleref51_Offer_r4 0 []) .ret) .skip)) (.seq (.seq (.region s_farandoleref51_Offer_r5 0 []) (.cond (.t 46) (.seq (.region s_farandoleref51_Offer_r6 0 []) .ret) .skip)) (.seq (.seq (.region s_farandoleref51_Offer_r7 0 []) (.cond (.t 51) (.seq (.region s_farandoleref51_Offer_r8 0 []) .ret) .skip)) (.seq (.region s_farandoleref51_Offer_r9 0 []) .ret)))))) Q st := rfl
theorem u_farandoleref51_Offer_r0 {P : Program} {o : Nat} {p : List (Nat × Nat)} {Q : SExit → St → Prop} {st : St} : goReg P s_farandoleref51_Offer_r0 o p Q st = goLit P (litOf s_farandoleref51_Offer_r0.eq_1) o p Q st := goReg_of _
theorem u_farandoleref51_Offer_r1 {P : Program} {o : Nat} {p : List (Nat × Nat)} {Q : SExit → St → Prop} {st : St} : goReg P s_farandoleref51_Offer_r1 o p Q st = goLit P (litOf s_farandoleref51_Offer_r1.eq_1) o p Q st := goReg_of _
theorem u_farandoleref51_Offer_r2 {P : Program} {o : Nat} {p : List (Nat × Nat)} {Q : SExit → St → Prop} {st : St} : goReg P s_farandoleref51_Offer_r2 o p Q st = goLit P (litOf s_farandoleref51_Offer_r2.eq_1) o p Q st := goReg_of _
theorem u_farandoleref51_Offer_r3 {P : Program} {o : Nat} {p : List (Nat × Nat)} {Q : SExit → St → Prop} {st : St} : goReg P s_farandoleref51_Offer_r3 o p Q st = goLit P (litOf s_farandoleref51_Offer_r3.eq_1) o p Q st := goReg_of _
theorem u_farandoleref51_Offer_r4 {P : Program} {o : Nat} {p : List (Nat × Nat)} {Q : SExit → St → Prop} {st : St} : goReg P s_farandoleref51_Offer_r4 o p Q st = goLit P (litOf s_farandoleref51_Offer_r4.eq_1) o p Q st := goReg_of _
theorem u_farandoleref51_Offer_r5 {P : Program} {o : Nat} {p : List (Nat × Nat)} {Q : SExit → St → Prop} {st : St} : goReg P s_farandoleref51_Offer_r5 o p Q st = goLit P (litOf s_farandoleref51_Offer_r5.eq_1) o p Q st := goReg_of _
theorem u_farandoleref51_Offer_r6 {P : Program} {o : Nat} {p : List (Nat × Nat)} {Q : SExit → St → Prop} {st : St} : goReg P s_farandoleref51_Offer_r6 o p Q st = goLit P (litOf s_farandoleref51_Offer_r6.eq_1) o p Q st := goReg_of _
theorem u_farandoleref51_Offer_r7 {P : Program} {o : Nat} {p : List (Nat × Nat)} {Q : SExit → St → Prop} {st : St} : goReg P s_farandoleref51_Offer_r7 o p Q st = goLit P (litOf s_farandoleref51_Offer_r7.eq_1) o p Q st := goReg_of _
theorem u_farandoleref51_Offer_r8 {P : Program} {o : Nat} {p : List (Nat × Nat)} {Q : SExit → St → Prop} {st : St} : goReg P s_farandoleref51_Offer_r8 o p Q st = goLit P (litOf s_farandoleref51_Offer_r8.eq_1) o p Q st := goReg_of _
theorem u_farandoleref51_Offer_r9 {P : Program} {o : Nat} {p : List (Nat × Nat)} {Q : SExit → St → Prop} {st : St} : goReg P s_farandoleref51_Offer_r9 o p Q st = goLit P (litOf s_farandoleref51_Offer_r9.eq_1) o p Q st := goReg_of _
attribute [go_sem] u_farandoleref51_Offer_r0 u_farandoleref51_Offer_r1 u_farandoleref51_Offer_r2 u_farandoleref51_Offer_r3 u_farandoleref51_Offer_r4 u_farandoleref51_Offer_r5 u_farandoleref51_Offer_r6 u_farandoleref51_Offer_r7 u_farandoleref51_Offer_r8 u_farandoleref51_Offer_r9 e_farandoleref51_Offer
set_option maxRecDepth 100000 in
theorem c_farandoleref51_Offer : Try.f38.body.bind (compCode Try.prog Try.f38.ntmps news) = some s_farandoleref51_Offer := by kernel_rfl
theorem r_farandoleref51_Offer : Try.f38.results.toList.mapM (compRes Try.prog) = some [(.cell 4 (some 3)), (.tmp 5)] := by kernel_rfl
theorem n_farandoleref51_Offer : Try.f38.ntmps = 66 := by kernel_rfl
theorem b_farandoleref51_Offer : (Try.prog.funcs[38]?).any (fun fn => fn.body.isSome && !(fn.name == "runtime.NumGoroutine")) = true := by kernel_rfl
theorem ko_farandoleref51_Offer {args rs : List ASlot} {objs objs' : List AObj} (h : AWp Try.prog objs.length s_farandoleref51_Offer (bodyQ objs.length [(.cell 4 (some 3)), (.tmp 5)] rs objs') (entrySt args objs)) (hN : args.length ≤ 66 := by simp) (hl : rs.length = 2 := by rfl) (hw : ltB 16 (toksOf args ++ osToks objs) = true := by rfl) : ACall Try.prog 38 args objs (.tup rs) objs' := by
  rw [← mkRes_tup (rs := rs) (by rw [hl]; decide)]
  exact acall_go follows Try.func38 c_farandoleref51_Offer r_farandoleref51_Offer h (by rw [n_farandoleref51_Offer]; exact hN) (by rw [hl]; rfl) hw
theorem k_farandoleref51_Offer {args rs : List ASlot} (h : AWp Try.prog 0 s_farandoleref51_Offer (bodyQ 0 [(.cell 4 (some 3)), (.tmp 5)] rs []) (entrySt args [])) (hN : args.length ≤ 66 := by simp) (hl : rs.length = 2 := by rfl) (hw : ltB 16 (toksOf args ++ osToks []) = true := by rfl) : ACall Try.prog 38 args [] (.tup rs) [] := ko_farandoleref51_Offer h hN hl hw

noncomputable def s_farandolelaw51_To_r0 : List SOper := [
  ⟨(some 1), .box 2 (.t 0), none⟩,
  ⟨(some 2), .alloc 1 [(.d (.int .i64 0)), (.d (.int .i64 0)), (.d .nilsl)], none⟩]
noncomputable def s_farandolelaw51_To_r1 : List SOper := [
  ⟨(some 5), .faddr 0 (.t 1), none⟩,
  ⟨(some 6), .load none (.t 5), none⟩,
  ⟨(some 7), .faddr 1 (.t 1), none⟩,
  ⟨(some 8), .load none (.t 7), none⟩,
  ⟨(some 9), .build [(.int .i64 0), (.int .i64 0), .nilsl] [(0, 1, (.t 6)), (1, 1, (.t 8))], none⟩,
  ⟨(some 3), .alloc 1 [(.d (.int .i64 0)), (.d (.int .i64 0)), (.d .nilsl)], none⟩,
  ⟨none, .store (some 3) (.t 3) (.t 9), none⟩]
noncomputable def s_farandolelaw51_To_r2 : List SOper := [
  ⟨(some 4), .mov (.k (.d (.int .i64 0))), none⟩]
noncomputable def s_farandolelaw51_To_r3 : List SOper := [
  ⟨(some 10), .mov (.t 4), none⟩,
  ⟨(some 11), .faddr 2 (.t 1), none⟩,
  ⟨(some 12), .load none (.t 11), none⟩,
  ⟨(some 13), .len (.t 12), none⟩,
  ⟨(some 14), .bin .lss (.t 10) (.t 13), none⟩]
noncomputable def s_farandolelaw51_To_r4 : List SOper := [
  ⟨(some 17), .faddr 2 (.t 3), none⟩,
  ⟨(some 18), .load none (.t 17), none⟩,
  ⟨(some 19), .faddr 2 (.t 1), none⟩,
  ⟨(some 20), .load none (.t 19), none⟩,
  ⟨(some 21), .mov (.t 4), none⟩,
  ⟨(some 22), .iaddr 9 (.t 20) (.t 21), none⟩,
  ⟨(some 23), .load (some 9) (.t 22), none⟩,
  ⟨(some 24), .buildSlice 9 1 [(.int .i64 0), (.int .i64 0), (.int .i64 0), (.int .i64 0), (.int .i64 0), (.int .i64 0), (.int .i64 0), .nilsl, .nilsl] [(0, 9, (.t 23))], none⟩,
  ⟨(some 25), .append 9 104 (.t 18) (.t 24), none⟩,
  ⟨(some 26), .faddr 2 (.t 3), none⟩,
  ⟨none, .store none (.t 26) (.t 25), none⟩]
noncomputable def s_farandolelaw51_To_r5 : List SOper := [
  ⟨(some 15), .mov (.t 4), none⟩,
  ⟨(some 16), .bin .add (.t 15) (.k (.d (.int .i64 1))), none⟩,
  ⟨(some 4), .mov (.t 16), none⟩]
noncomputable def s_farandolelaw51_To_l6 : SCode := (.seq (.seq (.region s_farandolelaw51_To_r3 0 []) (.cond (.t 14) .skip (.exit 0))) (.seq (.block 1 (.region s_farandolelaw51_To_r4 0 [])) (.region s_farandolelaw51_To_r5 0 [])))
theorem e_farandolelaw51_To_l6 {P : Program} {k0 : Nat} {Q : SExit → St → Prop} {st : St} : AWp P k0 s_farandolelaw51_To_l6 Q st = AWp P k0 (.seq (.seq (.region s_farandolelaw51_To_r3 0 []) (.cond (.t 14) .skip (.exit 0))) (.seq (.block 1 (.region s_farandolelaw51_To_r4 0 [])) (.region s_farandolelaw51_To_r5 0 []))) Q st := rfl
noncomputable def s_farandolelaw51_To_r7 : List SOper := [
  ⟨(some 27), .load (some 3) (.t 3), none⟩,
  ⟨none, .store (some 3) (.t 2) (.t 27), none⟩]
noncomputable def s_farandolelaw51_To : SCode := (.seq (.region s_farandolelaw51_To_r0 2 []) (.seq (.region s_farandolelaw51_To_r1 1 []) (.seq (.seq (.region s_farandolelaw51_To_r2 0 []) (.block 0 (.loop s_farandolelaw51_To_l6))) (.seq (.region s_farandolelaw51_To_r7 0 []) .ret))))
theorem e_farandolelaw51_To {P : Program} {k0 : Nat} {Q : SExit → St → Prop} {st : St} : AWp P k0 s_farandolelaw51_To Q st = AWp P k0 (.seq (.region s_farandolelaw51_To_r0 2 []) (.seq (.region s_farandolelaw51_To_r1 1 []) (.seq (.seq (.region s_farandolelaw51_To_r2 0 []) (.block 0 (.loop s_farandolelaw51_To_l6))) (.seq (.region s_farandolelaw51_To_r7 0 []) .ret)))) Q st := rfl
theorem u_farandolelaw51_To_r0 {P : Program} {o : Nat} {p : List (Nat × Nat)} {Q : SExit → St → Prop} {st : St} : goReg P s_farandolelaw51_To_r0 o p Q st = goLit P (litOf s_farandolelaw51_To_r0.eq_1) o p Q st := goReg_of _
theorem u_farandolelaw51_To_r1 {P : Program} {o : Nat} {p : List (Nat × Nat)} {Q : SExit → St → Prop} {st : St} : goReg P s_farandolelaw51_To_r1 o p Q st = goLit P (litOf s_farandolelaw51_To_r1.eq_1) o p Q st := goReg_of _
theorem u_farandolelaw51_To_r2 {P : Program} {o : Nat} {p : List (Nat × Nat)} {Q : SExit → St → Prop} {st : St} : goReg P s_farandolelaw51_To_r2 o p Q st = goLit P (litOf s_farandolelaw51_To_r2.eq_1) o p Q st := goReg_of _
theorem u_farandolelaw51_To_r3 {P : Program} {o : Nat} {p : List (Nat × Nat)} {Q : SExit → St → Prop} {st : St} : goReg P s_farandolelaw51_To_r3 o p Q st = goLit P (litOf s_farandolelaw51_To_r3.eq_1) o p Q st := goReg_of _
theorem u_farandolelaw51_To_r4 {P : Program} {o : Nat} {p : List (Nat × Nat)} {Q : SExit → St → Prop} {st : St} : goReg P s_farandolelaw51_To_r4 o p Q st = goLit P (litOf s_farandolelaw51_To_r4.eq_1) o p Q st := goReg_of _
theorem u_farandolelaw51_To_r5 {P : Program} {o : Nat} {p : List (Nat × Nat)} {Q : SExit → St → Prop} {st : St} : goReg P s_farandolelaw51_To_r5 o p Q st = goLit P (litOf s_farandolelaw51_To_r5.eq_1) o p Q st := goReg_of _
theorem u_farandolelaw51_To_r7 {P : Program} {o : Nat} {p : List (Nat × Nat)} {Q : SExit → St → Prop} {st : St} : goReg P s_farandolelaw51_To_r7 o p Q st = goLit P (litOf s_farandolelaw51_To_r7.eq_1) o p Q st := goReg_of _
attribute [go_sem] u_farandolelaw51_To_r0 u_farandolelaw51_To_r1 u_farandolelaw51_To_r2 u_farandolelaw51_To_r3 u_farandolelaw51_To_r4 u_farandolelaw51_To_r5 e_farandolelaw51_To_l6 u_farandolelaw51_To_r7 e_farandolelaw51_To
set_option maxRecDepth 100000 in
theorem c_farandolelaw51_To : Try.f28.body.bind (compCode Try.prog Try.f28.ntmps news) = some s_farandolelaw51_To := by kernel_rfl
theorem r_farandolelaw51_To : Try.f28.results.toList.mapM (compRes Try.prog) = some [(.cell 2 (some 3))] := by kernel_rfl
theorem n_farandolelaw51_To : Try.f28.ntmps = 28 := by kernel_rfl
theorem b_farandolelaw51_To : (Try.prog.funcs[28]?).any (fun fn => fn.body.isSome && !(fn.name == "runtime.NumGoroutine")) = true := by kernel_rfl
theorem ko_farandolelaw51_To {args : List ASlot} {r : ASlot} {objs objs' : List AObj} (h : AWp Try.prog objs.length s_farandolelaw51_To (bodyQ objs.length [(.cell 2 (some 3))] [r] objs') (entrySt args objs)) (hN : args.length ≤ 28 := by simp) (hw : ltB 16 (toksOf args ++ osToks objs) = true := by rfl) : ACall Try.prog 28 args objs r objs' :=
  acall_go (rs := [r]) follows Try.func28 c_farandolelaw51_To r_farandolelaw51_To h (by rw [n_farandolelaw51_To]; exact hN) rfl hw
theorem k_farandolelaw51_To {args : List ASlot} {r : ASlot} (h : AWp Try.prog 0 s_farandolelaw51_To (bodyQ 0 [(.cell 2 (some 3))] [r] []) (entrySt args [])) (hN : args.length ≤ 28 := by simp) (hw : ltB 16 (toksOf args ++ osToks []) = true := by rfl) : ACall Try.prog 28 args [] r [] := ko_farandolelaw51_To h hN hw

noncomputable def s_farandolelaw51_From_r0 : List SOper := [
  ⟨(some 1), .box 2 (.t 0), none⟩,
  ⟨(some 2), .alloc 1 [(.d (.int .i64 0)), (.d (.int .i64 0)), (.d .nilsl)], none⟩]
noncomputable def s_farandolelaw51_From_r1 : List SOper := [
  ⟨(some 5), .faddr 0 (.t 1), none⟩,
  ⟨(some 6), .load none (.t 5), none⟩,
  ⟨(some 7), .faddr 1 (.t 1), none⟩,
  ⟨(some 8), .load none (.t 7), none⟩,
  ⟨(some 9), .build [(.int .i64 0), (.int .i64 0), .nilsl] [(0, 1, (.t 6)), (1, 1, (.t 8))], none⟩,
  ⟨(some 3), .alloc 1 [(.d (.int .i64 0)), (.d (.int .i64 0)), (.d .nilsl)], none⟩,
  ⟨none, .store (some 3) (.t 3) (.t 9), none⟩]
noncomputable def s_farandolelaw51_From_r2 : List SOper := [
  ⟨(some 4), .mov (.k (.d (.int .i64 0))), none⟩]
noncomputable def s_farandolelaw51_From_r3 : List SOper := [
  ⟨(some 10), .mov (.t 4), none⟩,
  ⟨(some 11), .faddr 2 (.t 1), none⟩,
  ⟨(some 12), .load none (.t 11), none⟩,
  ⟨(some 13), .len (.t 12), none⟩,
  ⟨(some 14), .bin .lss (.t 10) (.t 13), none⟩]
noncomputable def s_farandolelaw51_From_r4 : List SOper := [
  ⟨(some 17), .faddr 2 (.t 3), none⟩,
  ⟨(some 18), .load none (.t 17), none⟩,
  ⟨(some 19), .faddr 2 (.t 1), none⟩,
  ⟨(some 20), .load none (.t 19), none⟩,
  ⟨(some 21), .mov (.t 4), none⟩,
  ⟨(some 22), .iaddr 9 (.t 20) (.t 21), none⟩,
  ⟨(some 23), .load (some 9) (.t 22), none⟩,
  ⟨(some 24), .buildSlice 9 1 [(.int .i64 0), (.int .i64 0), (.int .i64 0), (.int .i64 0), (.int .i64 0), (.int .i64 0), (.int .i64 0), .nilsl, .nilsl] [(0, 9, (.t 23))], none⟩,
  ⟨(some 25), .append 9 104 (.t 18) (.t 24), none⟩,
  ⟨(some 26), .faddr 2 (.t 3), none⟩,
  ⟨none, .store none (.t 26) (.t 25), none⟩]
noncomputable def s_farandolelaw51_From_r5 : List SOper := [
  ⟨(some 15), .mov (.t 4), none⟩,
  ⟨(some 16), .bin .add (.t 15) (.k (.d (.int .i64 1))), none⟩,
  ⟨(some 4), .mov (.t 16), none⟩]
noncomputable def s_farandolelaw51_From_l6 : SCode := (.seq (.seq (.region s_farandolelaw51_From_r3 0 []) (.cond (.t 14) .skip (.exit 0))) (.seq (.block 1 (.region s_farandolelaw51_From_r4 0 [])) (.region s_farandolelaw51_From_r5 0 [])))
theorem e_farandolelaw51_From_l6 {P : Program} {k0 : Nat} {Q : SExit → St → Prop} {st : St} : AWp P k0 s_farandolelaw51_From_l6 Q st = AWp P k0 (.seq (.seq (.region s_farandolelaw51_From_r3 0 []) (.cond (.t 14) .skip (.exit 0))) (.seq (.block 1 (.region s_farandolelaw51_From_r4 0 [])) (.region s_farandolelaw51_From_r5 0 []))) Q st := rfl
noncomputable def s_farandolelaw51_From_r7 : List SOper := [
  ⟨(some 27), .load (some 3) (.t 3), none⟩,
  ⟨none, .store (some 3) (.t 2) (.t 27), none⟩]
noncomputable def s_farandolelaw51_From : SCode := (.seq (.region s_farandolelaw51_From_r0 2 []) (.seq (.region s_farandolelaw51_From_r1 1 []) (.seq (.seq (.region s_farandolelaw51_From_r2 0 []) (.block 0 (.loop s_farandolelaw51_From_l6))) (.seq (.region s_farandolelaw51_From_r7 0 []) .ret))))
theorem e_farandolelaw51_From {P : Program} {k0 : Nat} {Q : SExit → St → Prop} {st : St} : AWp P k0 s_farandolelaw51_From Q st = AWp P k0 (.seq (.region s_farandolelaw51_From_r0 2 []) (.seq (.region s_farandolelaw51_From_r1 1 []) (.seq (.seq (.region s_farandolelaw51_From_r2 0 []) (.block 0 (.loop s_farandolelaw51_From_l6))) (.seq (.region s_farandolelaw51_From_r7 0 []) .ret)))) Q st := rfl
theorem u_farandolelaw51_From_r0 {P : Program} {o : Nat} {p : List (Nat × Nat)} {Q : SExit → St → Prop} {st : St} : goReg P s_farandolelaw51_From_r0 o p Q st = goLit P (litOf s_farandolelaw51_From_r0.eq_1) o p Q st := goReg_of _
theorem u_farandolelaw51_From_r1 {P : Program} {o : Nat} {p : List (Nat × Nat)} {Q : SExit → St → Prop} {st : St} : goReg P s_farandolelaw51_From_r1 o p Q st = goLit P (litOf s_farandolelaw51_From_r1.eq_1) o p Q st := goReg_of _
theorem u_farandolelaw51_From_r2 {P : Program} {o : Nat} {p : List (Nat × Nat)} {Q : SExit → St → Prop} {st : St} : goReg P s_farandolelaw51_From_r2 o p Q st = goLit P (litOf s_farandolelaw51_From_r2.eq_1) o p Q st := goReg_of _
theorem u_farandolelaw51_From_r3 {P : Program} {o : Nat} {p : List (Nat × Nat)} {Q : SExit → St → Prop} {st : St} : goReg P s_farandolelaw51_From_r3 o p Q st = goLit P (litOf s_farandolelaw51_From_r3.eq_1) o p Q st := goReg_of _
theorem u_farandolelaw51_From_r4 {P : Program} {o : Nat} {p : List (Nat × Nat)} {Q : SExit → St → Prop} {st : St} : goReg P s_farandolelaw51_From_r4 o p Q st = goLit P (litOf s_farandolelaw51_From_r4.eq_1) o p Q st := goReg_of _
theorem u_farandolelaw51_From_r5 {P : Program} {o : Nat} {p : List (Nat × Nat)} {Q : SExit → St → Prop} {st : St} : goReg P s_farandolelaw51_From_r5 o p Q st = goLit P (litOf s_farandolelaw51_From_r5.eq_1) o p Q st := goReg_of _
theorem u_farandolelaw51_From_r7 {P : Program} {o : Nat} {p : List (Nat × Nat)} {Q : SExit → St → Prop} {st : St} : goReg P s_farandolelaw51_From_r7 o p Q st = goLit P (litOf s_farandolelaw51_From_r7.eq_1) o p Q st := goReg_of _
attribute [go_sem] u_farandolelaw51_From_r0 u_farandolelaw51_From_r1 u_farandolelaw51_From_r2 u_farandolelaw51_From_r3 u_farandolelaw51_From_r4 u_farandolelaw51_From_r5 e_farandolelaw51_From_l6 u_farandolelaw51_From_r7 e_farandolelaw51_From
set_option maxRecDepth 100000 in
theorem c_farandolelaw51_From : Try.f31.body.bind (compCode Try.prog Try.f31.ntmps news) = some s_farandolelaw51_From := by kernel_rfl
theorem r_farandolelaw51_From : Try.f31.results.toList.mapM (compRes Try.prog) = some [(.cell 2 (some 3))] := by kernel_rfl
theorem n_farandolelaw51_From : Try.f31.ntmps = 28 := by kernel_rfl
theorem b_farandolelaw51_From : (Try.prog.funcs[31]?).any (fun fn => fn.body.isSome && !(fn.name == "runtime.NumGoroutine")) = true := by kernel_rfl
theorem ko_farandolelaw51_From {args : List ASlot} {r : ASlot} {objs objs' : List AObj} (h : AWp Try.prog objs.length s_farandolelaw51_From (bodyQ objs.length [(.cell 2 (some 3))] [r] objs') (entrySt args objs)) (hN : args.length ≤ 28 := by simp) (hw : ltB 16 (toksOf args ++ osToks objs) = true := by rfl) : ACall Try.prog 31 args objs r objs' :=
  acall_go (rs := [r]) follows Try.func31 c_farandolelaw51_From r_farandolelaw51_From h (by rw [n_farandolelaw51_From]; exact hN) rfl hw
theorem k_farandolelaw51_From {args : List ASlot} {r : ASlot} (h : AWp Try.prog 0 s_farandolelaw51_From (bodyQ 0 [(.cell 2 (some 3))] [r] []) (entrySt args [])) (hN : args.length ≤ 28 := by simp) (hw : ltB 16 (toksOf args ++ osToks []) = true := by rfl) : ACall Try.prog 31 args [] r [] := ko_farandolelaw51_From h hN hw

noncomputable def s_farandolelaw51_message_r0 : List SOper := [
  ⟨(some 2), .alloc 1 [(.d (.int .i64 0)), (.d (.int .i64 0)), (.d (.int .i64 0)), (.d (.int .i64 0)), (.d (.int .i64 0)), (.d (.int .i64 0)), (.d (.int .i64 0)), (.d .nilsl), (.d .nilsl)], none⟩]
noncomputable def s_farandolelaw51_message_r1 : List SOper := [
  ⟨(some 3), .mov (.t 0), none⟩,
  ⟨(some 4), .mov (.t 0), none⟩,
  ⟨(some 5), .bin .rem (.t 4) (.k (.d (.int .i64 40))), none⟩,
  ⟨(some 6), .build [(.int .i64 0), (.int .i64 0), (.int .i64 0), (.int .i64 0), (.int .i64 0), (.int .i64 0), (.int .i64 0), .nilsl, .nilsl] [(0, 1, (.k (.d (.int .i64 1)))), (1, 1, (.k (.d (.int .i64 1)))), (4, 1, (.k (.d (.int .i64 1)))), (5, 1, (.t 3)), (6, 1, (.t 5))], none⟩,
  ⟨none, .store (some 9) (.t 2) (.t 6), none⟩]
noncomputable def s_farandolelaw51_message : SCode := (.seq (.region s_farandolelaw51_message_r0 1 []) (.seq (.region s_farandolelaw51_message_r1 0 []) .ret))
theorem e_farandolelaw51_message {P : Program} {k0 : Nat} {Q : SExit → St → Prop} {st : St} : AWp P k0 s_farandolelaw51_message Q st = AWp P k0 (.seq (.region s_farandolelaw51_message_r0 1 []) (.seq (.region s_farandolelaw51_message_r1 0 []) .ret)) Q st := rfl
theorem u_farandolelaw51_message_r0 {P : Program} {o : Nat} {p : List (Nat × Nat)} {Q : SExit → St → Prop} {st : St} : goReg P s_farandolelaw51_message_r0 o p Q st = goLit P (litOf s_farandolelaw51_message_r0.eq_1) o p Q st := goReg_of _
theorem u_farandolelaw51_message_r1 {P : Program} {o : Nat} {p : List (Nat × Nat)} {Q : SExit → St → Prop} {st : St} : goReg P s_farandolelaw51_message_r1 o p Q st = goLit P (litOf s_farandolelaw51_message_r1.eq_1) o p Q st := goReg_of _
attribute [go_sem] u_farandolelaw51_message_r0 u_farandolelaw51_message_r1 e_farandolelaw51_message
set_option maxRecDepth 100000 in
theorem c_farandolelaw51_message : Try.f34.body.bind (compCode Try.prog Try.f34.ntmps news) = some s_farandolelaw51_message := by kernel_rfl
theorem r_farandolelaw51_message : Try.f34.results.toList.mapM (compRes Try.prog) = some [(.cell 2 (some 9))] := by kernel_rfl
theorem n_farandolelaw51_message : Try.f34.ntmps = 7 := by kernel_rfl
theorem b_farandolelaw51_message : (Try.prog.funcs[34]?).any (fun fn => fn.body.isSome && !(fn.name == "runtime.NumGoroutine")) = true := by kernel_rfl
theorem ko_farandolelaw51_message {args : List ASlot} {r : ASlot} {objs objs' : List AObj} (h : AWp Try.prog objs.length s_farandolelaw51_message (bodyQ objs.length [(.cell 2 (some 9))] [r] objs') (entrySt args objs)) (hN : args.length ≤ 7 := by simp) (hw : ltB 16 (toksOf args ++ osToks objs) = true := by rfl) : ACall Try.prog 34 args objs r objs' :=
  acall_go (rs := [r]) follows Try.func34 c_farandolelaw51_message r_farandolelaw51_message h (by rw [n_farandolelaw51_message]; exact hN) rfl hw
theorem k_farandolelaw51_message {args : List ASlot} {r : ASlot} (h : AWp Try.prog 0 s_farandolelaw51_message (bodyQ 0 [(.cell 2 (some 9))] [r] []) (entrySt args [])) (hN : args.length ≤ 7 := by simp) (hw : ltB 16 (toksOf args ++ osToks []) = true := by rfl) : ACall Try.prog 34 args [] r [] := ko_farandolelaw51_message h hN hw



def offer51 (q : Qu) (p : Pk) : Qu × Int :=
  if !valid51 q || !valid46 p || p.kind != 1 || (decide ((q.items.length : Int) > 0) && !alike p (q.items.getD 0 default)) then (qEmpty, 1)
  else if decide (p.seq ≤ q.acc) then (qEmpty, 21)
  else if decide (p.seq > IntKind.i64.wrap (q.acc + 1)) then (qEmpty, 22)
  else if (q.items.length : Int) == 4 then (qEmpty, 19)
  else (⟨IntKind.i64.wrap (q.acc + 1), q.cons, q.items ++ [p]⟩, 0)

set_option maxRecDepth 10000 in
theorem offer51_ok (q : Qu) (p : Pk) (hq : q.Sm) (hp : p.Sm) : ACall Try.prog 38 [.d (.agg (encQ q)), .d (.agg (encPk p))] [] (.tup [.d (.agg (encQ (offer51 q p).1)), .d (.int .i64 (offer51 q p).2)]) [] := by
  have hl := hq.1
  refine k_farandoleref51_Offer ?_
  simp only [e_farandoleref51_Offer, encQ, encPk, go_sem, Nat.reduceAdd, Nat.reduceMul, Nat.reduceSub, Nat.reduceEqDiff, Nat.reduceLT, Nat.reduceLeDiff, Nat.reduceBEq, reduceIte, reduceCtorEq, Int.reduceAdd, Int.reduceLT, Int.reduceLE, Int.reduceGT, Int.reduceGE, Int.reduceEq, Int.reduceNe, Int.reduceBEq, Int.reduceBNe, Int.reduceToNat, Int.reduceNeg]
  (repeat (with_reducible refine And.intro (by first | omega | (simp_all; done) | grind) ?_)); refine callO_pure (valid51_ok q hq) b_farandoleref51_Valid (fun h => by first | exact h | (simp only [h, Bool.and_self, Bool.and_true])) (fun _ => by first | exact ⟨matchA_refl, trivial⟩ | exact ⟨matchA_refl, matchA_refl, trivial⟩ | exact ⟨matchA_refl, matchA_refl, matchA_refl, trivial⟩ | simp only [encPk, encQ, go_sem, Nat.reduceAdd, Nat.reduceMul, Nat.reduceSub, Nat.reduceEqDiff, Nat.reduceLT, Nat.reduceLeDiff, Nat.reduceBEq, reduceIte, reduceCtorEq, Int.reduceAdd, Int.reduceLT, Int.reduceLE, Int.reduceGT, Int.reduceGE, Int.reduceEq, Int.reduceNe, Int.reduceBEq, Int.reduceBNe, Int.reduceToNat, Int.reduceNeg]) (by simp only [go_sem, Nat.reduceAdd, Nat.reduceMul, Nat.reduceSub, Nat.reduceEqDiff, Nat.reduceLT, Nat.reduceLeDiff, Nat.reduceBEq, reduceIte, reduceCtorEq, Int.reduceAdd, Int.reduceLT, Int.reduceLE, Int.reduceGT, Int.reduceGE, Int.reduceEq, Int.reduceNe, Int.reduceBEq, Int.reduceBNe, Int.reduceToNat, Int.reduceNeg]) rfl rfl ?_
  try simp only [go_sem, Nat.reduceAdd, Nat.reduceMul, Nat.reduceSub, Nat.reduceEqDiff, Nat.reduceLT, Nat.reduceLeDiff, Nat.reduceBEq, reduceIte, reduceCtorEq, Int.reduceAdd, Int.reduceLT, Int.reduceLE, Int.reduceGT, Int.reduceGE, Int.reduceEq, Int.reduceNe, Int.reduceBEq, Int.reduceBNe, Int.reduceToNat, Int.reduceNeg]
  (repeat (with_reducible refine And.intro (by first | omega | (simp_all; done) | grind) ?_)); refine callO_pure (valid46_ok p hp) b_farandoleref46_Valid (fun h => by first | exact h | (simp only [h, Bool.and_self, Bool.and_true])) (fun _ => by first | exact ⟨matchA_refl, trivial⟩ | exact ⟨matchA_refl, matchA_refl, trivial⟩ | exact ⟨matchA_refl, matchA_refl, matchA_refl, trivial⟩ | simp only [encPk, encQ, go_sem, Nat.reduceAdd, Nat.reduceMul, Nat.reduceSub, Nat.reduceEqDiff, Nat.reduceLT, Nat.reduceLeDiff, Nat.reduceBEq, reduceIte, reduceCtorEq, Int.reduceAdd, Int.reduceLT, Int.reduceLE, Int.reduceGT, Int.reduceGE, Int.reduceEq, Int.reduceNe, Int.reduceBEq, Int.reduceBNe, Int.reduceToNat, Int.reduceNeg]) (by simp only [go_sem, Nat.reduceAdd, Nat.reduceMul, Nat.reduceSub, Nat.reduceEqDiff, Nat.reduceLT, Nat.reduceLeDiff, Nat.reduceBEq, reduceIte, reduceCtorEq, Int.reduceAdd, Int.reduceLT, Int.reduceLE, Int.reduceGT, Int.reduceGE, Int.reduceEq, Int.reduceNe, Int.reduceBEq, Int.reduceBNe, Int.reduceToNat, Int.reduceNeg]) rfl rfl ?_
  obtain ⟨acc, cons, items⟩ := q
  cases items with
  | nil =>
    try simp only [go_sem, Nat.reduceAdd, Nat.reduceMul, Nat.reduceSub, Nat.reduceEqDiff, Nat.reduceLT, Nat.reduceLeDiff, Nat.reduceBEq, reduceIte, reduceCtorEq, Int.reduceAdd, Int.reduceLT, Int.reduceLE, Int.reduceGT, Int.reduceGE, Int.reduceEq, Int.reduceNe, Int.reduceBEq, Int.reduceBNe, Int.reduceToNat, Int.reduceNeg]
    repeat (with_reducible refine And.intro (by first | omega | (simp_all; done) | grind) ?_)
    refine callO_off (.bool false) rfl ?_
    try simp only [go_sem, Nat.reduceAdd, Nat.reduceMul, Nat.reduceSub, Nat.reduceEqDiff, Nat.reduceLT, Nat.reduceLeDiff, Nat.reduceBEq, reduceIte, reduceCtorEq, Int.reduceAdd, Int.reduceLT, Int.reduceLE, Int.reduceGT, Int.reduceGE, Int.reduceEq, Int.reduceNe, Int.reduceBEq, Int.reduceBNe, Int.reduceToNat, Int.reduceNeg]
    repeat (with_reducible refine And.intro (by first | omega | (simp_all; done) | grind) ?_)
    refine AWp_cond _ rfl rfl (fun h1 => ?_) (fun h1 => ?_)
    · try simp only [offer51, h1, qEmpty, go_sem, Nat.reduceAdd, Nat.reduceMul, Nat.reduceSub, Nat.reduceEqDiff, Nat.reduceLT, Nat.reduceLeDiff, Nat.reduceBEq, reduceIte, reduceCtorEq, Int.reduceAdd, Int.reduceLT, Int.reduceLE, Int.reduceGT, Int.reduceGE, Int.reduceEq, Int.reduceNe, Int.reduceBEq, Int.reduceBNe, Int.reduceToNat, Int.reduceNeg]
    try simp only [go_sem, Nat.reduceAdd, Nat.reduceMul, Nat.reduceSub, Nat.reduceEqDiff, Nat.reduceLT, Nat.reduceLeDiff, Nat.reduceBEq, reduceIte, reduceCtorEq, Int.reduceAdd, Int.reduceLT, Int.reduceLE, Int.reduceGT, Int.reduceGE, Int.reduceEq, Int.reduceNe, Int.reduceBEq, Int.reduceBNe, Int.reduceToNat, Int.reduceNeg]
    refine AWp_cond _ rfl rfl (fun h2 => ?_) (fun h2 => ?_)
    · try simp only [offer51, h1, h2, qEmpty, go_sem, Nat.reduceAdd, Nat.reduceMul, Nat.reduceSub, Nat.reduceEqDiff, Nat.reduceLT, Nat.reduceLeDiff, Nat.reduceBEq, reduceIte, reduceCtorEq, Int.reduceAdd, Int.reduceLT, Int.reduceLE, Int.reduceGT, Int.reduceGE, Int.reduceEq, Int.reduceNe, Int.reduceBEq, Int.reduceBNe, Int.reduceToNat, Int.reduceNeg]
    try simp only [go_sem, Nat.reduceAdd, Nat.reduceMul, Nat.reduceSub, Nat.reduceEqDiff, Nat.reduceLT, Nat.reduceLeDiff, Nat.reduceBEq, reduceIte, reduceCtorEq, Int.reduceAdd, Int.reduceLT, Int.reduceLE, Int.reduceGT, Int.reduceGE, Int.reduceEq, Int.reduceNe, Int.reduceBEq, Int.reduceBNe, Int.reduceToNat, Int.reduceNeg]
    refine AWp_cond _ rfl rfl (fun h3 => ?_) (fun h3 => ?_)
    · try simp only [offer51, h1, h2, h3, qEmpty, go_sem, Nat.reduceAdd, Nat.reduceMul, Nat.reduceSub, Nat.reduceEqDiff, Nat.reduceLT, Nat.reduceLeDiff, Nat.reduceBEq, reduceIte, reduceCtorEq, Int.reduceAdd, Int.reduceLT, Int.reduceLE, Int.reduceGT, Int.reduceGE, Int.reduceEq, Int.reduceNe, Int.reduceBEq, Int.reduceBNe, Int.reduceToNat, Int.reduceNeg]
    try simp only [go_sem, Nat.reduceAdd, Nat.reduceMul, Nat.reduceSub, Nat.reduceEqDiff, Nat.reduceLT, Nat.reduceLeDiff, Nat.reduceBEq, reduceIte, reduceCtorEq, Int.reduceAdd, Int.reduceLT, Int.reduceLE, Int.reduceGT, Int.reduceGE, Int.reduceEq, Int.reduceNe, Int.reduceBEq, Int.reduceBNe, Int.reduceToNat, Int.reduceNeg]
    refine AWp_cond _ rfl rfl (fun h4 => ?_) (fun h4 => ?_)
    · first | exact Bool.noConfusion h4 | try simp only [offer51, h1, h2, h3, h4, qEmpty, go_sem, Nat.reduceAdd, Nat.reduceMul, Nat.reduceSub, Nat.reduceEqDiff, Nat.reduceLT, Nat.reduceLeDiff, Nat.reduceBEq, reduceIte, reduceCtorEq, Int.reduceAdd, Int.reduceLT, Int.reduceLE, Int.reduceGT, Int.reduceGE, Int.reduceEq, Int.reduceNe, Int.reduceBEq, Int.reduceBNe, Int.reduceToNat, Int.reduceNeg]
    simp only [encPk, offer51, h1, h2, h3, h4, List.map_append, go_sem, Nat.reduceAdd, Nat.reduceMul, Nat.reduceSub, Nat.reduceEqDiff, Nat.reduceLT, Nat.reduceLeDiff, Nat.reduceBEq, reduceIte, reduceCtorEq, Int.reduceAdd, Int.reduceLT, Int.reduceLE, Int.reduceGT, Int.reduceGE, Int.reduceEq, Int.reduceNe, Int.reduceBEq, Int.reduceBNe, Int.reduceToNat, Int.reduceNeg]
    try (simp only [List.length_cons] at hl; omega)
  | cons x l =>
    simp only [encPk, go_sem, Nat.reduceAdd, Nat.reduceMul, Nat.reduceSub, Nat.reduceEqDiff, Nat.reduceLT, Nat.reduceLeDiff, Nat.reduceBEq, reduceIte, reduceCtorEq, Int.reduceAdd, Int.reduceLT, Int.reduceLE, Int.reduceGT, Int.reduceGE, Int.reduceEq, Int.reduceNe, Int.reduceBEq, Int.reduceBNe, Int.reduceToNat, Int.reduceNeg]
    repeat (with_reducible refine And.intro (by first | omega | (simp_all; done) | grind) ?_)
    (repeat (with_reducible refine And.intro (by first | omega | (simp_all; done) | grind) ?_)); refine callO_pure (alike51_ok p x) b_farandoleref51_alike (fun h => by first | exact h | (simp only [h, Bool.and_self, Bool.and_true])) (fun _ => by first | exact ⟨matchA_refl, trivial⟩ | exact ⟨matchA_refl, matchA_refl, trivial⟩ | exact ⟨matchA_refl, matchA_refl, matchA_refl, trivial⟩ | simp only [encPk, encQ, go_sem, Nat.reduceAdd, Nat.reduceMul, Nat.reduceSub, Nat.reduceEqDiff, Nat.reduceLT, Nat.reduceLeDiff, Nat.reduceBEq, reduceIte, reduceCtorEq, Int.reduceAdd, Int.reduceLT, Int.reduceLE, Int.reduceGT, Int.reduceGE, Int.reduceEq, Int.reduceNe, Int.reduceBEq, Int.reduceBNe, Int.reduceToNat, Int.reduceNeg]) (by simp only [go_sem, Nat.reduceAdd, Nat.reduceMul, Nat.reduceSub, Nat.reduceEqDiff, Nat.reduceLT, Nat.reduceLeDiff, Nat.reduceBEq, reduceIte, reduceCtorEq, Int.reduceAdd, Int.reduceLT, Int.reduceLE, Int.reduceGT, Int.reduceGE, Int.reduceEq, Int.reduceNe, Int.reduceBEq, Int.reduceBNe, Int.reduceToNat, Int.reduceNeg]) rfl rfl ?_
    try simp only [go_sem, Nat.reduceAdd, Nat.reduceMul, Nat.reduceSub, Nat.reduceEqDiff, Nat.reduceLT, Nat.reduceLeDiff, Nat.reduceBEq, reduceIte, reduceCtorEq, Int.reduceAdd, Int.reduceLT, Int.reduceLE, Int.reduceGT, Int.reduceGE, Int.reduceEq, Int.reduceNe, Int.reduceBEq, Int.reduceBNe, Int.reduceToNat, Int.reduceNeg]
    repeat (with_reducible refine And.intro (by first | omega | (simp_all; done) | grind) ?_)
    refine AWp_cond _ rfl rfl (fun h1 => ?_) (fun h1 => ?_)
    · try simp only [offer51, h1, qEmpty, go_sem, Nat.reduceAdd, Nat.reduceMul, Nat.reduceSub, Nat.reduceEqDiff, Nat.reduceLT, Nat.reduceLeDiff, Nat.reduceBEq, reduceIte, reduceCtorEq, Int.reduceAdd, Int.reduceLT, Int.reduceLE, Int.reduceGT, Int.reduceGE, Int.reduceEq, Int.reduceNe, Int.reduceBEq, Int.reduceBNe, Int.reduceToNat, Int.reduceNeg]
    try simp only [go_sem, Nat.reduceAdd, Nat.reduceMul, Nat.reduceSub, Nat.reduceEqDiff, Nat.reduceLT, Nat.reduceLeDiff, Nat.reduceBEq, reduceIte, reduceCtorEq, Int.reduceAdd, Int.reduceLT, Int.reduceLE, Int.reduceGT, Int.reduceGE, Int.reduceEq, Int.reduceNe, Int.reduceBEq, Int.reduceBNe, Int.reduceToNat, Int.reduceNeg]
    refine AWp_cond _ rfl rfl (fun h2 => ?_) (fun h2 => ?_)
    · try simp only [offer51, h1, h2, qEmpty, go_sem, Nat.reduceAdd, Nat.reduceMul, Nat.reduceSub, Nat.reduceEqDiff, Nat.reduceLT, Nat.reduceLeDiff, Nat.reduceBEq, reduceIte, reduceCtorEq, Int.reduceAdd, Int.reduceLT, Int.reduceLE, Int.reduceGT, Int.reduceGE, Int.reduceEq, Int.reduceNe, Int.reduceBEq, Int.reduceBNe, Int.reduceToNat, Int.reduceNeg]
    try simp only [go_sem, Nat.reduceAdd, Nat.reduceMul, Nat.reduceSub, Nat.reduceEqDiff, Nat.reduceLT, Nat.reduceLeDiff, Nat.reduceBEq, reduceIte, reduceCtorEq, Int.reduceAdd, Int.reduceLT, Int.reduceLE, Int.reduceGT, Int.reduceGE, Int.reduceEq, Int.reduceNe, Int.reduceBEq, Int.reduceBNe, Int.reduceToNat, Int.reduceNeg]
    refine AWp_cond _ rfl rfl (fun h3 => ?_) (fun h3 => ?_)
    · try simp only [offer51, h1, h2, h3, qEmpty, go_sem, Nat.reduceAdd, Nat.reduceMul, Nat.reduceSub, Nat.reduceEqDiff, Nat.reduceLT, Nat.reduceLeDiff, Nat.reduceBEq, reduceIte, reduceCtorEq, Int.reduceAdd, Int.reduceLT, Int.reduceLE, Int.reduceGT, Int.reduceGE, Int.reduceEq, Int.reduceNe, Int.reduceBEq, Int.reduceBNe, Int.reduceToNat, Int.reduceNeg]
    try simp only [go_sem, Nat.reduceAdd, Nat.reduceMul, Nat.reduceSub, Nat.reduceEqDiff, Nat.reduceLT, Nat.reduceLeDiff, Nat.reduceBEq, reduceIte, reduceCtorEq, Int.reduceAdd, Int.reduceLT, Int.reduceLE, Int.reduceGT, Int.reduceGE, Int.reduceEq, Int.reduceNe, Int.reduceBEq, Int.reduceBNe, Int.reduceToNat, Int.reduceNeg]
    refine AWp_cond _ rfl rfl (fun h4 => ?_) (fun h4 => ?_)
    · first | exact Bool.noConfusion h4 | try simp only [offer51, h1, h2, h3, h4, qEmpty, go_sem, Nat.reduceAdd, Nat.reduceMul, Nat.reduceSub, Nat.reduceEqDiff, Nat.reduceLT, Nat.reduceLeDiff, Nat.reduceBEq, reduceIte, reduceCtorEq, Int.reduceAdd, Int.reduceLT, Int.reduceLE, Int.reduceGT, Int.reduceGE, Int.reduceEq, Int.reduceNe, Int.reduceBEq, Int.reduceBNe, Int.reduceToNat, Int.reduceNeg]
    simp only [encPk, offer51, h1, h2, h3, h4, List.map_append, go_sem, Nat.reduceAdd, Nat.reduceMul, Nat.reduceSub, Nat.reduceEqDiff, Nat.reduceLT, Nat.reduceLeDiff, Nat.reduceBEq, reduceIte, reduceCtorEq, Int.reduceAdd, Int.reduceLT, Int.reduceLE, Int.reduceGT, Int.reduceGE, Int.reduceEq, Int.reduceNe, Int.reduceBEq, Int.reduceBNe, Int.reduceToNat, Int.reduceNeg]
    try (simp only [List.length_cons] at hl; omega)

def Sto (q : Qu) (i : { i : Nat // i ≤ q.items.length }) : St :=
  ⟨[(1, true, .d (.ptr 0 0)), (2, true, .d (.ptr 1 0)), (3, true, .d (.ptr 2 0)), (4, true, .d (.int .i64 (i.val : Nat)))],
   [qObj q, .row [.d (.int .i64 0), .d (.int .i64 0), .d .nilsl], .row [.d (.int .i64 q.acc), .d (.int .i64 q.cons), .own 0 9 ((q.items.take i.val).map encPk)]], [0], 1⟩

set_option maxRecDepth 10000 in
theorem to51_ok (q : Qu) (hq : q.items.length ≤ 1000) : ACall Try.prog 28 [.d (.agg (encQ q))] [] (.d (.agg (encQ q))) [] := by
  refine k_farandolelaw51_To ?_
  simp only [e_farandolelaw51_To, encQ, go_sem, Nat.reduceAdd, Nat.reduceMul, Nat.reduceSub, Nat.reduceEqDiff, Nat.reduceLT, Nat.reduceLeDiff, Nat.reduceBEq, reduceIte, reduceCtorEq, Int.reduceAdd, Int.reduceLT, Int.reduceLE, Int.reduceGT, Int.reduceGE, Int.reduceEq, Int.reduceNe, Int.reduceBEq, Int.reduceBNe, Int.reduceToNat, Int.reduceNeg]
  refine AWp_loop (Sto q) (fun i => q.items.length - i.val) ⟨0, Nat.zero_le _⟩ ?_ (fun i => ?_)
  · try simp only [Sto, qObj, go_sem, Nat.reduceAdd, Nat.reduceMul, Nat.reduceSub, Nat.reduceEqDiff, Nat.reduceLT, Nat.reduceLeDiff, Nat.reduceBEq, reduceIte, reduceCtorEq, Int.reduceAdd, Int.reduceLT, Int.reduceLE, Int.reduceGT, Int.reduceGE, Int.reduceEq, Int.reduceNe, Int.reduceBEq, Int.reduceBNe, Int.reduceToNat, Int.reduceNeg]
  obtain ⟨i, hi⟩ := i
  try simp only [Sto, qObj, go_sem, Nat.reduceAdd, Nat.reduceMul, Nat.reduceSub, Nat.reduceEqDiff, Nat.reduceLT, Nat.reduceLeDiff, Nat.reduceBEq, reduceIte, reduceCtorEq, Int.reduceAdd, Int.reduceLT, Int.reduceLE, Int.reduceGT, Int.reduceGE, Int.reduceEq, Int.reduceNe, Int.reduceBEq, Int.reduceBNe, Int.reduceToNat, Int.reduceNeg]
  refine AWp_cond _ rfl rfl (fun h => ?_) (fun h => ?_)
  · have hil : i < q.items.length := by simpa using h
    simp only [getD_map encPk q.items hil, encPk, go_sem, Nat.reduceAdd, Nat.reduceMul, Nat.reduceSub, Nat.reduceEqDiff, Nat.reduceLT, Nat.reduceLeDiff, Nat.reduceBEq, reduceIte, reduceCtorEq, Int.reduceAdd, Int.reduceLT, Int.reduceLE, Int.reduceGT, Int.reduceGE, Int.reduceEq, Int.reduceNe, Int.reduceBEq, Int.reduceBNe, Int.reduceToNat, Int.reduceNeg]
    repeat (with_reducible refine And.intro (by first | omega | (simp_all; done) | grind) ?_)
    have hlt : (q.items.take i).length ≤ 1000 := by simp; omega
    refine ⟨⟨i + 1, hil⟩, ?_, by dsimp only; omega⟩
    simp only [Sto, qObj, map_take_succ encPk q.items hil, encPk, wrap_succ (show i < 9223372036854775807 by omega), go_sem, Nat.reduceAdd, Nat.reduceMul, Nat.reduceSub, Nat.reduceEqDiff, Nat.reduceLT, Nat.reduceLeDiff, Nat.reduceBEq, reduceIte, reduceCtorEq, Int.reduceAdd, Int.reduceLT, Int.reduceLE, Int.reduceGT, Int.reduceGE, Int.reduceEq, Int.reduceNe, Int.reduceBEq, Int.reduceBNe, Int.reduceToNat, Int.reduceNeg]
  · have hil : i = q.items.length := by have : q.items.length ≤ i := by simpa using h
                                        omega
    subst hil
    try simp only [List.take_length, go_sem, Nat.reduceAdd, Nat.reduceMul, Nat.reduceSub, Nat.reduceEqDiff, Nat.reduceLT, Nat.reduceLeDiff, Nat.reduceBEq, reduceIte, reduceCtorEq, Int.reduceAdd, Int.reduceLT, Int.reduceLE, Int.reduceGT, Int.reduceGE, Int.reduceEq, Int.reduceNe, Int.reduceBEq, Int.reduceBNe, Int.reduceToNat, Int.reduceNeg]
set_option maxRecDepth 10000 in
theorem from51_ok (q : Qu) (hq : q.items.length ≤ 1000) : ACall Try.prog 31 [.d (.agg (encQ q))] [] (.d (.agg (encQ q))) [] := by
  refine k_farandolelaw51_From ?_
  simp only [e_farandolelaw51_From, encQ, go_sem, Nat.reduceAdd, Nat.reduceMul, Nat.reduceSub, Nat.reduceEqDiff, Nat.reduceLT, Nat.reduceLeDiff, Nat.reduceBEq, reduceIte, reduceCtorEq, Int.reduceAdd, Int.reduceLT, Int.reduceLE, Int.reduceGT, Int.reduceGE, Int.reduceEq, Int.reduceNe, Int.reduceBEq, Int.reduceBNe, Int.reduceToNat, Int.reduceNeg]
  refine AWp_loop (Sto q) (fun i => q.items.length - i.val) ⟨0, Nat.zero_le _⟩ ?_ (fun i => ?_)
  · try simp only [Sto, qObj, go_sem, Nat.reduceAdd, Nat.reduceMul, Nat.reduceSub, Nat.reduceEqDiff, Nat.reduceLT, Nat.reduceLeDiff, Nat.reduceBEq, reduceIte, reduceCtorEq, Int.reduceAdd, Int.reduceLT, Int.reduceLE, Int.reduceGT, Int.reduceGE, Int.reduceEq, Int.reduceNe, Int.reduceBEq, Int.reduceBNe, Int.reduceToNat, Int.reduceNeg]
  obtain ⟨i, hi⟩ := i
  try simp only [Sto, qObj, go_sem, Nat.reduceAdd, Nat.reduceMul, Nat.reduceSub, Nat.reduceEqDiff, Nat.reduceLT, Nat.reduceLeDiff, Nat.reduceBEq, reduceIte, reduceCtorEq, Int.reduceAdd, Int.reduceLT, Int.reduceLE, Int.reduceGT, Int.reduceGE, Int.reduceEq, Int.reduceNe, Int.reduceBEq, Int.reduceBNe, Int.reduceToNat, Int.reduceNeg]
  refine AWp_cond _ rfl rfl (fun h => ?_) (fun h => ?_)
  · have hil : i < q.items.length := by simpa using h
    simp only [getD_map encPk q.items hil, encPk, go_sem, Nat.reduceAdd, Nat.reduceMul, Nat.reduceSub, Nat.reduceEqDiff, Nat.reduceLT, Nat.reduceLeDiff, Nat.reduceBEq, reduceIte, reduceCtorEq, Int.reduceAdd, Int.reduceLT, Int.reduceLE, Int.reduceGT, Int.reduceGE, Int.reduceEq, Int.reduceNe, Int.reduceBEq, Int.reduceBNe, Int.reduceToNat, Int.reduceNeg]
    repeat (with_reducible refine And.intro (by first | omega | (simp_all; done) | grind) ?_)
    have hlt : (q.items.take i).length ≤ 1000 := by simp; omega
    refine ⟨⟨i + 1, hil⟩, ?_, by dsimp only; omega⟩
    simp only [Sto, qObj, map_take_succ encPk q.items hil, encPk, wrap_succ (show i < 9223372036854775807 by omega), go_sem, Nat.reduceAdd, Nat.reduceMul, Nat.reduceSub, Nat.reduceEqDiff, Nat.reduceLT, Nat.reduceLeDiff, Nat.reduceBEq, reduceIte, reduceCtorEq, Int.reduceAdd, Int.reduceLT, Int.reduceLE, Int.reduceGT, Int.reduceGE, Int.reduceEq, Int.reduceNe, Int.reduceBEq, Int.reduceBNe, Int.reduceToNat, Int.reduceNeg]
  · have hil : i = q.items.length := by have : q.items.length ≤ i := by simpa using h
                                        omega
    subst hil
    try simp only [List.take_length, go_sem, Nat.reduceAdd, Nat.reduceMul, Nat.reduceSub, Nat.reduceEqDiff, Nat.reduceLT, Nat.reduceLeDiff, Nat.reduceBEq, reduceIte, reduceCtorEq, Int.reduceAdd, Int.reduceLT, Int.reduceLE, Int.reduceGT, Int.reduceGE, Int.reduceEq, Int.reduceNe, Int.reduceBEq, Int.reduceBNe, Int.reduceToNat, Int.reduceNeg]

def msg (seq : Int) : Pk := ⟨1, 1, 0, 0, 1, seq, seq.tmod 40, [], []⟩
theorem msg_sm (seq : Int) : (msg seq).Sm := ⟨Nat.zero_le _, Nat.zero_le _⟩
theorem msg_ok (seq : Int) : ACall Try.prog 34 [.d (.int .i64 seq)] [] (.d (.agg (encPk (msg seq)))) [] := by
  refine k_farandolelaw51_message ?_
  simp only [e_farandolelaw51_message, encPk, msg, go_sem, Nat.reduceAdd, Nat.reduceMul, Nat.reduceSub, Nat.reduceEqDiff, Nat.reduceLT, Nat.reduceLeDiff, Nat.reduceBEq, reduceIte, reduceCtorEq, Int.reduceAdd, Int.reduceLT, Int.reduceLE, Int.reduceGT, Int.reduceGE, Int.reduceEq, Int.reduceNe, Int.reduceBEq, Int.reduceBNe, Int.reduceToNat, Int.reduceNeg]
end Go.Proofs.Ythcpckcgjplhiaa
