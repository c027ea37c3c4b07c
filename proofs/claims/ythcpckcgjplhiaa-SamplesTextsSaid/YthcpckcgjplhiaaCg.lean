/- The reference's packets. -/
import Derived.Test.YthcpckcgjplhiaaCf
namespace Go.Proofs.Ythcpckcgjplhiaa
open Go.Abs
set_option linter.unusedSimpArgs false
-- ENC encPk encAV encI

theorem take_all_succ {α : Type} {f : α → Bool} {l : List α} {i : Nat} (h : (l.take i).all f = true) (hi : i < l.length) (hf : f l[i] = true) : (l.take (i + 1)).all f = true := by
  rw [List.take_succ_eq_append_getElem hi, List.all_append, h]
  simp [hf]
theorem all_no {α : Type} {f : α → Bool} {l : List α} {i : Nat} (hi : i < l.length) (hf : f l[i] = false) : l.all f = false := by
  rw [List.all_eq_false]
  exact ⟨l[i], List.getElem_mem hi, by simp [hf]⟩
theorem all_done {α : Type} {f : α → Bool} {l : List α} {i : Nat} (h : (l.take i).all f = true) (hi : l.length ≤ i) : l.all f = true := by
  rwa [List.take_of_length_le hi] at h

noncomputable def s_farandoleref46_in_r0 : List SOper := [
  ⟨(some 6), .mov (.k (.d (.bool false))), none⟩]
noncomputable def s_farandoleref46_in_r1 : List SOper := [
  ⟨(some 7), .mov (.t 0), none⟩,
  ⟨(some 8), .mov (.t 1), none⟩,
  ⟨(some 9), .bin .geq (.t 7) (.t 8), none⟩,
  ⟨(some 10), .mov (.t 9), none⟩,
  ⟨(some 11), .mov (.t 0), (some (10, true))⟩,
  ⟨(some 12), .mov (.t 2), (some (10, true))⟩,
  ⟨(some 13), .bin .leq (.t 11) (.t 12), (some (10, true))⟩,
  ⟨(some 14), .pick (.t 10) (.t 13) (.k (.d (.bool false))), none⟩,
  ⟨(some 6), .mov (.t 14), none⟩]
noncomputable def s_farandoleref46_in : SCode := (.seq (.region s_farandoleref46_in_r0 0 []) (.seq (.region s_farandoleref46_in_r1 0 []) .ret))
theorem e_farandoleref46_in {P : Program} {k0 : Nat} {Q : SExit → St → Prop} {st : St} : AWp P k0 s_farandoleref46_in Q st = AWp P k0 (.seq (.region s_farandoleref46_in_r0 0 []) (.seq (.region s_farandoleref46_in_r1 0 []) .ret)) Q st := rfl
theorem u_farandoleref46_in_r0 {P : Program} {o : Nat} {p : List (Nat × Nat)} {Q : SExit → St → Prop} {st : St} : goReg P s_farandoleref46_in_r0 o p Q st = goLit P (litOf s_farandoleref46_in_r0.eq_1) o p Q st := goReg_of _
theorem u_farandoleref46_in_r1 {P : Program} {o : Nat} {p : List (Nat × Nat)} {Q : SExit → St → Prop} {st : St} : goReg P s_farandoleref46_in_r1 o p Q st = goLit P (litOf s_farandoleref46_in_r1.eq_1) o p Q st := goReg_of _
attribute [go_sem] u_farandoleref46_in_r0 u_farandoleref46_in_r1 e_farandoleref46_in
set_option maxRecDepth 100000 in
theorem c_farandoleref46_in : Try.f99.body.bind (compCode Try.prog Try.f99.ntmps news) = some s_farandoleref46_in := by kernel_rfl
theorem r_farandoleref46_in : Try.f99.results.toList.mapM (compRes Try.prog) = some [(.tmp 6)] := by kernel_rfl
theorem n_farandoleref46_in : Try.f99.ntmps = 15 := by kernel_rfl
theorem b_farandoleref46_in : (Try.prog.funcs[99]?).any (fun fn => fn.body.isSome && !(fn.name == "runtime.NumGoroutine")) = true := by kernel_rfl
theorem ko_farandoleref46_in {args : List ASlot} {r : ASlot} {objs objs' : List AObj} (h : AWp Try.prog objs.length s_farandoleref46_in (bodyQ objs.length [(.tmp 6)] [r] objs') (entrySt args objs)) (hN : args.length ≤ 15 := by simp) (hw : ltB 16 (toksOf args ++ osToks objs) = true := by rfl) : ACall Try.prog 99 args objs r objs' :=
  acall_go (rs := [r]) follows Try.func99 c_farandoleref46_in r_farandoleref46_in h (by rw [n_farandoleref46_in]; exact hN) rfl hw
theorem k_farandoleref46_in {args : List ASlot} {r : ASlot} (h : AWp Try.prog 0 s_farandoleref46_in (bodyQ 0 [(.tmp 6)] [r] []) (entrySt args [])) (hN : args.length ≤ 15 := by simp) (hw : ltB 16 (toksOf args ++ osToks []) = true := by rfl) : ACall Try.prog 99 args [] r [] := ko_farandoleref46_in h hN hw

noncomputable def s_farandoleref46_pair_r0 : List SOper := [
  ⟨(some 1), .box 1 (.t 0), none⟩,
  ⟨(some 2), .mov (.k (.d (.bool false))), none⟩]
noncomputable def s_farandoleref46_pair_r1 : List SOper := [
  ⟨(some 3), .faddr 3 (.t 1), none⟩,
  ⟨(some 4), .load none (.t 3), none⟩,
  ⟨(some 5), .call (.k (.d (.func (.func 99) [] []))) [(.t 4), (.k (.d (.int .i64 0))), (.k (.d (.int .i64 5)))], none⟩,
  ⟨(some 6), .mov (.t 5), none⟩,
  ⟨(some 7), .faddr 4 (.t 1), (some (6, true))⟩,
  ⟨(some 8), .load none (.t 7), (some (6, true))⟩,
  ⟨(some 9), .call (.k (.d (.func (.func 99) [] []))) [(.t 8), (.k (.d (.int .i64 0))), (.k (.d (.int .i64 5)))], (some (6, true))⟩,
  ⟨(some 10), .pick (.t 6) (.t 9) (.k (.d (.bool false))), none⟩,
  ⟨(some 11), .mov (.t 10), none⟩,
  ⟨(some 12), .faddr 3 (.t 1), (some (11, true))⟩,
  ⟨(some 13), .load none (.t 12), (some (11, true))⟩,
  ⟨(some 14), .faddr 4 (.t 1), (some (11, true))⟩,
  ⟨(some 15), .load none (.t 14), (some (11, true))⟩,
  ⟨(some 16), .bin .neq (.t 13) (.t 15), (some (11, true))⟩,
  ⟨(some 17), .pick (.t 11) (.t 16) (.k (.d (.bool false))), none⟩,
  ⟨(some 2), .mov (.t 17), none⟩]
noncomputable def s_farandoleref46_pair : SCode := (.seq (.region s_farandoleref46_pair_r0 1 []) (.seq (.region s_farandoleref46_pair_r1 0 []) .ret))
theorem e_farandoleref46_pair {P : Program} {k0 : Nat} {Q : SExit → St → Prop} {st : St} : AWp P k0 s_farandoleref46_pair Q st = AWp P k0 (.seq (.region s_farandoleref46_pair_r0 1 []) (.seq (.region s_farandoleref46_pair_r1 0 []) .ret)) Q st := rfl
theorem u_farandoleref46_pair_r0 {P : Program} {o : Nat} {p : List (Nat × Nat)} {Q : SExit → St → Prop} {st : St} : goReg P s_farandoleref46_pair_r0 o p Q st = goLit P (litOf s_farandoleref46_pair_r0.eq_1) o p Q st := goReg_of _
theorem u_farandoleref46_pair_r1 {P : Program} {o : Nat} {p : List (Nat × Nat)} {Q : SExit → St → Prop} {st : St} : goReg P s_farandoleref46_pair_r1 o p Q st = goLit P (litOf s_farandoleref46_pair_r1.eq_1) o p Q st := goReg_of _
attribute [go_sem] u_farandoleref46_pair_r0 u_farandoleref46_pair_r1 e_farandoleref46_pair
set_option maxRecDepth 100000 in
theorem c_farandoleref46_pair : Try.f100.body.bind (compCode Try.prog Try.f100.ntmps news) = some s_farandoleref46_pair := by kernel_rfl
theorem r_farandoleref46_pair : Try.f100.results.toList.mapM (compRes Try.prog) = some [(.tmp 2)] := by kernel_rfl
theorem n_farandoleref46_pair : Try.f100.ntmps = 18 := by kernel_rfl
theorem b_farandoleref46_pair : (Try.prog.funcs[100]?).any (fun fn => fn.body.isSome && !(fn.name == "runtime.NumGoroutine")) = true := by kernel_rfl
theorem ko_farandoleref46_pair {args : List ASlot} {r : ASlot} {objs objs' : List AObj} (h : AWp Try.prog objs.length s_farandoleref46_pair (bodyQ objs.length [(.tmp 2)] [r] objs') (entrySt args objs)) (hN : args.length ≤ 18 := by simp) (hw : ltB 16 (toksOf args ++ osToks objs) = true := by rfl) : ACall Try.prog 100 args objs r objs' :=
  acall_go (rs := [r]) follows Try.func100 c_farandoleref46_pair r_farandoleref46_pair h (by rw [n_farandoleref46_pair]; exact hN) rfl hw
theorem k_farandoleref46_pair {args : List ASlot} {r : ASlot} (h : AWp Try.prog 0 s_farandoleref46_pair (bodyQ 0 [(.tmp 2)] [r] []) (entrySt args [])) (hN : args.length ≤ 18 := by simp) (hw : ltB 16 (toksOf args ++ osToks []) = true := by rfl) : ACall Try.prog 100 args [] r [] := ko_farandoleref46_pair h hN hw

noncomputable def s_farandoleref01_Proper_r0 : List SOper := [
  ⟨(some 1), .box 1 (.t 0), none⟩,
  ⟨(some 2), .mov (.k (.d (.bool false))), none⟩]
noncomputable def s_farandoleref01_Proper_r1 : List SOper := [
  ⟨(some 3), .faddr 0 (.t 1), none⟩,
  ⟨(some 4), .load none (.t 3), none⟩,
  ⟨(some 5), .bin .eql (.t 4) (.k (.d (.int .i64 1))), none⟩,
  ⟨(some 6), .mov (.t 5), none⟩,
  ⟨(some 7), .faddr 2 (.t 1), (some (6, true))⟩,
  ⟨(some 8), .load none (.t 7), (some (6, true))⟩,
  ⟨(some 9), .bin .eql (.t 8) (.k (.d (.str []))), (some (6, true))⟩,
  ⟨(some 10), .pick (.t 6) (.t 9) (.k (.d (.bool false))), none⟩,
  ⟨(some 11), .mov (.t 10), none⟩,
  ⟨(some 12), .faddr 0 (.t 1), (some (11, false))⟩,
  ⟨(some 13), .load none (.t 12), (some (11, false))⟩,
  ⟨(some 14), .bin .eql (.t 13) (.k (.d (.int .i64 2))), (some (11, false))⟩,
  ⟨(some 15), .mov (.t 14), (some (11, false))⟩,
  ⟨(some 16), .faddr 1 (.t 1), (some (15, true))⟩,
  ⟨(some 17), .load none (.t 16), (some (15, true))⟩,
  ⟨(some 18), .bin .eql (.t 17) (.k (.d (.int .i64 0))), (some (15, true))⟩,
  ⟨(some 19), .pick (.t 15) (.t 18) (.k (.d (.bool false))), (some (11, false))⟩,
  ⟨(some 20), .pick (.t 11) (.k (.d (.bool true))) (.t 19), none⟩,
  ⟨(some 2), .mov (.t 20), none⟩]
noncomputable def s_farandoleref01_Proper : SCode := (.seq (.region s_farandoleref01_Proper_r0 1 []) (.seq (.region s_farandoleref01_Proper_r1 0 []) .ret))
theorem e_farandoleref01_Proper {P : Program} {k0 : Nat} {Q : SExit → St → Prop} {st : St} : AWp P k0 s_farandoleref01_Proper Q st = AWp P k0 (.seq (.region s_farandoleref01_Proper_r0 1 []) (.seq (.region s_farandoleref01_Proper_r1 0 []) .ret)) Q st := rfl
theorem u_farandoleref01_Proper_r0 {P : Program} {o : Nat} {p : List (Nat × Nat)} {Q : SExit → St → Prop} {st : St} : goReg P s_farandoleref01_Proper_r0 o p Q st = goLit P (litOf s_farandoleref01_Proper_r0.eq_1) o p Q st := goReg_of _
theorem u_farandoleref01_Proper_r1 {P : Program} {o : Nat} {p : List (Nat × Nat)} {Q : SExit → St → Prop} {st : St} : goReg P s_farandoleref01_Proper_r1 o p Q st = goLit P (litOf s_farandoleref01_Proper_r1.eq_1) o p Q st := goReg_of _
attribute [go_sem] u_farandoleref01_Proper_r0 u_farandoleref01_Proper_r1 e_farandoleref01_Proper
set_option maxRecDepth 100000 in
theorem c_farandoleref01_Proper : Try.f119.body.bind (compCode Try.prog Try.f119.ntmps news) = some s_farandoleref01_Proper := by kernel_rfl
theorem r_farandoleref01_Proper : Try.f119.results.toList.mapM (compRes Try.prog) = some [(.tmp 2)] := by kernel_rfl
theorem n_farandoleref01_Proper : Try.f119.ntmps = 21 := by kernel_rfl
theorem b_farandoleref01_Proper : (Try.prog.funcs[119]?).any (fun fn => fn.body.isSome && !(fn.name == "runtime.NumGoroutine")) = true := by kernel_rfl
theorem ko_farandoleref01_Proper {args : List ASlot} {r : ASlot} {objs objs' : List AObj} (h : AWp Try.prog objs.length s_farandoleref01_Proper (bodyQ objs.length [(.tmp 2)] [r] objs') (entrySt args objs)) (hN : args.length ≤ 21 := by simp) (hw : ltB 16 (toksOf args ++ osToks objs) = true := by rfl) : ACall Try.prog 119 args objs r objs' :=
  acall_go (rs := [r]) follows Try.func119 c_farandoleref01_Proper r_farandoleref01_Proper h (by rw [n_farandoleref01_Proper]; exact hN) rfl hw
theorem k_farandoleref01_Proper {args : List ASlot} {r : ASlot} (h : AWp Try.prog 0 s_farandoleref01_Proper (bodyQ 0 [(.tmp 2)] [r] []) (entrySt args [])) (hN : args.length ≤ 21 := by simp) (hw : ltB 16 (toksOf args ++ osToks []) = true := by rfl) : ACall Try.prog 119 args [] r [] := ko_farandoleref01_Proper h hN hw

noncomputable def s_farandoleref46_content_r0 : List SOper := [
  ⟨(some 1), .box 1 (.t 0), none⟩,
  ⟨(some 2), .mov (.k (.d (.bool false))), none⟩]
noncomputable def s_farandoleref46_content_r1 : List SOper := [
  ⟨(some 5), .faddr 7 (.t 1), none⟩,
  ⟨(some 6), .load none (.t 5), none⟩,
  ⟨(some 7), .len (.t 6), none⟩,
  ⟨(some 8), .bin .gtr (.t 7) (.k (.d (.int .i64 4))), none⟩,
  ⟨(some 9), .mov (.t 8), none⟩,
  ⟨(some 10), .faddr 8 (.t 1), (some (9, false))⟩,
  ⟨(some 11), .load none (.t 10), (some (9, false))⟩,
  ⟨(some 12), .len (.t 11), (some (9, false))⟩,
  ⟨(some 13), .bin .gtr (.t 12) (.k (.d (.int .i64 6))), (some (9, false))⟩,
  ⟨(some 14), .pick (.t 9) (.k (.d (.bool true))) (.t 13), none⟩]
noncomputable def s_farandoleref46_content_r2 : List SOper := [
  ⟨(some 2), .mov (.k (.d (.bool false))), none⟩]
noncomputable def s_farandoleref46_content_r3 : List SOper := [
  ⟨(some 3), .mov (.k (.d (.int .i64 0))), none⟩]
noncomputable def s_farandoleref46_content_r4 : List SOper := [
  ⟨(some 15), .mov (.t 3), none⟩,
  ⟨(some 16), .faddr 7 (.t 1), none⟩,
  ⟨(some 17), .load none (.t 16), none⟩,
  ⟨(some 18), .len (.t 17), none⟩,
  ⟨(some 19), .bin .lss (.t 15) (.t 18), none⟩]
noncomputable def s_farandoleref46_content_r5 : List SOper := [
  ⟨(some 22), .faddr 7 (.t 1), none⟩,
  ⟨(some 23), .load none (.t 22), none⟩,
  ⟨(some 24), .mov (.t 3), none⟩,
  ⟨(some 25), .iaddr 3 (.t 23) (.t 24), none⟩,
  ⟨(some 26), .load (some 3) (.t 25), none⟩,
  ⟨(some 27), .call (.k (.d (.func (.func 119) [] []))) [(.t 26)], none⟩,
  ⟨(some 28), .not (.t 27), none⟩,
  ⟨(some 29), .mov (.t 28), none⟩,
  ⟨(some 30), .faddr 7 (.t 1), (some (29, false))⟩,
  ⟨(some 31), .load none (.t 30), (some (29, false))⟩,
  ⟨(some 32), .mov (.t 3), (some (29, false))⟩,
  ⟨(some 33), .iaddr 3 (.t 31) (.t 32), (some (29, false))⟩,
  ⟨(some 34), .faddr 2 (.t 33), (some (29, false))⟩,
  ⟨(some 35), .load none (.t 34), (some (29, false))⟩,
  ⟨(some 36), .lenS (.t 35), (some (29, false))⟩,
  ⟨(some 37), .bin .gtr (.t 36) (.k (.d (.int .i64 40))), (some (29, false))⟩,
  ⟨(some 38), .pick (.t 29) (.k (.d (.bool true))) (.t 37), none⟩]
noncomputable def s_farandoleref46_content_r6 : List SOper := [
  ⟨(some 2), .mov (.k (.d (.bool false))), none⟩]
noncomputable def s_farandoleref46_content_r7 : List SOper := [
  ⟨(some 20), .mov (.t 3), none⟩,
  ⟨(some 21), .bin .add (.t 20) (.k (.d (.int .i64 1))), none⟩,
  ⟨(some 3), .mov (.t 21), none⟩]
noncomputable def s_farandoleref46_content_l8 : SCode := (.seq (.seq (.region s_farandoleref46_content_r4 0 []) (.cond (.t 19) .skip (.exit 0))) (.seq (.block 1 (.seq (.region s_farandoleref46_content_r5 0 []) (.cond (.t 38) (.seq (.region s_farandoleref46_content_r6 0 []) .ret) .skip))) (.region s_farandoleref46_content_r7 0 [])))
theorem e_farandoleref46_content_l8 {P : Program} {k0 : Nat} {Q : SExit → St → Prop} {st : St} : AWp P k0 s_farandoleref46_content_l8 Q st = AWp P k0 (.seq (.seq (.region s_farandoleref46_content_r4 0 []) (.cond (.t 19) .skip (.exit 0))) (.seq (.block 1 (.seq (.region s_farandoleref46_content_r5 0 []) (.cond (.t 38) (.seq (.region s_farandoleref46_content_r6 0 []) .ret) .skip))) (.region s_farandoleref46_content_r7 0 []))) Q st := rfl
noncomputable def s_farandoleref46_content_r9 : List SOper := [
  ⟨(some 4), .mov (.k (.d (.int .i64 0))), none⟩]
noncomputable def s_farandoleref46_content_r10 : List SOper := [
  ⟨(some 39), .mov (.t 4), none⟩,
  ⟨(some 40), .faddr 8 (.t 1), none⟩,
  ⟨(some 41), .load none (.t 40), none⟩,
  ⟨(some 42), .len (.t 41), none⟩,
  ⟨(some 43), .bin .lss (.t 39) (.t 42), none⟩]
noncomputable def s_farandoleref46_content_r11 : List SOper := [
  ⟨(some 46), .faddr 8 (.t 1), none⟩,
  ⟨(some 47), .load none (.t 46), none⟩,
  ⟨(some 48), .mov (.t 4), none⟩,
  ⟨(some 49), .iaddr 1 (.t 47) (.t 48), none⟩,
  ⟨(some 50), .load none (.t 49), none⟩,
  ⟨(some 51), .call (.k (.d (.func (.func 99) [] []))) [(.t 50), (.k (.d (.int .i64 0))), (.k (.d (.int .i64 1099511627776)))], none⟩,
  ⟨(some 52), .not (.t 51), none⟩]
noncomputable def s_farandoleref46_content_r12 : List SOper := [
  ⟨(some 2), .mov (.k (.d (.bool false))), none⟩]
noncomputable def s_farandoleref46_content_r13 : List SOper := [
  ⟨(some 44), .mov (.t 4), none⟩,
  ⟨(some 45), .bin .add (.t 44) (.k (.d (.int .i64 1))), none⟩,
  ⟨(some 4), .mov (.t 45), none⟩]
noncomputable def s_farandoleref46_content_l14 : SCode := (.seq (.seq (.region s_farandoleref46_content_r10 0 []) (.cond (.t 43) .skip (.exit 2))) (.seq (.block 3 (.seq (.region s_farandoleref46_content_r11 0 []) (.cond (.t 52) (.seq (.region s_farandoleref46_content_r12 0 []) .ret) .skip))) (.region s_farandoleref46_content_r13 0 [])))
theorem e_farandoleref46_content_l14 {P : Program} {k0 : Nat} {Q : SExit → St → Prop} {st : St} : AWp P k0 s_farandoleref46_content_l14 Q st = AWp P k0 (.seq (.seq (.region s_farandoleref46_content_r10 0 []) (.cond (.t 43) .skip (.exit 2))) (.seq (.block 3 (.seq (.region s_farandoleref46_content_r11 0 []) (.cond (.t 52) (.seq (.region s_farandoleref46_content_r12 0 []) .ret) .skip))) (.region s_farandoleref46_content_r13 0 []))) Q st := rfl
noncomputable def s_farandoleref46_content_r15 : List SOper := [
  ⟨(some 2), .mov (.k (.d (.bool true))), none⟩]
noncomputable def s_farandoleref46_content : SCode := (.seq (.region s_farandoleref46_content_r0 1 []) (.seq (.seq (.region s_farandoleref46_content_r1 0 []) (.cond (.t 14) (.seq (.region s_farandoleref46_content_r2 0 []) .ret) .skip)) (.seq (.seq (.region s_farandoleref46_content_r3 0 []) (.block 0 (.loop s_farandoleref46_content_l8))) (.seq (.seq (.region s_farandoleref46_content_r9 0 []) (.block 2 (.loop s_farandoleref46_content_l14))) (.seq (.region s_farandoleref46_content_r15 0 []) .ret)))))
theorem e_farandoleref46_content {P : Program} {k0 : Nat} {Q : SExit → St → Prop} {st : St} : AWp P k0 s_farandoleref46_content Q st = AWp P k0 (.seq (.region s_farandoleref46_content_r0 1 []) (.seq (.seq (.region s_farandoleref46_content_r1 0 []) (.cond (.t 14) (.seq (.region s_farandoleref46_content_r2 0 []) .ret) .skip)) (.seq (.seq (.region s_farandoleref46_content_r3 0 []) (.block 0 (.loop s_farandoleref46_content_l8))) (.seq (.seq (.region s_farandoleref46_content_r9 0 []) (.block 2 (.loop s_farandoleref46_content_l14))) (.seq (.region s_farandoleref46_content_r15 0 []) .ret))))) Q st := rfl
theorem u_farandoleref46_content_r0 {P : Program} {o : Nat} {p : List (Nat × Nat)} {Q : SExit → St → Prop} {st : St} : goReg P s_farandoleref46_content_r0 o p Q st = goLit P (litOf s_farandoleref46_content_r0.eq_1) o p Q st := goReg_of _
theorem u_farandoleref46_content_r1 {P : Program} {o : Nat} {p : List (Nat × Nat)} {Q : SExit → St → Prop} {st : St} : goReg P s_farandoleref46_content_r1 o p Q st = goLit P (litOf s_farandoleref46_content_r1.eq_1) o p Q st := goReg_of _
theorem u_farandoleref46_content_r2 {P : Program} {o : Nat} {p : List (Nat × Nat)} {Q : SExit → St → Prop} {st : St} : goReg P s_farandoleref46_content_r2 o p Q st = goLit P (litOf s_farandoleref46_content_r2.eq_1) o p Q st := goReg_of _
theorem u_farandoleref46_content_r3 {P : Program} {o : Nat} {p : List (Nat × Nat)} {Q : SExit → St → Prop} {st : St} : goReg P s_farandoleref46_content_r3 o p Q st = goLit P (litOf s_farandoleref46_content_r3.eq_1) o p Q st := goReg_of _
theorem u_farandoleref46_content_r4 {P : Program} {o : Nat} {p : List (Nat × Nat)} {Q : SExit → St → Prop} {st : St} : goReg P s_farandoleref46_content_r4 o p Q st = goLit P (litOf s_farandoleref46_content_r4.eq_1) o p Q st := goReg_of _
theorem u_farandoleref46_content_r5 {P : Program} {o : Nat} {p : List (Nat × Nat)} {Q : SExit → St → Prop} {st : St} : goReg P s_farandoleref46_content_r5 o p Q st = goLit P (litOf s_farandoleref46_content_r5.eq_1) o p Q st := goReg_of _
theorem u_farandoleref46_content_r6 {P : Program} {o : Nat} {p : List (Nat × Nat)} {Q : SExit → St → Prop} {st : St} : goReg P s_farandoleref46_content_r6 o p Q st = goLit P (litOf s_farandoleref46_content_r6.eq_1) o p Q st := goReg_of _
theorem u_farandoleref46_content_r7 {P : Program} {o : Nat} {p : List (Nat × Nat)} {Q : SExit → St → Prop} {st : St} : goReg P s_farandoleref46_content_r7 o p Q st = goLit P (litOf s_farandoleref46_content_r7.eq_1) o p Q st := goReg_of _
theorem u_farandoleref46_content_r9 {P : Program} {o : Nat} {p : List (Nat × Nat)} {Q : SExit → St → Prop} {st : St} : goReg P s_farandoleref46_content_r9 o p Q st = goLit P (litOf s_farandoleref46_content_r9.eq_1) o p Q st := goReg_of _
theorem u_farandoleref46_content_r10 {P : Program} {o : Nat} {p : List (Nat × Nat)} {Q : SExit → St → Prop} {st : St} : goReg P s_farandoleref46_content_r10 o p Q st = goLit P (litOf s_farandoleref46_content_r10.eq_1) o p Q st := goReg_of _
theorem u_farandoleref46_content_r11 {P : Program} {o : Nat} {p : List (Nat × Nat)} {Q : SExit → St → Prop} {st : St} : goReg P s_farandoleref46_content_r11 o p Q st = goLit P (litOf s_farandoleref46_content_r11.eq_1) o p Q st := goReg_of _
theorem u_farandoleref46_content_r12 {P : Program} {o : Nat} {p : List (Nat × Nat)} {Q : SExit → St → Prop} {st : St} : goReg P s_farandoleref46_content_r12 o p Q st = goLit P (litOf s_farandoleref46_content_r12.eq_1) o p Q st := goReg_of _
theorem u_farandoleref46_content_r13 {P : Program} {o : Nat} {p : List (Nat × Nat)} {Q : SExit → St → Prop} {st : St} : goReg P s_farandoleref46_content_r13 o p Q st = goLit P (litOf s_farandoleref46_content_r13.eq_1) o p Q st := goReg_of _
theorem u_farandoleref46_content_r15 {P : Program} {o : Nat} {p : List (Nat × Nat)} {Q : SExit → St → Prop} {st : St} : goReg P s_farandoleref46_content_r15 o p Q st = goLit P (litOf s_farandoleref46_content_r15.eq_1) o p Q st := goReg_of _
attribute [go_sem] u_farandoleref46_content_r0 u_farandoleref46_content_r1 u_farandoleref46_content_r2 u_farandoleref46_content_r3 u_farandoleref46_content_r4 u_farandoleref46_content_r5 u_farandoleref46_content_r6 u_farandoleref46_content_r7 e_farandoleref46_content_l8 u_farandoleref46_content_r9 u_farandoleref46_content_r10 u_farandoleref46_content_r11 u_farandoleref46_content_r12 u_farandoleref46_content_r13 e_farandoleref46_content_l14 u_farandoleref46_content_r15 e_farandoleref46_content
set_option maxRecDepth 100000 in
theorem c_farandoleref46_content : Try.f101.body.bind (compCode Try.prog Try.f101.ntmps news) = some s_farandoleref46_content := by kernel_rfl
theorem r_farandoleref46_content : Try.f101.results.toList.mapM (compRes Try.prog) = some [(.tmp 2)] := by kernel_rfl
theorem n_farandoleref46_content : Try.f101.ntmps = 53 := by kernel_rfl
theorem b_farandoleref46_content : (Try.prog.funcs[101]?).any (fun fn => fn.body.isSome && !(fn.name == "runtime.NumGoroutine")) = true := by kernel_rfl
theorem ko_farandoleref46_content {args : List ASlot} {r : ASlot} {objs objs' : List AObj} (h : AWp Try.prog objs.length s_farandoleref46_content (bodyQ objs.length [(.tmp 2)] [r] objs') (entrySt args objs)) (hN : args.length ≤ 53 := by simp) (hw : ltB 16 (toksOf args ++ osToks objs) = true := by rfl) : ACall Try.prog 101 args objs r objs' :=
  acall_go (rs := [r]) follows Try.func101 c_farandoleref46_content r_farandoleref46_content h (by rw [n_farandoleref46_content]; exact hN) rfl hw
theorem k_farandoleref46_content {args : List ASlot} {r : ASlot} (h : AWp Try.prog 0 s_farandoleref46_content (bodyQ 0 [(.tmp 2)] [r] []) (entrySt args [])) (hN : args.length ≤ 53 := by simp) (hw : ltB 16 (toksOf args ++ osToks []) = true := by rfl) : ACall Try.prog 101 args [] r [] := ko_farandoleref46_content h hN hw

noncomputable def s_farandoleref46_Valid_r0 : List SOper := [
  ⟨(some 1), .box 1 (.t 0), none⟩,
  ⟨(some 2), .mov (.k (.d (.bool false))), none⟩]
noncomputable def s_farandoleref46_Valid_r1 : List SOper := [
  ⟨(some 4), .faddr 1 (.t 1), none⟩,
  ⟨(some 5), .load none (.t 4), none⟩,
  ⟨(some 6), .call (.k (.d (.func (.func 99) [] []))) [(.t 5), (.k (.d (.int .i64 1))), (.k (.d (.int .i64 32)))], none⟩,
  ⟨(some 7), .not (.t 6), none⟩]
noncomputable def s_farandoleref46_Valid_r2 : List SOper := [
  ⟨(some 2), .mov (.k (.d (.bool false))), none⟩]
noncomputable def s_farandoleref46_Valid_r3 : List SOper := [
  ⟨(some 8), .faddr 2 (.t 1), none⟩,
  ⟨(some 9), .load none (.t 8), none⟩,
  ⟨(some 10), .bin .eql (.t 9) (.k (.d (.int .i64 0))), none⟩,
  ⟨(some 11), .mov (.t 10), none⟩,
  ⟨(some 12), .faddr 7 (.t 1), (some (11, true))⟩,
  ⟨(some 13), .load none (.t 12), (some (11, true))⟩,
  ⟨(some 14), .len (.t 13), (some (11, true))⟩,
  ⟨(some 15), .bin .eql (.t 14) (.k (.d (.int .i64 0))), (some (11, true))⟩,
  ⟨(some 16), .pick (.t 11) (.t 15) (.k (.d (.bool false))), none⟩,
  ⟨(some 17), .mov (.t 16), none⟩,
  ⟨(some 18), .faddr 8 (.t 1), (some (17, true))⟩,
  ⟨(some 19), .load none (.t 18), (some (17, true))⟩,
  ⟨(some 20), .len (.t 19), (some (17, true))⟩,
  ⟨(some 21), .bin .eql (.t 20) (.k (.d (.int .i64 0))), (some (17, true))⟩,
  ⟨(some 22), .pick (.t 17) (.t 21) (.k (.d (.bool false))), none⟩,
  ⟨(some 3), .mov (.t 22), none⟩]
noncomputable def s_farandoleref46_Valid_r4 : List SOper := [
  ⟨(some 23), .faddr 0 (.t 1), none⟩,
  ⟨(some 24), .load none (.t 23), none⟩]
noncomputable def s_farandoleref46_Valid_r5 : List SOper := [
  ⟨(some 26), .bin .eql (.t 24) (.k (.d (.int .i64 1))), none⟩,
  ⟨(some 25), .mov (.t 26), none⟩]
noncomputable def s_farandoleref46_Valid_r6 : List SOper := [
  ⟨(some 27), .faddr 2 (.t 1), none⟩,
  ⟨(some 28), .load none (.t 27), none⟩,
  ⟨(some 29), .call (.k (.d (.func (.func 99) [] []))) [(.t 28), (.k (.d (.int .i64 0))), (.k (.d (.int .i64 1)))], none⟩,
  ⟨(some 30), .mov (.t 29), none⟩,
  ⟨(some 31), .load (some 9) (.t 1), (some (30, true))⟩,
  ⟨(some 32), .call (.k (.d (.func (.func 100) [] []))) [(.t 31)], (some (30, true))⟩,
  ⟨(some 33), .pick (.t 30) (.t 32) (.k (.d (.bool false))), none⟩,
  ⟨(some 34), .mov (.t 33), none⟩,
  ⟨(some 35), .faddr 5 (.t 1), (some (34, true))⟩,
  ⟨(some 36), .load none (.t 35), (some (34, true))⟩,
  ⟨(some 37), .call (.k (.d (.func (.func 99) [] []))) [(.t 36), (.k (.d (.int .i64 1))), (.k (.d (.int .i64 1099511627776)))], (some (34, true))⟩,
  ⟨(some 38), .pick (.t 34) (.t 37) (.k (.d (.bool false))), none⟩,
  ⟨(some 39), .mov (.t 38), none⟩,
  ⟨(some 40), .faddr 6 (.t 1), (some (39, true))⟩,
  ⟨(some 41), .load none (.t 40), (some (39, true))⟩,
  ⟨(some 42), .call (.k (.d (.func (.func 99) [] []))) [(.t 41), (.k (.d (.int .i64 0))), (.k (.d (.int .i64 39)))], (some (39, true))⟩,
  ⟨(some 43), .pick (.t 39) (.t 42) (.k (.d (.bool false))), none⟩,
  ⟨(some 44), .mov (.t 43), none⟩,
  ⟨(some 45), .load (some 9) (.t 1), (some (44, true))⟩,
  ⟨(some 46), .call (.k (.d (.func (.func 101) [] []))) [(.t 45)], (some (44, true))⟩,
  ⟨(some 47), .pick (.t 44) (.t 46) (.k (.d (.bool false))), none⟩,
  ⟨(some 2), .mov (.t 47), none⟩]
noncomputable def s_farandoleref46_Valid_r7 : List SOper := [
  ⟨(some 49), .bin .eql (.t 24) (.k (.d (.int .i64 2))), none⟩,
  ⟨(some 48), .mov (.t 49), none⟩]
noncomputable def s_farandoleref46_Valid_r8 : List SOper := [
  ⟨(some 50), .load (some 9) (.t 1), none⟩,
  ⟨(some 51), .call (.k (.d (.func (.func 100) [] []))) [(.t 50)], none⟩,
  ⟨(some 52), .mov (.t 51), none⟩,
  ⟨(some 53), .faddr 5 (.t 1), (some (52, true))⟩,
  ⟨(some 54), .load none (.t 53), (some (52, true))⟩,
  ⟨(some 55), .call (.k (.d (.func (.func 99) [] []))) [(.t 54), (.k (.d (.int .i64 1))), (.k (.d (.int .i64 1099511627776)))], (some (52, true))⟩,
  ⟨(some 56), .pick (.t 52) (.t 55) (.k (.d (.bool false))), none⟩,
  ⟨(some 57), .mov (.t 56), none⟩,
  ⟨(some 58), .faddr 6 (.t 1), (some (57, true))⟩,
  ⟨(some 59), .load none (.t 58), (some (57, true))⟩,
  ⟨(some 60), .bin .eql (.t 59) (.k (.d (.int .i64 0))), (some (57, true))⟩,
  ⟨(some 61), .pick (.t 57) (.t 60) (.k (.d (.bool false))), none⟩,
  ⟨(some 62), .mov (.t 61), none⟩,
  ⟨(some 63), .mov (.t 3), (some (62, true))⟩,
  ⟨(some 64), .pick (.t 62) (.t 63) (.k (.d (.bool false))), none⟩,
  ⟨(some 2), .mov (.t 64), none⟩]
noncomputable def s_farandoleref46_Valid_r9 : List SOper := [
  ⟨(some 66), .bin .eql (.t 24) (.k (.d (.int .i64 3))), none⟩,
  ⟨(some 65), .mov (.t 66), none⟩]
noncomputable def s_farandoleref46_Valid_r10 : List SOper := [
  ⟨(some 67), .bin .eql (.t 24) (.k (.d (.int .i64 4))), none⟩,
  ⟨(some 65), .mov (.t 67), none⟩]
noncomputable def s_farandoleref46_Valid_r11 : List SOper := [
  ⟨(some 68), .faddr 3 (.t 1), none⟩,
  ⟨(some 69), .load none (.t 68), none⟩,
  ⟨(some 70), .call (.k (.d (.func (.func 99) [] []))) [(.t 69), (.k (.d (.int .i64 0))), (.k (.d (.int .i64 5)))], none⟩,
  ⟨(some 71), .mov (.t 70), none⟩,
  ⟨(some 72), .faddr 4 (.t 1), (some (71, true))⟩,
  ⟨(some 73), .load none (.t 72), (some (71, true))⟩,
  ⟨(some 74), .bin .eql (.t 73) (.k (.d (.int .i64 0))), (some (71, true))⟩,
  ⟨(some 75), .pick (.t 71) (.t 74) (.k (.d (.bool false))), none⟩,
  ⟨(some 76), .mov (.t 75), none⟩,
  ⟨(some 77), .faddr 5 (.t 1), (some (76, true))⟩,
  ⟨(some 78), .load none (.t 77), (some (76, true))⟩,
  ⟨(some 79), .bin .eql (.t 78) (.k (.d (.int .i64 0))), (some (76, true))⟩,
  ⟨(some 80), .pick (.t 76) (.t 79) (.k (.d (.bool false))), none⟩,
  ⟨(some 81), .mov (.t 80), none⟩,
  ⟨(some 82), .faddr 6 (.t 1), (some (81, true))⟩,
  ⟨(some 83), .load none (.t 82), (some (81, true))⟩,
  ⟨(some 84), .call (.k (.d (.func (.func 99) [] []))) [(.t 83), (.k (.d (.int .i64 1))), (.k (.d (.int .i64 2)))], (some (81, true))⟩,
  ⟨(some 85), .pick (.t 81) (.t 84) (.k (.d (.bool false))), none⟩,
  ⟨(some 86), .mov (.t 85), none⟩,
  ⟨(some 87), .mov (.t 3), (some (86, true))⟩,
  ⟨(some 88), .pick (.t 86) (.t 87) (.k (.d (.bool false))), none⟩,
  ⟨(some 2), .mov (.t 88), none⟩]
noncomputable def s_farandoleref46_Valid_r12 : List SOper := [
  ⟨(some 2), .mov (.k (.d (.bool false))), none⟩]
noncomputable def s_farandoleref46_Valid : SCode := (.seq (.region s_farandoleref46_Valid_r0 1 []) (.seq (.seq (.region s_farandoleref46_Valid_r1 0 []) (.cond (.t 7) (.seq (.region s_farandoleref46_Valid_r2 0 []) .ret) .skip)) (.seq (.region s_farandoleref46_Valid_r3 0 []) (.seq (.seq (.region s_farandoleref46_Valid_r4 0 []) (.block 0 (.seq (.region s_farandoleref46_Valid_r5 0 []) (.cond (.t 25) (.seq (.region s_farandoleref46_Valid_r6 0 []) .ret) (.seq (.region s_farandoleref46_Valid_r7 0 []) (.cond (.t 48) (.seq (.region s_farandoleref46_Valid_r8 0 []) .ret) (.seq (.seq (.region s_farandoleref46_Valid_r9 0 []) (.cond (.t 65) .skip (.region s_farandoleref46_Valid_r10 0 []))) (.cond (.t 65) (.seq (.region s_farandoleref46_Valid_r11 0 []) .ret) .skip)))))))) (.seq (.region s_farandoleref46_Valid_r12 0 []) .ret)))))
theorem e_farandoleref46_Valid {P : Program} {k0 : Nat} {Q : SExit → St → Prop} {st : St} : AWp P k0 s_farandoleref46_Valid Q st = AWp P k0 (.seq (.region s_farandoleref46_Valid_r0 1 []) (.seq (.seq (.region s_farandoleref46_Valid_r1 0 []) (.cond (.t 7) (.seq (.region s_farandoleref46_Valid_r2 0 []) .ret) .skip)) (.seq (.region s_farandoleref46_Valid_r3 0 []) (.seq (.seq (.region s_farandoleref46_Valid_r4 0 []) (.block 0 (.seq (.region s_farandoleref46_Valid_r5 0 []) (.cond (.t 25) (.seq (.region s_farandoleref46_Valid_r6 0 []) .ret) (.seq (.region s_farandoleref46_Valid_r7 0 []) (.cond (.t 48) (.seq (.region s_farandoleref46_Valid_r8 0 []) .ret) (.seq (.seq (.region s_farandoleref46_Valid_r9 0 []) (.cond (.t 65) .skip (.region s_farandoleref46_Valid_r10 0 []))) (.cond (.t 65) (.seq (.region s_farandoleref46_Valid_r11 0 []) .ret) .skip)))))))) (.seq (.region s_farandoleref46_Valid_r12 0 []) .ret))))) Q st := rfl
theorem u_farandoleref46_Valid_r0 {P : Program} {o : Nat} {p : List (Nat × Nat)} {Q : SExit → St → Prop} {st : St} : goReg P s_farandoleref46_Valid_r0 o p Q st = goLit P (litOf s_farandoleref46_Valid_r0.eq_1) o p Q st := goReg_of _
theorem u_farandoleref46_Valid_r1 {P : Program} {o : Nat} {p : List (Nat × Nat)} {Q : SExit → St → Prop} {st : St} : goReg P s_farandoleref46_Valid_r1 o p Q st = goLit P (litOf s_farandoleref46_Valid_r1.eq_1) o p Q st := goReg_of _
theorem u_farandoleref46_Valid_r2 {P : Program} {o : Nat} {p : List (Nat × Nat)} {Q : SExit → St → Prop} {st : St} : goReg P s_farandoleref46_Valid_r2 o p Q st = goLit P (litOf s_farandoleref46_Valid_r2.eq_1) o p Q st := goReg_of _
theorem u_farandoleref46_Valid_r3 {P : Program} {o : Nat} {p : List (Nat × Nat)} {Q : SExit → St → Prop} {st : St} : goReg P s_farandoleref46_Valid_r3 o p Q st = goLit P (litOf s_farandoleref46_Valid_r3.eq_1) o p Q st := goReg_of _
theorem u_farandoleref46_Valid_r4 {P : Program} {o : Nat} {p : List (Nat × Nat)} {Q : SExit → St → Prop} {st : St} : goReg P s_farandoleref46_Valid_r4 o p Q st = goLit P (litOf s_farandoleref46_Valid_r4.eq_1) o p Q st := goReg_of _
theorem u_farandoleref46_Valid_r5 {P : Program} {o : Nat} {p : List (Nat × Nat)} {Q : SExit → St → Prop} {st : St} : goReg P s_farandoleref46_Valid_r5 o p Q st = goLit P (litOf s_farandoleref46_Valid_r5.eq_1) o p Q st := goReg_of _
theorem u_farandoleref46_Valid_r6 {P : Program} {o : Nat} {p : List (Nat × Nat)} {Q : SExit → St → Prop} {st : St} : goReg P s_farandoleref46_Valid_r6 o p Q st = goLit P (litOf s_farandoleref46_Valid_r6.eq_1) o p Q st := goReg_of _
theorem u_farandoleref46_Valid_r7 {P : Program} {o : Nat} {p : List (Nat × Nat)} {Q : SExit → St → Prop} {st : St} : goReg P s_farandoleref46_Valid_r7 o p Q st = goLit P (litOf s_farandoleref46_Valid_r7.eq_1) o p Q st := goReg_of _
theorem u_farandoleref46_Valid_r8 {P : Program} {o : Nat} {p : List (Nat × Nat)} {Q : SExit → St → Prop} {st : St} : goReg P s_farandoleref46_Valid_r8 o p Q st = goLit P (litOf s_farandoleref46_Valid_r8.eq_1) o p Q st := goReg_of _
theorem u_farandoleref46_Valid_r9 {P : Program} {o : Nat} {p : List (Nat × Nat)} {Q : SExit → St → Prop} {st : St} : goReg P s_farandoleref46_Valid_r9 o p Q st = goLit P (litOf s_farandoleref46_Valid_r9.eq_1) o p Q st := goReg_of _
theorem u_farandoleref46_Valid_r10 {P : Program} {o : Nat} {p : List (Nat × Nat)} {Q : SExit → St → Prop} {st : St} : goReg P s_farandoleref46_Valid_r10 o p Q st = goLit P (litOf s_farandoleref46_Valid_r10.eq_1) o p Q st := goReg_of _
theorem u_farandoleref46_Valid_r11 {P : Program} {o : Nat} {p : List (Nat × Nat)} {Q : SExit → St → Prop} {st : St} : goReg P s_farandoleref46_Valid_r11 o p Q st = goLit P (litOf s_farandoleref46_Valid_r11.eq_1) o p Q st := goReg_of _
theorem u_farandoleref46_Valid_r12 {P : Program} {o : Nat} {p : List (Nat × Nat)} {Q : SExit → St → Prop} {st : St} : goReg P s_farandoleref46_Valid_r12 o p Q st = goLit P (litOf s_farandoleref46_Valid_r12.eq_1) o p Q st := goReg_of _
attribute [go_sem] u_farandoleref46_Valid_r0 u_farandoleref46_Valid_r1 u_farandoleref46_Valid_r2 u_farandoleref46_Valid_r3 u_farandoleref46_Valid_r4 u_farandoleref46_Valid_r5 u_farandoleref46_Valid_r6 u_farandoleref46_Valid_r7 u_farandoleref46_Valid_r8 u_farandoleref46_Valid_r9 u_farandoleref46_Valid_r10 u_farandoleref46_Valid_r11 u_farandoleref46_Valid_r12 e_farandoleref46_Valid
set_option maxRecDepth 100000 in
theorem c_farandoleref46_Valid : Try.f75.body.bind (compCode Try.prog Try.f75.ntmps news) = some s_farandoleref46_Valid := by kernel_rfl
theorem r_farandoleref46_Valid : Try.f75.results.toList.mapM (compRes Try.prog) = some [(.tmp 2)] := by kernel_rfl
theorem n_farandoleref46_Valid : Try.f75.ntmps = 89 := by kernel_rfl
theorem b_farandoleref46_Valid : (Try.prog.funcs[75]?).any (fun fn => fn.body.isSome && !(fn.name == "runtime.NumGoroutine")) = true := by kernel_rfl
theorem ko_farandoleref46_Valid {args : List ASlot} {r : ASlot} {objs objs' : List AObj} (h : AWp Try.prog objs.length s_farandoleref46_Valid (bodyQ objs.length [(.tmp 2)] [r] objs') (entrySt args objs)) (hN : args.length ≤ 89 := by simp) (hw : ltB 16 (toksOf args ++ osToks objs) = true := by rfl) : ACall Try.prog 75 args objs r objs' :=
  acall_go (rs := [r]) follows Try.func75 c_farandoleref46_Valid r_farandoleref46_Valid h (by rw [n_farandoleref46_Valid]; exact hN) rfl hw
theorem k_farandoleref46_Valid {args : List ASlot} {r : ASlot} (h : AWp Try.prog 0 s_farandoleref46_Valid (bodyQ 0 [(.tmp 2)] [r] []) (entrySt args [])) (hN : args.length ≤ 89 := by simp) (hw : ltB 16 (toksOf args ++ osToks []) = true := by rfl) : ACall Try.prog 75 args [] r [] := ko_farandoleref46_Valid h hN hw



def in46 (n lo hi : Int) : Bool := decide (n ≥ lo) && decide (n ≤ hi)
theorem in46_ok (n lo hi : Int) : ACall Try.prog 99 [.d (.int .i64 n), .d (.int .i64 lo), .d (.int .i64 hi)] [] (.d (.bool (in46 n lo hi))) [] := by
  refine k_farandoleref46_in ?_
  simp only [e_farandoleref46_in, go_sem, Nat.reduceAdd, Nat.reduceMul, Nat.reduceSub, Nat.reduceEqDiff, Nat.reduceLT, Nat.reduceLeDiff, Nat.reduceBEq, reduceIte, reduceCtorEq, Int.reduceAdd, Int.reduceLT, Int.reduceLE, Int.reduceGT, Int.reduceGE, Int.reduceEq, Int.reduceNe, Int.reduceBEq, Int.reduceBNe, Int.reduceToNat, Int.reduceNeg]
  rfl

def pair46 (p : Pk) : Bool := in46 p.from_ 0 5 && in46 p.to 0 5 && p.from_ != p.to
theorem pair46_ok (p : Pk) : ACall Try.prog 100 [.d (.agg (encPk p))] [] (.d (.bool (pair46 p))) [] := by
  refine k_farandoleref46_pair ?_
  simp only [e_farandoleref46_pair, encPk, go_sem, Nat.reduceAdd, Nat.reduceMul, Nat.reduceSub, Nat.reduceEqDiff, Nat.reduceLT, Nat.reduceLeDiff, Nat.reduceBEq, reduceIte, reduceCtorEq, Int.reduceAdd, Int.reduceLT, Int.reduceLE, Int.reduceGT, Int.reduceGE, Int.reduceEq, Int.reduceNe, Int.reduceBEq, Int.reduceBNe, Int.reduceToNat, Int.reduceNeg]
  (repeat (with_reducible refine And.intro (by first | omega | (simp_all; done) | grind) ?_)); refine callO_pure (in46_ok _ _ _) b_farandoleref46_in (fun h => by first | exact h | (simp only [h, Bool.and_self, Bool.and_true])) (fun _ => by first | exact ⟨matchA_refl, trivial⟩ | exact ⟨matchA_refl, matchA_refl, trivial⟩ | exact ⟨matchA_refl, matchA_refl, matchA_refl, trivial⟩ | simp only [encPk, encAV, encI, go_sem, Nat.reduceAdd, Nat.reduceMul, Nat.reduceSub, Nat.reduceEqDiff, Nat.reduceLT, Nat.reduceLeDiff, Nat.reduceBEq, reduceIte, reduceCtorEq, Int.reduceAdd, Int.reduceLT, Int.reduceLE, Int.reduceGT, Int.reduceGE, Int.reduceEq, Int.reduceNe, Int.reduceBEq, Int.reduceBNe, Int.reduceToNat, Int.reduceNeg]) (by simp only [go_sem, Nat.reduceAdd, Nat.reduceMul, Nat.reduceSub, Nat.reduceEqDiff, Nat.reduceLT, Nat.reduceLeDiff, Nat.reduceBEq, reduceIte, reduceCtorEq, Int.reduceAdd, Int.reduceLT, Int.reduceLE, Int.reduceGT, Int.reduceGE, Int.reduceEq, Int.reduceNe, Int.reduceBEq, Int.reduceBNe, Int.reduceToNat, Int.reduceNeg]) rfl rfl ?_
  try simp only [go_sem, Nat.reduceAdd, Nat.reduceMul, Nat.reduceSub, Nat.reduceEqDiff, Nat.reduceLT, Nat.reduceLeDiff, Nat.reduceBEq, reduceIte, reduceCtorEq, Int.reduceAdd, Int.reduceLT, Int.reduceLE, Int.reduceGT, Int.reduceGE, Int.reduceEq, Int.reduceNe, Int.reduceBEq, Int.reduceBNe, Int.reduceToNat, Int.reduceNeg]
  (repeat (with_reducible refine And.intro (by first | omega | (simp_all; done) | grind) ?_)); refine callO_pure (in46_ok _ _ _) b_farandoleref46_in (fun h => by first | exact h | (simp only [h, Bool.and_self, Bool.and_true])) (fun _ => by first | exact ⟨matchA_refl, trivial⟩ | exact ⟨matchA_refl, matchA_refl, trivial⟩ | exact ⟨matchA_refl, matchA_refl, matchA_refl, trivial⟩ | simp only [encPk, encAV, encI, go_sem, Nat.reduceAdd, Nat.reduceMul, Nat.reduceSub, Nat.reduceEqDiff, Nat.reduceLT, Nat.reduceLeDiff, Nat.reduceBEq, reduceIte, reduceCtorEq, Int.reduceAdd, Int.reduceLT, Int.reduceLE, Int.reduceGT, Int.reduceGE, Int.reduceEq, Int.reduceNe, Int.reduceBEq, Int.reduceBNe, Int.reduceToNat, Int.reduceNeg]) (by simp only [go_sem, Nat.reduceAdd, Nat.reduceMul, Nat.reduceSub, Nat.reduceEqDiff, Nat.reduceLT, Nat.reduceLeDiff, Nat.reduceBEq, reduceIte, reduceCtorEq, Int.reduceAdd, Int.reduceLT, Int.reduceLE, Int.reduceGT, Int.reduceGE, Int.reduceEq, Int.reduceNe, Int.reduceBEq, Int.reduceBNe, Int.reduceToNat, Int.reduceNeg]) rfl rfl ?_
  try simp only [go_sem, Nat.reduceAdd, Nat.reduceMul, Nat.reduceSub, Nat.reduceEqDiff, Nat.reduceLT, Nat.reduceLeDiff, Nat.reduceBEq, reduceIte, reduceCtorEq, Int.reduceAdd, Int.reduceLT, Int.reduceLE, Int.reduceGT, Int.reduceGE, Int.reduceEq, Int.reduceNe, Int.reduceBEq, Int.reduceBNe, Int.reduceToNat, Int.reduceNeg]
  rfl

def proper46 (v : AV) : Bool := v.kind == 1 && v.s == [] || v.kind == 2 && v.n == 0
theorem proper46_ok (v : AV) : ACall Try.prog 119 [.d (.agg (encAV v))] [] (.d (.bool (proper46 v))) [] := by
  refine k_farandoleref01_Proper ?_
  simp only [e_farandoleref01_Proper, encAV, go_sem, Nat.reduceAdd, Nat.reduceMul, Nat.reduceSub, Nat.reduceEqDiff, Nat.reduceLT, Nat.reduceLeDiff, Nat.reduceBEq, reduceIte, reduceCtorEq, Int.reduceAdd, Int.reduceLT, Int.reduceLE, Int.reduceGT, Int.reduceGE, Int.reduceEq, Int.reduceNe, Int.reduceBEq, Int.reduceBNe, Int.reduceToNat, Int.reduceNeg]
  repeat (with_reducible refine And.intro (by first | omega | (simp_all; done) | grind) ?_)
  rfl

def val46 (v : AV) : Bool := !(!proper46 v || decide ((v.s.length : Int) > 40))
def clk46 (n : Int) : Bool := in46 n 0 1099511627776
def content46 (p : Pk) : Bool := !(decide ((p.values.length : Int) > 4) || decide ((p.clock.length : Int) > 6)) && p.values.all val46 && p.clock.all clk46

def pkObj (p : Pk) : AObj := .row [.d (.int .i64 p.kind), .d (.int .i64 p.sess), .d (.int .i64 p.epoch), .d (.int .i64 p.from_), .d (.int .i64 p.to), .d (.int .i64 p.seq), .d (.int .i64 p.label), .d (.sl 3 (p.values.map encAV)), .d (.sl 1 (p.clock.map encI))]
def Scont1 (p : Pk) (i : { i : Nat // (p.values.take i).all val46 = true }) : St := ⟨[(1, true, .d (.ptr 0 0)), (3, true, .d (.int .i64 (i.val : Nat)))], [pkObj p], [], 1⟩
def Scont2 (p : Pk) (i : { i : Nat // (p.clock.take i).all clk46 = true }) : St := ⟨[(1, true, .d (.ptr 0 0)), (4, true, .d (.int .i64 (i.val : Nat)))], [pkObj p], [], 1⟩

theorem content46_ok (p : Pk) (hp : p.Sm) : ACall Try.prog 101 [.d (.agg (encPk p))] [] (.d (.bool (content46 p))) [] := by
  obtain ⟨hp1, hp2⟩ := hp
  refine k_farandoleref46_content ?_
  simp only [e_farandoleref46_content, encPk, go_sem, Nat.reduceAdd, Nat.reduceMul, Nat.reduceSub, Nat.reduceEqDiff, Nat.reduceLT, Nat.reduceLeDiff, Nat.reduceBEq, reduceIte, reduceCtorEq, Int.reduceAdd, Int.reduceLT, Int.reduceLE, Int.reduceGT, Int.reduceGE, Int.reduceEq, Int.reduceNe, Int.reduceBEq, Int.reduceBNe, Int.reduceToNat, Int.reduceNeg]
  repeat (with_reducible refine And.intro (by first | omega | (simp_all; done) | grind) ?_)
  refine AWp_cond _ rfl rfl (fun h0 => ?_) (fun h0 => ?_)
  · simp only [content46, h0, go_sem, Nat.reduceAdd, Nat.reduceMul, Nat.reduceSub, Nat.reduceEqDiff, Nat.reduceLT, Nat.reduceLeDiff, Nat.reduceBEq, reduceIte, reduceCtorEq, Int.reduceAdd, Int.reduceLT, Int.reduceLE, Int.reduceGT, Int.reduceGE, Int.reduceEq, Int.reduceNe, Int.reduceBEq, Int.reduceBNe, Int.reduceToNat, Int.reduceNeg]
  try simp only [go_sem, Nat.reduceAdd, Nat.reduceMul, Nat.reduceSub, Nat.reduceEqDiff, Nat.reduceLT, Nat.reduceLeDiff, Nat.reduceBEq, reduceIte, reduceCtorEq, Int.reduceAdd, Int.reduceLT, Int.reduceLE, Int.reduceGT, Int.reduceGE, Int.reduceEq, Int.reduceNe, Int.reduceBEq, Int.reduceBNe, Int.reduceToNat, Int.reduceNeg]
  refine AWp_loop (Scont1 p) (fun i => p.values.length - i.val) ⟨0, rfl⟩ ?_ (fun i => ?_)
  · try simp only [Scont1, pkObj, go_sem, Nat.reduceAdd, Nat.reduceMul, Nat.reduceSub, Nat.reduceEqDiff, Nat.reduceLT, Nat.reduceLeDiff, Nat.reduceBEq, reduceIte, reduceCtorEq, Int.reduceAdd, Int.reduceLT, Int.reduceLE, Int.reduceGT, Int.reduceGE, Int.reduceEq, Int.reduceNe, Int.reduceBEq, Int.reduceBNe, Int.reduceToNat, Int.reduceNeg]
  obtain ⟨i, hi⟩ := i
  try simp only [Scont1, pkObj, go_sem, Nat.reduceAdd, Nat.reduceMul, Nat.reduceSub, Nat.reduceEqDiff, Nat.reduceLT, Nat.reduceLeDiff, Nat.reduceBEq, reduceIte, reduceCtorEq, Int.reduceAdd, Int.reduceLT, Int.reduceLE, Int.reduceGT, Int.reduceGE, Int.reduceEq, Int.reduceNe, Int.reduceBEq, Int.reduceBNe, Int.reduceToNat, Int.reduceNeg]
  refine AWp_cond _ rfl rfl (fun h => ?_) (fun h => ?_)
  · have hil : i < p.values.length := by simpa using h
    simp only [getD_map encAV p.values hil, encAV, go_sem, Nat.reduceAdd, Nat.reduceMul, Nat.reduceSub, Nat.reduceEqDiff, Nat.reduceLT, Nat.reduceLeDiff, Nat.reduceBEq, reduceIte, reduceCtorEq, Int.reduceAdd, Int.reduceLT, Int.reduceLE, Int.reduceGT, Int.reduceGE, Int.reduceEq, Int.reduceNe, Int.reduceBEq, Int.reduceBNe, Int.reduceToNat, Int.reduceNeg]
    repeat (with_reducible refine And.intro (by first | omega | (simp_all; done) | grind) ?_)
    (repeat (with_reducible refine And.intro (by first | omega | (simp_all; done) | grind) ?_)); refine callO_pure (proper46_ok p.values[i]) b_farandoleref01_Proper (fun h => by first | exact h | (simp only [h, Bool.and_self, Bool.and_true])) (fun _ => by first | exact ⟨matchA_refl, trivial⟩ | exact ⟨matchA_refl, matchA_refl, trivial⟩ | exact ⟨matchA_refl, matchA_refl, matchA_refl, trivial⟩ | simp only [encPk, encAV, encI, go_sem, Nat.reduceAdd, Nat.reduceMul, Nat.reduceSub, Nat.reduceEqDiff, Nat.reduceLT, Nat.reduceLeDiff, Nat.reduceBEq, reduceIte, reduceCtorEq, Int.reduceAdd, Int.reduceLT, Int.reduceLE, Int.reduceGT, Int.reduceGE, Int.reduceEq, Int.reduceNe, Int.reduceBEq, Int.reduceBNe, Int.reduceToNat, Int.reduceNeg]) (by simp only [go_sem, Nat.reduceAdd, Nat.reduceMul, Nat.reduceSub, Nat.reduceEqDiff, Nat.reduceLT, Nat.reduceLeDiff, Nat.reduceBEq, reduceIte, reduceCtorEq, Int.reduceAdd, Int.reduceLT, Int.reduceLE, Int.reduceGT, Int.reduceGE, Int.reduceEq, Int.reduceNe, Int.reduceBEq, Int.reduceBNe, Int.reduceToNat, Int.reduceNeg]) rfl rfl ?_
    try simp only [getD_map encAV p.values hil, encAV, go_sem, Nat.reduceAdd, Nat.reduceMul, Nat.reduceSub, Nat.reduceEqDiff, Nat.reduceLT, Nat.reduceLeDiff, Nat.reduceBEq, reduceIte, reduceCtorEq, Int.reduceAdd, Int.reduceLT, Int.reduceLE, Int.reduceGT, Int.reduceGE, Int.reduceEq, Int.reduceNe, Int.reduceBEq, Int.reduceBNe, Int.reduceToNat, Int.reduceNeg]
    repeat (with_reducible refine And.intro (by first | omega | (simp_all; done) | grind) ?_)
    refine AWp_cond _ rfl rfl (fun h2 => ?_) (fun h2 => ?_)
    · have hg : val46 p.values[i] = false := by simp only [val46, h2]; rfl
      simp only [content46, all_no hil hg, go_sem, Nat.reduceAdd, Nat.reduceMul, Nat.reduceSub, Nat.reduceEqDiff, Nat.reduceLT, Nat.reduceLeDiff, Nat.reduceBEq, reduceIte, reduceCtorEq, Int.reduceAdd, Int.reduceLT, Int.reduceLE, Int.reduceGT, Int.reduceGE, Int.reduceEq, Int.reduceNe, Int.reduceBEq, Int.reduceBNe, Int.reduceToNat, Int.reduceNeg]
    · have hg : val46 p.values[i] = true := by simp only [val46, h2]; rfl
      try simp only [go_sem, Nat.reduceAdd, Nat.reduceMul, Nat.reduceSub, Nat.reduceEqDiff, Nat.reduceLT, Nat.reduceLeDiff, Nat.reduceBEq, reduceIte, reduceCtorEq, Int.reduceAdd, Int.reduceLT, Int.reduceLE, Int.reduceGT, Int.reduceGE, Int.reduceEq, Int.reduceNe, Int.reduceBEq, Int.reduceBNe, Int.reduceToNat, Int.reduceNeg]
      refine ⟨⟨i + 1, take_all_succ hi hil hg⟩, ?_, by dsimp only; omega⟩
      simp only [Scont1, pkObj, wrap_succ (show i < 9223372036854775807 by omega), go_sem, Nat.reduceAdd, Nat.reduceMul, Nat.reduceSub, Nat.reduceEqDiff, Nat.reduceLT, Nat.reduceLeDiff, Nat.reduceBEq, reduceIte, reduceCtorEq, Int.reduceAdd, Int.reduceLT, Int.reduceLE, Int.reduceGT, Int.reduceGE, Int.reduceEq, Int.reduceNe, Int.reduceBEq, Int.reduceBNe, Int.reduceToNat, Int.reduceNeg]
  · have hall : p.values.all val46 = true := all_done hi (by simpa using h)
    try simp only [go_sem, Nat.reduceAdd, Nat.reduceMul, Nat.reduceSub, Nat.reduceEqDiff, Nat.reduceLT, Nat.reduceLeDiff, Nat.reduceBEq, reduceIte, reduceCtorEq, Int.reduceAdd, Int.reduceLT, Int.reduceLE, Int.reduceGT, Int.reduceGE, Int.reduceEq, Int.reduceNe, Int.reduceBEq, Int.reduceBNe, Int.reduceToNat, Int.reduceNeg]
    refine AWp_loop (Scont2 p) (fun i => p.clock.length - i.val) ⟨0, rfl⟩ ?_ (fun i => ?_)
    · try simp only [Scont2, pkObj, go_sem, Nat.reduceAdd, Nat.reduceMul, Nat.reduceSub, Nat.reduceEqDiff, Nat.reduceLT, Nat.reduceLeDiff, Nat.reduceBEq, reduceIte, reduceCtorEq, Int.reduceAdd, Int.reduceLT, Int.reduceLE, Int.reduceGT, Int.reduceGE, Int.reduceEq, Int.reduceNe, Int.reduceBEq, Int.reduceBNe, Int.reduceToNat, Int.reduceNeg]
    obtain ⟨i, hi⟩ := i
    try simp only [Scont2, pkObj, go_sem, Nat.reduceAdd, Nat.reduceMul, Nat.reduceSub, Nat.reduceEqDiff, Nat.reduceLT, Nat.reduceLeDiff, Nat.reduceBEq, reduceIte, reduceCtorEq, Int.reduceAdd, Int.reduceLT, Int.reduceLE, Int.reduceGT, Int.reduceGE, Int.reduceEq, Int.reduceNe, Int.reduceBEq, Int.reduceBNe, Int.reduceToNat, Int.reduceNeg]
    refine AWp_cond _ rfl rfl (fun h => ?_) (fun h => ?_)
    · have hil : i < p.clock.length := by simpa using h
      simp only [getD_map encI p.clock hil, encI, go_sem, Nat.reduceAdd, Nat.reduceMul, Nat.reduceSub, Nat.reduceEqDiff, Nat.reduceLT, Nat.reduceLeDiff, Nat.reduceBEq, reduceIte, reduceCtorEq, Int.reduceAdd, Int.reduceLT, Int.reduceLE, Int.reduceGT, Int.reduceGE, Int.reduceEq, Int.reduceNe, Int.reduceBEq, Int.reduceBNe, Int.reduceToNat, Int.reduceNeg]
      repeat (with_reducible refine And.intro (by first | omega | (simp_all; done) | grind) ?_)
      (repeat (with_reducible refine And.intro (by first | omega | (simp_all; done) | grind) ?_)); refine callO_pure (in46_ok p.clock[i] _ _) b_farandoleref46_in (fun h => by first | exact h | (simp only [h, Bool.and_self, Bool.and_true])) (fun _ => by first | exact ⟨matchA_refl, trivial⟩ | exact ⟨matchA_refl, matchA_refl, trivial⟩ | exact ⟨matchA_refl, matchA_refl, matchA_refl, trivial⟩ | simp only [encPk, encAV, encI, go_sem, Nat.reduceAdd, Nat.reduceMul, Nat.reduceSub, Nat.reduceEqDiff, Nat.reduceLT, Nat.reduceLeDiff, Nat.reduceBEq, reduceIte, reduceCtorEq, Int.reduceAdd, Int.reduceLT, Int.reduceLE, Int.reduceGT, Int.reduceGE, Int.reduceEq, Int.reduceNe, Int.reduceBEq, Int.reduceBNe, Int.reduceToNat, Int.reduceNeg]) (by simp only [go_sem, Nat.reduceAdd, Nat.reduceMul, Nat.reduceSub, Nat.reduceEqDiff, Nat.reduceLT, Nat.reduceLeDiff, Nat.reduceBEq, reduceIte, reduceCtorEq, Int.reduceAdd, Int.reduceLT, Int.reduceLE, Int.reduceGT, Int.reduceGE, Int.reduceEq, Int.reduceNe, Int.reduceBEq, Int.reduceBNe, Int.reduceToNat, Int.reduceNeg]) rfl rfl ?_
      try simp only [go_sem, Nat.reduceAdd, Nat.reduceMul, Nat.reduceSub, Nat.reduceEqDiff, Nat.reduceLT, Nat.reduceLeDiff, Nat.reduceBEq, reduceIte, reduceCtorEq, Int.reduceAdd, Int.reduceLT, Int.reduceLE, Int.reduceGT, Int.reduceGE, Int.reduceEq, Int.reduceNe, Int.reduceBEq, Int.reduceBNe, Int.reduceToNat, Int.reduceNeg]
      refine AWp_cond _ rfl rfl (fun h2 => ?_) (fun h2 => ?_)
      · have hg : clk46 p.clock[i] = false := by simpa [clk46] using h2
        simp only [content46, all_no hil hg, go_sem, Nat.reduceAdd, Nat.reduceMul, Nat.reduceSub, Nat.reduceEqDiff, Nat.reduceLT, Nat.reduceLeDiff, Nat.reduceBEq, reduceIte, reduceCtorEq, Int.reduceAdd, Int.reduceLT, Int.reduceLE, Int.reduceGT, Int.reduceGE, Int.reduceEq, Int.reduceNe, Int.reduceBEq, Int.reduceBNe, Int.reduceToNat, Int.reduceNeg]
      · have hg : clk46 p.clock[i] = true := by simpa [clk46] using h2
        try simp only [go_sem, Nat.reduceAdd, Nat.reduceMul, Nat.reduceSub, Nat.reduceEqDiff, Nat.reduceLT, Nat.reduceLeDiff, Nat.reduceBEq, reduceIte, reduceCtorEq, Int.reduceAdd, Int.reduceLT, Int.reduceLE, Int.reduceGT, Int.reduceGE, Int.reduceEq, Int.reduceNe, Int.reduceBEq, Int.reduceBNe, Int.reduceToNat, Int.reduceNeg]
        refine ⟨⟨i + 1, take_all_succ hi hil hg⟩, ?_, by dsimp only; omega⟩
        simp only [Scont2, pkObj, wrap_succ (show i < 9223372036854775807 by omega), go_sem, Nat.reduceAdd, Nat.reduceMul, Nat.reduceSub, Nat.reduceEqDiff, Nat.reduceLT, Nat.reduceLeDiff, Nat.reduceBEq, reduceIte, reduceCtorEq, Int.reduceAdd, Int.reduceLT, Int.reduceLE, Int.reduceGT, Int.reduceGE, Int.reduceEq, Int.reduceNe, Int.reduceBEq, Int.reduceBNe, Int.reduceToNat, Int.reduceNeg]
    · have hall2 := all_done hi (by simpa using h)
      simp only [content46, h0, hall, hall2, go_sem, Nat.reduceAdd, Nat.reduceMul, Nat.reduceSub, Nat.reduceEqDiff, Nat.reduceLT, Nat.reduceLeDiff, Nat.reduceBEq, reduceIte, reduceCtorEq, Int.reduceAdd, Int.reduceLT, Int.reduceLE, Int.reduceGT, Int.reduceGE, Int.reduceEq, Int.reduceNe, Int.reduceBEq, Int.reduceBNe, Int.reduceToNat, Int.reduceNeg]

def empty46 (p : Pk) : Bool := p.epoch == 0 && (p.values.length : Int) == 0 && (p.clock.length : Int) == 0
def valid46 (p : Pk) : Bool :=
  if !in46 p.sess 1 32 then false
  else if p.kind == 1 then in46 p.epoch 0 1 && pair46 p && in46 p.seq 1 1099511627776 && in46 p.label 0 39 && content46 p
  else if p.kind == 2 then pair46 p && in46 p.seq 1 1099511627776 && p.label == 0 && empty46 p
  else if p.kind == 3 || p.kind == 4 then in46 p.from_ 0 5 && p.to == 0 && p.seq == 0 && in46 p.label 1 2 && empty46 p
  else false

set_option maxRecDepth 10000 in
theorem valid46_ok (p : Pk) (hp : p.Sm) : ACall Try.prog 75 [.d (.agg (encPk p))] [] (.d (.bool (valid46 p))) [] := by
  refine k_farandoleref46_Valid ?_
  simp only [e_farandoleref46_Valid, encPk, go_sem, Nat.reduceAdd, Nat.reduceMul, Nat.reduceSub, Nat.reduceEqDiff, Nat.reduceLT, Nat.reduceLeDiff, Nat.reduceBEq, reduceIte, reduceCtorEq, Int.reduceAdd, Int.reduceLT, Int.reduceLE, Int.reduceGT, Int.reduceGE, Int.reduceEq, Int.reduceNe, Int.reduceBEq, Int.reduceBNe, Int.reduceToNat, Int.reduceNeg]
  (repeat (with_reducible refine And.intro (by first | omega | (simp_all; done) | grind) ?_)); refine callO_pure (in46_ok _ _ _) b_farandoleref46_in (fun h => by first | exact h | (simp only [h, Bool.and_self, Bool.and_true])) (fun _ => by first | exact ⟨matchA_refl, trivial⟩ | exact ⟨matchA_refl, matchA_refl, trivial⟩ | exact ⟨matchA_refl, matchA_refl, matchA_refl, trivial⟩ | simp only [encPk, encAV, encI, go_sem, Nat.reduceAdd, Nat.reduceMul, Nat.reduceSub, Nat.reduceEqDiff, Nat.reduceLT, Nat.reduceLeDiff, Nat.reduceBEq, reduceIte, reduceCtorEq, Int.reduceAdd, Int.reduceLT, Int.reduceLE, Int.reduceGT, Int.reduceGE, Int.reduceEq, Int.reduceNe, Int.reduceBEq, Int.reduceBNe, Int.reduceToNat, Int.reduceNeg]) (by simp only [go_sem, Nat.reduceAdd, Nat.reduceMul, Nat.reduceSub, Nat.reduceEqDiff, Nat.reduceLT, Nat.reduceLeDiff, Nat.reduceBEq, reduceIte, reduceCtorEq, Int.reduceAdd, Int.reduceLT, Int.reduceLE, Int.reduceGT, Int.reduceGE, Int.reduceEq, Int.reduceNe, Int.reduceBEq, Int.reduceBNe, Int.reduceToNat, Int.reduceNeg]) rfl rfl ?_
  try simp only [go_sem, Nat.reduceAdd, Nat.reduceMul, Nat.reduceSub, Nat.reduceEqDiff, Nat.reduceLT, Nat.reduceLeDiff, Nat.reduceBEq, reduceIte, reduceCtorEq, Int.reduceAdd, Int.reduceLT, Int.reduceLE, Int.reduceGT, Int.reduceGE, Int.reduceEq, Int.reduceNe, Int.reduceBEq, Int.reduceBNe, Int.reduceToNat, Int.reduceNeg]
  have he : (p.epoch == 0 && (p.values.length : Int) == 0 && (p.clock.length : Int) == 0) = empty46 p := rfl
  refine AWp_cond _ rfl rfl (fun h0 => ?_) (fun h0 => ?_)
  · simp only [valid46, h0, go_sem, Nat.reduceAdd, Nat.reduceMul, Nat.reduceSub, Nat.reduceEqDiff, Nat.reduceLT, Nat.reduceLeDiff, Nat.reduceBEq, reduceIte, reduceCtorEq, Int.reduceAdd, Int.reduceLT, Int.reduceLE, Int.reduceGT, Int.reduceGE, Int.reduceEq, Int.reduceNe, Int.reduceBEq, Int.reduceBNe, Int.reduceToNat, Int.reduceNeg]
  try simp only [he, go_sem, Nat.reduceAdd, Nat.reduceMul, Nat.reduceSub, Nat.reduceEqDiff, Nat.reduceLT, Nat.reduceLeDiff, Nat.reduceBEq, reduceIte, reduceCtorEq, Int.reduceAdd, Int.reduceLT, Int.reduceLE, Int.reduceGT, Int.reduceGE, Int.reduceEq, Int.reduceNe, Int.reduceBEq, Int.reduceBNe, Int.reduceToNat, Int.reduceNeg]
  refine AWp_cond _ rfl rfl (fun h1 => ?_) (fun h1 => ?_)
  · try simp only [go_sem, Nat.reduceAdd, Nat.reduceMul, Nat.reduceSub, Nat.reduceEqDiff, Nat.reduceLT, Nat.reduceLeDiff, Nat.reduceBEq, reduceIte, reduceCtorEq, Int.reduceAdd, Int.reduceLT, Int.reduceLE, Int.reduceGT, Int.reduceGE, Int.reduceEq, Int.reduceNe, Int.reduceBEq, Int.reduceBNe, Int.reduceToNat, Int.reduceNeg]
    (repeat (with_reducible refine And.intro (by first | omega | (simp_all; done) | grind) ?_)); refine callO_pure (in46_ok _ _ _) b_farandoleref46_in (fun h => by first | exact h | (simp only [h, Bool.and_self, Bool.and_true])) (fun _ => by first | exact ⟨matchA_refl, trivial⟩ | exact ⟨matchA_refl, matchA_refl, trivial⟩ | exact ⟨matchA_refl, matchA_refl, matchA_refl, trivial⟩ | simp only [encPk, encAV, encI, go_sem, Nat.reduceAdd, Nat.reduceMul, Nat.reduceSub, Nat.reduceEqDiff, Nat.reduceLT, Nat.reduceLeDiff, Nat.reduceBEq, reduceIte, reduceCtorEq, Int.reduceAdd, Int.reduceLT, Int.reduceLE, Int.reduceGT, Int.reduceGE, Int.reduceEq, Int.reduceNe, Int.reduceBEq, Int.reduceBNe, Int.reduceToNat, Int.reduceNeg]) (by simp only [go_sem, Nat.reduceAdd, Nat.reduceMul, Nat.reduceSub, Nat.reduceEqDiff, Nat.reduceLT, Nat.reduceLeDiff, Nat.reduceBEq, reduceIte, reduceCtorEq, Int.reduceAdd, Int.reduceLT, Int.reduceLE, Int.reduceGT, Int.reduceGE, Int.reduceEq, Int.reduceNe, Int.reduceBEq, Int.reduceBNe, Int.reduceToNat, Int.reduceNeg]) rfl rfl ?_
    try simp only [go_sem, Nat.reduceAdd, Nat.reduceMul, Nat.reduceSub, Nat.reduceEqDiff, Nat.reduceLT, Nat.reduceLeDiff, Nat.reduceBEq, reduceIte, reduceCtorEq, Int.reduceAdd, Int.reduceLT, Int.reduceLE, Int.reduceGT, Int.reduceGE, Int.reduceEq, Int.reduceNe, Int.reduceBEq, Int.reduceBNe, Int.reduceToNat, Int.reduceNeg]
    (repeat (with_reducible refine And.intro (by first | omega | (simp_all; done) | grind) ?_)); refine callO_pure (pair46_ok p) b_farandoleref46_pair (fun h => by first | exact h | (simp only [h, Bool.and_self, Bool.and_true])) (fun _ => by first | exact ⟨matchA_refl, trivial⟩ | exact ⟨matchA_refl, matchA_refl, trivial⟩ | exact ⟨matchA_refl, matchA_refl, matchA_refl, trivial⟩ | simp only [encPk, encAV, encI, go_sem, Nat.reduceAdd, Nat.reduceMul, Nat.reduceSub, Nat.reduceEqDiff, Nat.reduceLT, Nat.reduceLeDiff, Nat.reduceBEq, reduceIte, reduceCtorEq, Int.reduceAdd, Int.reduceLT, Int.reduceLE, Int.reduceGT, Int.reduceGE, Int.reduceEq, Int.reduceNe, Int.reduceBEq, Int.reduceBNe, Int.reduceToNat, Int.reduceNeg]) (by simp only [go_sem, Nat.reduceAdd, Nat.reduceMul, Nat.reduceSub, Nat.reduceEqDiff, Nat.reduceLT, Nat.reduceLeDiff, Nat.reduceBEq, reduceIte, reduceCtorEq, Int.reduceAdd, Int.reduceLT, Int.reduceLE, Int.reduceGT, Int.reduceGE, Int.reduceEq, Int.reduceNe, Int.reduceBEq, Int.reduceBNe, Int.reduceToNat, Int.reduceNeg]) rfl rfl ?_
    try simp only [go_sem, Nat.reduceAdd, Nat.reduceMul, Nat.reduceSub, Nat.reduceEqDiff, Nat.reduceLT, Nat.reduceLeDiff, Nat.reduceBEq, reduceIte, reduceCtorEq, Int.reduceAdd, Int.reduceLT, Int.reduceLE, Int.reduceGT, Int.reduceGE, Int.reduceEq, Int.reduceNe, Int.reduceBEq, Int.reduceBNe, Int.reduceToNat, Int.reduceNeg]
    (repeat (with_reducible refine And.intro (by first | omega | (simp_all; done) | grind) ?_)); refine callO_pure (in46_ok _ _ _) b_farandoleref46_in (fun h => by first | exact h | (simp only [h, Bool.and_self, Bool.and_true])) (fun _ => by first | exact ⟨matchA_refl, trivial⟩ | exact ⟨matchA_refl, matchA_refl, trivial⟩ | exact ⟨matchA_refl, matchA_refl, matchA_refl, trivial⟩ | simp only [encPk, encAV, encI, go_sem, Nat.reduceAdd, Nat.reduceMul, Nat.reduceSub, Nat.reduceEqDiff, Nat.reduceLT, Nat.reduceLeDiff, Nat.reduceBEq, reduceIte, reduceCtorEq, Int.reduceAdd, Int.reduceLT, Int.reduceLE, Int.reduceGT, Int.reduceGE, Int.reduceEq, Int.reduceNe, Int.reduceBEq, Int.reduceBNe, Int.reduceToNat, Int.reduceNeg]) (by simp only [go_sem, Nat.reduceAdd, Nat.reduceMul, Nat.reduceSub, Nat.reduceEqDiff, Nat.reduceLT, Nat.reduceLeDiff, Nat.reduceBEq, reduceIte, reduceCtorEq, Int.reduceAdd, Int.reduceLT, Int.reduceLE, Int.reduceGT, Int.reduceGE, Int.reduceEq, Int.reduceNe, Int.reduceBEq, Int.reduceBNe, Int.reduceToNat, Int.reduceNeg]) rfl rfl ?_
    try simp only [go_sem, Nat.reduceAdd, Nat.reduceMul, Nat.reduceSub, Nat.reduceEqDiff, Nat.reduceLT, Nat.reduceLeDiff, Nat.reduceBEq, reduceIte, reduceCtorEq, Int.reduceAdd, Int.reduceLT, Int.reduceLE, Int.reduceGT, Int.reduceGE, Int.reduceEq, Int.reduceNe, Int.reduceBEq, Int.reduceBNe, Int.reduceToNat, Int.reduceNeg]
    (repeat (with_reducible refine And.intro (by first | omega | (simp_all; done) | grind) ?_)); refine callO_pure (in46_ok _ _ _) b_farandoleref46_in (fun h => by first | exact h | (simp only [h, Bool.and_self, Bool.and_true])) (fun _ => by first | exact ⟨matchA_refl, trivial⟩ | exact ⟨matchA_refl, matchA_refl, trivial⟩ | exact ⟨matchA_refl, matchA_refl, matchA_refl, trivial⟩ | simp only [encPk, encAV, encI, go_sem, Nat.reduceAdd, Nat.reduceMul, Nat.reduceSub, Nat.reduceEqDiff, Nat.reduceLT, Nat.reduceLeDiff, Nat.reduceBEq, reduceIte, reduceCtorEq, Int.reduceAdd, Int.reduceLT, Int.reduceLE, Int.reduceGT, Int.reduceGE, Int.reduceEq, Int.reduceNe, Int.reduceBEq, Int.reduceBNe, Int.reduceToNat, Int.reduceNeg]) (by simp only [go_sem, Nat.reduceAdd, Nat.reduceMul, Nat.reduceSub, Nat.reduceEqDiff, Nat.reduceLT, Nat.reduceLeDiff, Nat.reduceBEq, reduceIte, reduceCtorEq, Int.reduceAdd, Int.reduceLT, Int.reduceLE, Int.reduceGT, Int.reduceGE, Int.reduceEq, Int.reduceNe, Int.reduceBEq, Int.reduceBNe, Int.reduceToNat, Int.reduceNeg]) rfl rfl ?_
    try simp only [go_sem, Nat.reduceAdd, Nat.reduceMul, Nat.reduceSub, Nat.reduceEqDiff, Nat.reduceLT, Nat.reduceLeDiff, Nat.reduceBEq, reduceIte, reduceCtorEq, Int.reduceAdd, Int.reduceLT, Int.reduceLE, Int.reduceGT, Int.reduceGE, Int.reduceEq, Int.reduceNe, Int.reduceBEq, Int.reduceBNe, Int.reduceToNat, Int.reduceNeg]
    (repeat (with_reducible refine And.intro (by first | omega | (simp_all; done) | grind) ?_)); refine callO_pure (content46_ok p hp) b_farandoleref46_content (fun h => by first | exact h | (simp only [h, Bool.and_self, Bool.and_true])) (fun _ => by first | exact ⟨matchA_refl, trivial⟩ | exact ⟨matchA_refl, matchA_refl, trivial⟩ | exact ⟨matchA_refl, matchA_refl, matchA_refl, trivial⟩ | simp only [encPk, encAV, encI, go_sem, Nat.reduceAdd, Nat.reduceMul, Nat.reduceSub, Nat.reduceEqDiff, Nat.reduceLT, Nat.reduceLeDiff, Nat.reduceBEq, reduceIte, reduceCtorEq, Int.reduceAdd, Int.reduceLT, Int.reduceLE, Int.reduceGT, Int.reduceGE, Int.reduceEq, Int.reduceNe, Int.reduceBEq, Int.reduceBNe, Int.reduceToNat, Int.reduceNeg]) (by simp only [go_sem, Nat.reduceAdd, Nat.reduceMul, Nat.reduceSub, Nat.reduceEqDiff, Nat.reduceLT, Nat.reduceLeDiff, Nat.reduceBEq, reduceIte, reduceCtorEq, Int.reduceAdd, Int.reduceLT, Int.reduceLE, Int.reduceGT, Int.reduceGE, Int.reduceEq, Int.reduceNe, Int.reduceBEq, Int.reduceBNe, Int.reduceToNat, Int.reduceNeg]) rfl rfl ?_
    simp only [valid46, h0, h1, go_sem, Nat.reduceAdd, Nat.reduceMul, Nat.reduceSub, Nat.reduceEqDiff, Nat.reduceLT, Nat.reduceLeDiff, Nat.reduceBEq, reduceIte, reduceCtorEq, Int.reduceAdd, Int.reduceLT, Int.reduceLE, Int.reduceGT, Int.reduceGE, Int.reduceEq, Int.reduceNe, Int.reduceBEq, Int.reduceBNe, Int.reduceToNat, Int.reduceNeg]
  try simp only [go_sem, Nat.reduceAdd, Nat.reduceMul, Nat.reduceSub, Nat.reduceEqDiff, Nat.reduceLT, Nat.reduceLeDiff, Nat.reduceBEq, reduceIte, reduceCtorEq, Int.reduceAdd, Int.reduceLT, Int.reduceLE, Int.reduceGT, Int.reduceGE, Int.reduceEq, Int.reduceNe, Int.reduceBEq, Int.reduceBNe, Int.reduceToNat, Int.reduceNeg]
  refine AWp_cond _ rfl rfl (fun h2 => ?_) (fun h2 => ?_)
  · try simp only [go_sem, Nat.reduceAdd, Nat.reduceMul, Nat.reduceSub, Nat.reduceEqDiff, Nat.reduceLT, Nat.reduceLeDiff, Nat.reduceBEq, reduceIte, reduceCtorEq, Int.reduceAdd, Int.reduceLT, Int.reduceLE, Int.reduceGT, Int.reduceGE, Int.reduceEq, Int.reduceNe, Int.reduceBEq, Int.reduceBNe, Int.reduceToNat, Int.reduceNeg]
    (repeat (with_reducible refine And.intro (by first | omega | (simp_all; done) | grind) ?_)); refine callO_pure (pair46_ok p) b_farandoleref46_pair (fun h => by first | exact h | (simp only [h, Bool.and_self, Bool.and_true])) (fun _ => by first | exact ⟨matchA_refl, trivial⟩ | exact ⟨matchA_refl, matchA_refl, trivial⟩ | exact ⟨matchA_refl, matchA_refl, matchA_refl, trivial⟩ | simp only [encPk, encAV, encI, go_sem, Nat.reduceAdd, Nat.reduceMul, Nat.reduceSub, Nat.reduceEqDiff, Nat.reduceLT, Nat.reduceLeDiff, Nat.reduceBEq, reduceIte, reduceCtorEq, Int.reduceAdd, Int.reduceLT, Int.reduceLE, Int.reduceGT, Int.reduceGE, Int.reduceEq, Int.reduceNe, Int.reduceBEq, Int.reduceBNe, Int.reduceToNat, Int.reduceNeg]) (by simp only [go_sem, Nat.reduceAdd, Nat.reduceMul, Nat.reduceSub, Nat.reduceEqDiff, Nat.reduceLT, Nat.reduceLeDiff, Nat.reduceBEq, reduceIte, reduceCtorEq, Int.reduceAdd, Int.reduceLT, Int.reduceLE, Int.reduceGT, Int.reduceGE, Int.reduceEq, Int.reduceNe, Int.reduceBEq, Int.reduceBNe, Int.reduceToNat, Int.reduceNeg]) rfl rfl ?_
    try simp only [go_sem, Nat.reduceAdd, Nat.reduceMul, Nat.reduceSub, Nat.reduceEqDiff, Nat.reduceLT, Nat.reduceLeDiff, Nat.reduceBEq, reduceIte, reduceCtorEq, Int.reduceAdd, Int.reduceLT, Int.reduceLE, Int.reduceGT, Int.reduceGE, Int.reduceEq, Int.reduceNe, Int.reduceBEq, Int.reduceBNe, Int.reduceToNat, Int.reduceNeg]
    (repeat (with_reducible refine And.intro (by first | omega | (simp_all; done) | grind) ?_)); refine callO_pure (in46_ok _ _ _) b_farandoleref46_in (fun h => by first | exact h | (simp only [h, Bool.and_self, Bool.and_true])) (fun _ => by first | exact ⟨matchA_refl, trivial⟩ | exact ⟨matchA_refl, matchA_refl, trivial⟩ | exact ⟨matchA_refl, matchA_refl, matchA_refl, trivial⟩ | simp only [encPk, encAV, encI, go_sem, Nat.reduceAdd, Nat.reduceMul, Nat.reduceSub, Nat.reduceEqDiff, Nat.reduceLT, Nat.reduceLeDiff, Nat.reduceBEq, reduceIte, reduceCtorEq, Int.reduceAdd, Int.reduceLT, Int.reduceLE, Int.reduceGT, Int.reduceGE, Int.reduceEq, Int.reduceNe, Int.reduceBEq, Int.reduceBNe, Int.reduceToNat, Int.reduceNeg]) (by simp only [go_sem, Nat.reduceAdd, Nat.reduceMul, Nat.reduceSub, Nat.reduceEqDiff, Nat.reduceLT, Nat.reduceLeDiff, Nat.reduceBEq, reduceIte, reduceCtorEq, Int.reduceAdd, Int.reduceLT, Int.reduceLE, Int.reduceGT, Int.reduceGE, Int.reduceEq, Int.reduceNe, Int.reduceBEq, Int.reduceBNe, Int.reduceToNat, Int.reduceNeg]) rfl rfl ?_
    simp only [valid46, h0, h1, h2, go_sem, Nat.reduceAdd, Nat.reduceMul, Nat.reduceSub, Nat.reduceEqDiff, Nat.reduceLT, Nat.reduceLeDiff, Nat.reduceBEq, reduceIte, reduceCtorEq, Int.reduceAdd, Int.reduceLT, Int.reduceLE, Int.reduceGT, Int.reduceGE, Int.reduceEq, Int.reduceNe, Int.reduceBEq, Int.reduceBNe, Int.reduceToNat, Int.reduceNeg]
  try simp only [go_sem, Nat.reduceAdd, Nat.reduceMul, Nat.reduceSub, Nat.reduceEqDiff, Nat.reduceLT, Nat.reduceLeDiff, Nat.reduceBEq, reduceIte, reduceCtorEq, Int.reduceAdd, Int.reduceLT, Int.reduceLE, Int.reduceGT, Int.reduceGE, Int.reduceEq, Int.reduceNe, Int.reduceBEq, Int.reduceBNe, Int.reduceToNat, Int.reduceNeg]
  refine AWp_cond _ rfl rfl (fun h3 => ?_) (fun h3 => ?_)
  · try simp only [go_sem, Nat.reduceAdd, Nat.reduceMul, Nat.reduceSub, Nat.reduceEqDiff, Nat.reduceLT, Nat.reduceLeDiff, Nat.reduceBEq, reduceIte, reduceCtorEq, Int.reduceAdd, Int.reduceLT, Int.reduceLE, Int.reduceGT, Int.reduceGE, Int.reduceEq, Int.reduceNe, Int.reduceBEq, Int.reduceBNe, Int.reduceToNat, Int.reduceNeg]
    refine AWp_cond _ rfl rfl (fun _ => ?_) (fun hx => Bool.noConfusion (h3.symm.trans hx))
    try simp only [go_sem, Nat.reduceAdd, Nat.reduceMul, Nat.reduceSub, Nat.reduceEqDiff, Nat.reduceLT, Nat.reduceLeDiff, Nat.reduceBEq, reduceIte, reduceCtorEq, Int.reduceAdd, Int.reduceLT, Int.reduceLE, Int.reduceGT, Int.reduceGE, Int.reduceEq, Int.reduceNe, Int.reduceBEq, Int.reduceBNe, Int.reduceToNat, Int.reduceNeg]
    (repeat (with_reducible refine And.intro (by first | omega | (simp_all; done) | grind) ?_)); refine callO_pure (in46_ok _ _ _) b_farandoleref46_in (fun h => by first | exact h | (simp only [h, Bool.and_self, Bool.and_true])) (fun _ => by first | exact ⟨matchA_refl, trivial⟩ | exact ⟨matchA_refl, matchA_refl, trivial⟩ | exact ⟨matchA_refl, matchA_refl, matchA_refl, trivial⟩ | simp only [encPk, encAV, encI, go_sem, Nat.reduceAdd, Nat.reduceMul, Nat.reduceSub, Nat.reduceEqDiff, Nat.reduceLT, Nat.reduceLeDiff, Nat.reduceBEq, reduceIte, reduceCtorEq, Int.reduceAdd, Int.reduceLT, Int.reduceLE, Int.reduceGT, Int.reduceGE, Int.reduceEq, Int.reduceNe, Int.reduceBEq, Int.reduceBNe, Int.reduceToNat, Int.reduceNeg]) (by simp only [go_sem, Nat.reduceAdd, Nat.reduceMul, Nat.reduceSub, Nat.reduceEqDiff, Nat.reduceLT, Nat.reduceLeDiff, Nat.reduceBEq, reduceIte, reduceCtorEq, Int.reduceAdd, Int.reduceLT, Int.reduceLE, Int.reduceGT, Int.reduceGE, Int.reduceEq, Int.reduceNe, Int.reduceBEq, Int.reduceBNe, Int.reduceToNat, Int.reduceNeg]) rfl rfl ?_
    try simp only [go_sem, Nat.reduceAdd, Nat.reduceMul, Nat.reduceSub, Nat.reduceEqDiff, Nat.reduceLT, Nat.reduceLeDiff, Nat.reduceBEq, reduceIte, reduceCtorEq, Int.reduceAdd, Int.reduceLT, Int.reduceLE, Int.reduceGT, Int.reduceGE, Int.reduceEq, Int.reduceNe, Int.reduceBEq, Int.reduceBNe, Int.reduceToNat, Int.reduceNeg]
    (repeat (with_reducible refine And.intro (by first | omega | (simp_all; done) | grind) ?_)); refine callO_pure (in46_ok _ _ _) b_farandoleref46_in (fun h => by first | exact h | (simp only [h, Bool.and_self, Bool.and_true])) (fun _ => by first | exact ⟨matchA_refl, trivial⟩ | exact ⟨matchA_refl, matchA_refl, trivial⟩ | exact ⟨matchA_refl, matchA_refl, matchA_refl, trivial⟩ | simp only [encPk, encAV, encI, go_sem, Nat.reduceAdd, Nat.reduceMul, Nat.reduceSub, Nat.reduceEqDiff, Nat.reduceLT, Nat.reduceLeDiff, Nat.reduceBEq, reduceIte, reduceCtorEq, Int.reduceAdd, Int.reduceLT, Int.reduceLE, Int.reduceGT, Int.reduceGE, Int.reduceEq, Int.reduceNe, Int.reduceBEq, Int.reduceBNe, Int.reduceToNat, Int.reduceNeg]) (by simp only [go_sem, Nat.reduceAdd, Nat.reduceMul, Nat.reduceSub, Nat.reduceEqDiff, Nat.reduceLT, Nat.reduceLeDiff, Nat.reduceBEq, reduceIte, reduceCtorEq, Int.reduceAdd, Int.reduceLT, Int.reduceLE, Int.reduceGT, Int.reduceGE, Int.reduceEq, Int.reduceNe, Int.reduceBEq, Int.reduceBNe, Int.reduceToNat, Int.reduceNeg]) rfl rfl ?_
    simp only [valid46, h0, h1, h2, h3, go_sem, Nat.reduceAdd, Nat.reduceMul, Nat.reduceSub, Nat.reduceEqDiff, Nat.reduceLT, Nat.reduceLeDiff, Nat.reduceBEq, reduceIte, reduceCtorEq, Int.reduceAdd, Int.reduceLT, Int.reduceLE, Int.reduceGT, Int.reduceGE, Int.reduceEq, Int.reduceNe, Int.reduceBEq, Int.reduceBNe, Int.reduceToNat, Int.reduceNeg]
  try simp only [go_sem, Nat.reduceAdd, Nat.reduceMul, Nat.reduceSub, Nat.reduceEqDiff, Nat.reduceLT, Nat.reduceLeDiff, Nat.reduceBEq, reduceIte, reduceCtorEq, Int.reduceAdd, Int.reduceLT, Int.reduceLE, Int.reduceGT, Int.reduceGE, Int.reduceEq, Int.reduceNe, Int.reduceBEq, Int.reduceBNe, Int.reduceToNat, Int.reduceNeg]
  refine AWp_cond _ rfl rfl (fun h4 => ?_) (fun h4 => ?_)
  · try simp only [go_sem, Nat.reduceAdd, Nat.reduceMul, Nat.reduceSub, Nat.reduceEqDiff, Nat.reduceLT, Nat.reduceLeDiff, Nat.reduceBEq, reduceIte, reduceCtorEq, Int.reduceAdd, Int.reduceLT, Int.reduceLE, Int.reduceGT, Int.reduceGE, Int.reduceEq, Int.reduceNe, Int.reduceBEq, Int.reduceBNe, Int.reduceToNat, Int.reduceNeg]
    (repeat (with_reducible refine And.intro (by first | omega | (simp_all; done) | grind) ?_)); refine callO_pure (in46_ok _ _ _) b_farandoleref46_in (fun h => by first | exact h | (simp only [h, Bool.and_self, Bool.and_true])) (fun _ => by first | exact ⟨matchA_refl, trivial⟩ | exact ⟨matchA_refl, matchA_refl, trivial⟩ | exact ⟨matchA_refl, matchA_refl, matchA_refl, trivial⟩ | simp only [encPk, encAV, encI, go_sem, Nat.reduceAdd, Nat.reduceMul, Nat.reduceSub, Nat.reduceEqDiff, Nat.reduceLT, Nat.reduceLeDiff, Nat.reduceBEq, reduceIte, reduceCtorEq, Int.reduceAdd, Int.reduceLT, Int.reduceLE, Int.reduceGT, Int.reduceGE, Int.reduceEq, Int.reduceNe, Int.reduceBEq, Int.reduceBNe, Int.reduceToNat, Int.reduceNeg]) (by simp only [go_sem, Nat.reduceAdd, Nat.reduceMul, Nat.reduceSub, Nat.reduceEqDiff, Nat.reduceLT, Nat.reduceLeDiff, Nat.reduceBEq, reduceIte, reduceCtorEq, Int.reduceAdd, Int.reduceLT, Int.reduceLE, Int.reduceGT, Int.reduceGE, Int.reduceEq, Int.reduceNe, Int.reduceBEq, Int.reduceBNe, Int.reduceToNat, Int.reduceNeg]) rfl rfl ?_
    try simp only [go_sem, Nat.reduceAdd, Nat.reduceMul, Nat.reduceSub, Nat.reduceEqDiff, Nat.reduceLT, Nat.reduceLeDiff, Nat.reduceBEq, reduceIte, reduceCtorEq, Int.reduceAdd, Int.reduceLT, Int.reduceLE, Int.reduceGT, Int.reduceGE, Int.reduceEq, Int.reduceNe, Int.reduceBEq, Int.reduceBNe, Int.reduceToNat, Int.reduceNeg]
    (repeat (with_reducible refine And.intro (by first | omega | (simp_all; done) | grind) ?_)); refine callO_pure (in46_ok _ _ _) b_farandoleref46_in (fun h => by first | exact h | (simp only [h, Bool.and_self, Bool.and_true])) (fun _ => by first | exact ⟨matchA_refl, trivial⟩ | exact ⟨matchA_refl, matchA_refl, trivial⟩ | exact ⟨matchA_refl, matchA_refl, matchA_refl, trivial⟩ | simp only [encPk, encAV, encI, go_sem, Nat.reduceAdd, Nat.reduceMul, Nat.reduceSub, Nat.reduceEqDiff, Nat.reduceLT, Nat.reduceLeDiff, Nat.reduceBEq, reduceIte, reduceCtorEq, Int.reduceAdd, Int.reduceLT, Int.reduceLE, Int.reduceGT, Int.reduceGE, Int.reduceEq, Int.reduceNe, Int.reduceBEq, Int.reduceBNe, Int.reduceToNat, Int.reduceNeg]) (by simp only [go_sem, Nat.reduceAdd, Nat.reduceMul, Nat.reduceSub, Nat.reduceEqDiff, Nat.reduceLT, Nat.reduceLeDiff, Nat.reduceBEq, reduceIte, reduceCtorEq, Int.reduceAdd, Int.reduceLT, Int.reduceLE, Int.reduceGT, Int.reduceGE, Int.reduceEq, Int.reduceNe, Int.reduceBEq, Int.reduceBNe, Int.reduceToNat, Int.reduceNeg]) rfl rfl ?_
    simp only [valid46, h0, h1, h2, h3, h4, go_sem, Nat.reduceAdd, Nat.reduceMul, Nat.reduceSub, Nat.reduceEqDiff, Nat.reduceLT, Nat.reduceLeDiff, Nat.reduceBEq, reduceIte, reduceCtorEq, Int.reduceAdd, Int.reduceLT, Int.reduceLE, Int.reduceGT, Int.reduceGE, Int.reduceEq, Int.reduceNe, Int.reduceBEq, Int.reduceBNe, Int.reduceToNat, Int.reduceNeg]
  · simp only [valid46, h0, h1, h2, h3, h4, go_sem, Nat.reduceAdd, Nat.reduceMul, Nat.reduceSub, Nat.reduceEqDiff, Nat.reduceLT, Nat.reduceLeDiff, Nat.reduceBEq, reduceIte, reduceCtorEq, Int.reduceAdd, Int.reduceLT, Int.reduceLE, Int.reduceGT, Int.reduceGE, Int.reduceEq, Int.reduceNe, Int.reduceBEq, Int.reduceBNe, Int.reduceToNat, Int.reduceNeg]
end Go.Proofs.Ythcpckcgjplhiaa
