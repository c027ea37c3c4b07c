/- Equality and copies of slices of packets' parts; packet.Equal. -/
import Derived.Test.YthcpckcgjplhiaaCb
namespace Go.Proofs.Ythcpckcgjplhiaa
open Go.Abs
set_option linter.unusedSimpArgs false

theorem eq_ne {α : Type} [DecidableEq α] {l m : List α} {i : Nat} (h1 : i < l.length) (h2 : i < m.length) (h : l[i] ≠ m[i]) : decide (l = m) = false := by
  rw [decide_eq_false_iff_not]
  rintro rfl
  exact h rfl

theorem take_eq_succ {α : Type} {l m : List α} {i : Nat} (h : l.take i = m.take i) (h1 : i < l.length) (h2 : i < m.length) (he : l[i] = m[i]) : l.take (i + 1) = m.take (i + 1) := by
  rw [List.take_succ_eq_append_getElem h1, List.take_succ_eq_append_getElem h2, h, he]

theorem beq_AV (v w : AV) : (v.kind == w.kind && (v.n == w.n && v.s == w.s)) = decide (v = w) := by
  obtain ⟨a, b, c⟩ := v
  obtain ⟨d, e, f⟩ := w
  rw [Bool.eq_iff_iff]
  simp

noncomputable def s_slices_Equal___api_Value_api_Value__r0 : List SOper := [
  ⟨(some 4), .mov (.k (.d (.bool false))), none⟩]
noncomputable def s_slices_Equal___api_Value_api_Value__r1 : List SOper := [
  ⟨(some 6), .mov (.t 0), none⟩,
  ⟨(some 7), .len (.t 6), none⟩,
  ⟨(some 8), .mov (.t 1), none⟩,
  ⟨(some 9), .len (.t 8), none⟩,
  ⟨(some 10), .bin .neq (.t 7) (.t 9), none⟩]
noncomputable def s_slices_Equal___api_Value_api_Value__r2 : List SOper := [
  ⟨(some 4), .mov (.k (.d (.bool false))), none⟩]
noncomputable def s_slices_Equal___api_Value_api_Value__r3 : List SOper := [
  ⟨(some 11), .mov (.t 0), none⟩,
  ⟨(some 12), .len (.t 11), none⟩,
  ⟨(some 13), .mov (.k (.d (.int .i64 0))), none⟩]
noncomputable def s_slices_Equal___api_Value_api_Value__r4 : List SOper := [
  ⟨(some 14), .bin .lss (.t 13) (.t 12), none⟩]
noncomputable def s_slices_Equal___api_Value_api_Value__r5 : List SOper := [
  ⟨(some 15), .mov (.t 13), none⟩,
  ⟨(some 5), .mov (.t 15), none⟩]
noncomputable def s_slices_Equal___api_Value_api_Value__r6 : List SOper := [
  ⟨(some 16), .mov (.t 0), none⟩,
  ⟨(some 17), .mov (.t 5), none⟩,
  ⟨(some 18), .iaddr 3 (.t 16) (.t 17), none⟩,
  ⟨(some 19), .load (some 3) (.t 18), none⟩,
  ⟨(some 20), .mov (.t 1), none⟩,
  ⟨(some 21), .mov (.t 5), none⟩,
  ⟨(some 22), .iaddr 3 (.t 20) (.t 21), none⟩,
  ⟨(some 23), .load (some 3) (.t 22), none⟩,
  ⟨(some 24), .eqAgg true [.int, .int, .str] (.t 19) (.t 23), none⟩]
noncomputable def s_slices_Equal___api_Value_api_Value__r7 : List SOper := [
  ⟨(some 4), .mov (.k (.d (.bool false))), none⟩]
noncomputable def s_slices_Equal___api_Value_api_Value__r8 : List SOper := [
  ⟨(some 25), .bin .add (.t 13) (.k (.d (.int .i64 1))), none⟩,
  ⟨(some 13), .mov (.t 25), none⟩]
noncomputable def s_slices_Equal___api_Value_api_Value__l9 : SCode := (.seq (.region s_slices_Equal___api_Value_api_Value__r4 0 []) (.seq (.cond (.t 14) .skip (.exit 0)) (.seq (.block 1 (.seq (.region s_slices_Equal___api_Value_api_Value__r5 0 []) (.seq (.region s_slices_Equal___api_Value_api_Value__r6 0 []) (.cond (.t 24) (.seq (.region s_slices_Equal___api_Value_api_Value__r7 0 []) .ret) .skip)))) (.region s_slices_Equal___api_Value_api_Value__r8 0 []))))
theorem e_slices_Equal___api_Value_api_Value__l9 {P : Program} {k0 : Nat} {Q : SExit → St → Prop} {st : St} : AWp P k0 s_slices_Equal___api_Value_api_Value__l9 Q st = AWp P k0 (.seq (.region s_slices_Equal___api_Value_api_Value__r4 0 []) (.seq (.cond (.t 14) .skip (.exit 0)) (.seq (.block 1 (.seq (.region s_slices_Equal___api_Value_api_Value__r5 0 []) (.seq (.region s_slices_Equal___api_Value_api_Value__r6 0 []) (.cond (.t 24) (.seq (.region s_slices_Equal___api_Value_api_Value__r7 0 []) .ret) .skip)))) (.region s_slices_Equal___api_Value_api_Value__r8 0 [])))) Q st := rfl
noncomputable def s_slices_Equal___api_Value_api_Value__r10 : List SOper := [
  ⟨(some 4), .mov (.k (.d (.bool true))), none⟩]
noncomputable def s_slices_Equal___api_Value_api_Value_ : SCode := (.seq (.region s_slices_Equal___api_Value_api_Value__r0 0 []) (.seq (.seq (.region s_slices_Equal___api_Value_api_Value__r1 0 []) (.cond (.t 10) (.seq (.region s_slices_Equal___api_Value_api_Value__r2 0 []) .ret) .skip)) (.seq (.seq (.region s_slices_Equal___api_Value_api_Value__r3 0 []) (.block 0 (.loop s_slices_Equal___api_Value_api_Value__l9))) (.seq (.region s_slices_Equal___api_Value_api_Value__r10 0 []) .ret))))
theorem e_slices_Equal___api_Value_api_Value_ {P : Program} {k0 : Nat} {Q : SExit → St → Prop} {st : St} : AWp P k0 s_slices_Equal___api_Value_api_Value_ Q st = AWp P k0 (.seq (.region s_slices_Equal___api_Value_api_Value__r0 0 []) (.seq (.seq (.region s_slices_Equal___api_Value_api_Value__r1 0 []) (.cond (.t 10) (.seq (.region s_slices_Equal___api_Value_api_Value__r2 0 []) .ret) .skip)) (.seq (.seq (.region s_slices_Equal___api_Value_api_Value__r3 0 []) (.block 0 (.loop s_slices_Equal___api_Value_api_Value__l9))) (.seq (.region s_slices_Equal___api_Value_api_Value__r10 0 []) .ret)))) Q st := rfl
theorem u_slices_Equal___api_Value_api_Value__r0 {P : Program} {o : Nat} {p : List (Nat × Nat)} {Q : SExit → St → Prop} {st : St} : goReg P s_slices_Equal___api_Value_api_Value__r0 o p Q st = goLit P (litOf s_slices_Equal___api_Value_api_Value__r0.eq_1) o p Q st := goReg_of _
theorem u_slices_Equal___api_Value_api_Value__r1 {P : Program} {o : Nat} {p : List (Nat × Nat)} {Q : SExit → St → Prop} {st : St} : goReg P s_slices_Equal___api_Value_api_Value__r1 o p Q st = goLit P (litOf s_slices_Equal___api_Value_api_Value__r1.eq_1) o p Q st := goReg_of _
theorem u_slices_Equal___api_Value_api_Value__r2 {P : Program} {o : Nat} {p : List (Nat × Nat)} {Q : SExit → St → Prop} {st : St} : goReg P s_slices_Equal___api_Value_api_Value__r2 o p Q st = goLit P (litOf s_slices_Equal___api_Value_api_Value__r2.eq_1) o p Q st := goReg_of _
theorem u_slices_Equal___api_Value_api_Value__r3 {P : Program} {o : Nat} {p : List (Nat × Nat)} {Q : SExit → St → Prop} {st : St} : goReg P s_slices_Equal___api_Value_api_Value__r3 o p Q st = goLit P (litOf s_slices_Equal___api_Value_api_Value__r3.eq_1) o p Q st := goReg_of _
theorem u_slices_Equal___api_Value_api_Value__r4 {P : Program} {o : Nat} {p : List (Nat × Nat)} {Q : SExit → St → Prop} {st : St} : goReg P s_slices_Equal___api_Value_api_Value__r4 o p Q st = goLit P (litOf s_slices_Equal___api_Value_api_Value__r4.eq_1) o p Q st := goReg_of _
theorem u_slices_Equal___api_Value_api_Value__r5 {P : Program} {o : Nat} {p : List (Nat × Nat)} {Q : SExit → St → Prop} {st : St} : goReg P s_slices_Equal___api_Value_api_Value__r5 o p Q st = goLit P (litOf s_slices_Equal___api_Value_api_Value__r5.eq_1) o p Q st := goReg_of _
theorem u_slices_Equal___api_Value_api_Value__r6 {P : Program} {o : Nat} {p : List (Nat × Nat)} {Q : SExit → St → Prop} {st : St} : goReg P s_slices_Equal___api_Value_api_Value__r6 o p Q st = goLit P (litOf s_slices_Equal___api_Value_api_Value__r6.eq_1) o p Q st := goReg_of _
theorem u_slices_Equal___api_Value_api_Value__r7 {P : Program} {o : Nat} {p : List (Nat × Nat)} {Q : SExit → St → Prop} {st : St} : goReg P s_slices_Equal___api_Value_api_Value__r7 o p Q st = goLit P (litOf s_slices_Equal___api_Value_api_Value__r7.eq_1) o p Q st := goReg_of _
theorem u_slices_Equal___api_Value_api_Value__r8 {P : Program} {o : Nat} {p : List (Nat × Nat)} {Q : SExit → St → Prop} {st : St} : goReg P s_slices_Equal___api_Value_api_Value__r8 o p Q st = goLit P (litOf s_slices_Equal___api_Value_api_Value__r8.eq_1) o p Q st := goReg_of _
theorem u_slices_Equal___api_Value_api_Value__r10 {P : Program} {o : Nat} {p : List (Nat × Nat)} {Q : SExit → St → Prop} {st : St} : goReg P s_slices_Equal___api_Value_api_Value__r10 o p Q st = goLit P (litOf s_slices_Equal___api_Value_api_Value__r10.eq_1) o p Q st := goReg_of _
attribute [go_sem] u_slices_Equal___api_Value_api_Value__r0 u_slices_Equal___api_Value_api_Value__r1 u_slices_Equal___api_Value_api_Value__r2 u_slices_Equal___api_Value_api_Value__r3 u_slices_Equal___api_Value_api_Value__r4 u_slices_Equal___api_Value_api_Value__r5 u_slices_Equal___api_Value_api_Value__r6 u_slices_Equal___api_Value_api_Value__r7 u_slices_Equal___api_Value_api_Value__r8 e_slices_Equal___api_Value_api_Value__l9 u_slices_Equal___api_Value_api_Value__r10 e_slices_Equal___api_Value_api_Value_
set_option maxRecDepth 100000 in
theorem c_slices_Equal___api_Value_api_Value_ : Try.f73.body.bind (compCode Try.prog Try.f73.ntmps news) = some s_slices_Equal___api_Value_api_Value_ := by kernel_rfl
theorem r_slices_Equal___api_Value_api_Value_ : Try.f73.results.toList.mapM (compRes Try.prog) = some [(.tmp 4)] := by kernel_rfl
theorem n_slices_Equal___api_Value_api_Value_ : Try.f73.ntmps = 26 := by kernel_rfl
theorem b_slices_Equal___api_Value_api_Value_ : (Try.prog.funcs[73]?).any (fun fn => fn.body.isSome && !(fn.name == "runtime.NumGoroutine")) = true := by kernel_rfl
theorem ko_slices_Equal___api_Value_api_Value_ {args : List ASlot} {r : ASlot} {objs objs' : List AObj} (h : AWp Try.prog objs.length s_slices_Equal___api_Value_api_Value_ (bodyQ objs.length [(.tmp 4)] [r] objs') (entrySt args objs)) (hN : args.length ≤ 26 := by simp) (hw : ltB 16 (toksOf args ++ osToks objs) = true := by rfl) : ACall Try.prog 73 args objs r objs' :=
  acall_go (rs := [r]) follows Try.func73 c_slices_Equal___api_Value_api_Value_ r_slices_Equal___api_Value_api_Value_ h (by rw [n_slices_Equal___api_Value_api_Value_]; exact hN) rfl hw
theorem k_slices_Equal___api_Value_api_Value_ {args : List ASlot} {r : ASlot} (h : AWp Try.prog 0 s_slices_Equal___api_Value_api_Value_ (bodyQ 0 [(.tmp 4)] [r] []) (entrySt args [])) (hN : args.length ≤ 26 := by simp) (hw : ltB 16 (toksOf args ++ osToks []) = true := by rfl) : ACall Try.prog 73 args [] r [] := ko_slices_Equal___api_Value_api_Value_ h hN hw

noncomputable def s_slices_Equal___int_int__r0 : List SOper := [
  ⟨(some 4), .mov (.k (.d (.bool false))), none⟩]
noncomputable def s_slices_Equal___int_int__r1 : List SOper := [
  ⟨(some 6), .mov (.t 0), none⟩,
  ⟨(some 7), .len (.t 6), none⟩,
  ⟨(some 8), .mov (.t 1), none⟩,
  ⟨(some 9), .len (.t 8), none⟩,
  ⟨(some 10), .bin .neq (.t 7) (.t 9), none⟩]
noncomputable def s_slices_Equal___int_int__r2 : List SOper := [
  ⟨(some 4), .mov (.k (.d (.bool false))), none⟩]
noncomputable def s_slices_Equal___int_int__r3 : List SOper := [
  ⟨(some 11), .mov (.t 0), none⟩,
  ⟨(some 12), .len (.t 11), none⟩,
  ⟨(some 13), .mov (.k (.d (.int .i64 0))), none⟩]
noncomputable def s_slices_Equal___int_int__r4 : List SOper := [
  ⟨(some 14), .bin .lss (.t 13) (.t 12), none⟩]
noncomputable def s_slices_Equal___int_int__r5 : List SOper := [
  ⟨(some 15), .mov (.t 13), none⟩,
  ⟨(some 5), .mov (.t 15), none⟩]
noncomputable def s_slices_Equal___int_int__r6 : List SOper := [
  ⟨(some 16), .mov (.t 0), none⟩,
  ⟨(some 17), .mov (.t 5), none⟩,
  ⟨(some 18), .iaddr 1 (.t 16) (.t 17), none⟩,
  ⟨(some 19), .load none (.t 18), none⟩,
  ⟨(some 20), .mov (.t 1), none⟩,
  ⟨(some 21), .mov (.t 5), none⟩,
  ⟨(some 22), .iaddr 1 (.t 20) (.t 21), none⟩,
  ⟨(some 23), .load none (.t 22), none⟩,
  ⟨(some 24), .bin .neq (.t 19) (.t 23), none⟩]
noncomputable def s_slices_Equal___int_int__r7 : List SOper := [
  ⟨(some 4), .mov (.k (.d (.bool false))), none⟩]
noncomputable def s_slices_Equal___int_int__r8 : List SOper := [
  ⟨(some 25), .bin .add (.t 13) (.k (.d (.int .i64 1))), none⟩,
  ⟨(some 13), .mov (.t 25), none⟩]
noncomputable def s_slices_Equal___int_int__l9 : SCode := (.seq (.region s_slices_Equal___int_int__r4 0 []) (.seq (.cond (.t 14) .skip (.exit 0)) (.seq (.block 1 (.seq (.region s_slices_Equal___int_int__r5 0 []) (.seq (.region s_slices_Equal___int_int__r6 0 []) (.cond (.t 24) (.seq (.region s_slices_Equal___int_int__r7 0 []) .ret) .skip)))) (.region s_slices_Equal___int_int__r8 0 []))))
theorem e_slices_Equal___int_int__l9 {P : Program} {k0 : Nat} {Q : SExit → St → Prop} {st : St} : AWp P k0 s_slices_Equal___int_int__l9 Q st = AWp P k0 (.seq (.region s_slices_Equal___int_int__r4 0 []) (.seq (.cond (.t 14) .skip (.exit 0)) (.seq (.block 1 (.seq (.region s_slices_Equal___int_int__r5 0 []) (.seq (.region s_slices_Equal___int_int__r6 0 []) (.cond (.t 24) (.seq (.region s_slices_Equal___int_int__r7 0 []) .ret) .skip)))) (.region s_slices_Equal___int_int__r8 0 [])))) Q st := rfl
noncomputable def s_slices_Equal___int_int__r10 : List SOper := [
  ⟨(some 4), .mov (.k (.d (.bool true))), none⟩]
noncomputable def s_slices_Equal___int_int_ : SCode := (.seq (.region s_slices_Equal___int_int__r0 0 []) (.seq (.seq (.region s_slices_Equal___int_int__r1 0 []) (.cond (.t 10) (.seq (.region s_slices_Equal___int_int__r2 0 []) .ret) .skip)) (.seq (.seq (.region s_slices_Equal___int_int__r3 0 []) (.block 0 (.loop s_slices_Equal___int_int__l9))) (.seq (.region s_slices_Equal___int_int__r10 0 []) .ret))))
theorem e_slices_Equal___int_int_ {P : Program} {k0 : Nat} {Q : SExit → St → Prop} {st : St} : AWp P k0 s_slices_Equal___int_int_ Q st = AWp P k0 (.seq (.region s_slices_Equal___int_int__r0 0 []) (.seq (.seq (.region s_slices_Equal___int_int__r1 0 []) (.cond (.t 10) (.seq (.region s_slices_Equal___int_int__r2 0 []) .ret) .skip)) (.seq (.seq (.region s_slices_Equal___int_int__r3 0 []) (.block 0 (.loop s_slices_Equal___int_int__l9))) (.seq (.region s_slices_Equal___int_int__r10 0 []) .ret)))) Q st := rfl
theorem u_slices_Equal___int_int__r0 {P : Program} {o : Nat} {p : List (Nat × Nat)} {Q : SExit → St → Prop} {st : St} : goReg P s_slices_Equal___int_int__r0 o p Q st = goLit P (litOf s_slices_Equal___int_int__r0.eq_1) o p Q st := goReg_of _
theorem u_slices_Equal___int_int__r1 {P : Program} {o : Nat} {p : List (Nat × Nat)} {Q : SExit → St → Prop} {st : St} : goReg P s_slices_Equal___int_int__r1 o p Q st = goLit P (litOf s_slices_Equal___int_int__r1.eq_1) o p Q st := goReg_of _
theorem u_slices_Equal___int_int__r2 {P : Program} {o : Nat} {p : List (Nat × Nat)} {Q : SExit → St → Prop} {st : St} : goReg P s_slices_Equal___int_int__r2 o p Q st = goLit P (litOf s_slices_Equal___int_int__r2.eq_1) o p Q st := goReg_of _
theorem u_slices_Equal___int_int__r3 {P : Program} {o : Nat} {p : List (Nat × Nat)} {Q : SExit → St → Prop} {st : St} : goReg P s_slices_Equal___int_int__r3 o p Q st = goLit P (litOf s_slices_Equal___int_int__r3.eq_1) o p Q st := goReg_of _
theorem u_slices_Equal___int_int__r4 {P : Program} {o : Nat} {p : List (Nat × Nat)} {Q : SExit → St → Prop} {st : St} : goReg P s_slices_Equal___int_int__r4 o p Q st = goLit P (litOf s_slices_Equal___int_int__r4.eq_1) o p Q st := goReg_of _
theorem u_slices_Equal___int_int__r5 {P : Program} {o : Nat} {p : List (Nat × Nat)} {Q : SExit → St → Prop} {st : St} : goReg P s_slices_Equal___int_int__r5 o p Q st = goLit P (litOf s_slices_Equal___int_int__r5.eq_1) o p Q st := goReg_of _
theorem u_slices_Equal___int_int__r6 {P : Program} {o : Nat} {p : List (Nat × Nat)} {Q : SExit → St → Prop} {st : St} : goReg P s_slices_Equal___int_int__r6 o p Q st = goLit P (litOf s_slices_Equal___int_int__r6.eq_1) o p Q st := goReg_of _
theorem u_slices_Equal___int_int__r7 {P : Program} {o : Nat} {p : List (Nat × Nat)} {Q : SExit → St → Prop} {st : St} : goReg P s_slices_Equal___int_int__r7 o p Q st = goLit P (litOf s_slices_Equal___int_int__r7.eq_1) o p Q st := goReg_of _
theorem u_slices_Equal___int_int__r8 {P : Program} {o : Nat} {p : List (Nat × Nat)} {Q : SExit → St → Prop} {st : St} : goReg P s_slices_Equal___int_int__r8 o p Q st = goLit P (litOf s_slices_Equal___int_int__r8.eq_1) o p Q st := goReg_of _
theorem u_slices_Equal___int_int__r10 {P : Program} {o : Nat} {p : List (Nat × Nat)} {Q : SExit → St → Prop} {st : St} : goReg P s_slices_Equal___int_int__r10 o p Q st = goLit P (litOf s_slices_Equal___int_int__r10.eq_1) o p Q st := goReg_of _
attribute [go_sem] u_slices_Equal___int_int__r0 u_slices_Equal___int_int__r1 u_slices_Equal___int_int__r2 u_slices_Equal___int_int__r3 u_slices_Equal___int_int__r4 u_slices_Equal___int_int__r5 u_slices_Equal___int_int__r6 u_slices_Equal___int_int__r7 u_slices_Equal___int_int__r8 e_slices_Equal___int_int__l9 u_slices_Equal___int_int__r10 e_slices_Equal___int_int_
set_option maxRecDepth 100000 in
theorem c_slices_Equal___int_int_ : Try.f74.body.bind (compCode Try.prog Try.f74.ntmps news) = some s_slices_Equal___int_int_ := by kernel_rfl
theorem r_slices_Equal___int_int_ : Try.f74.results.toList.mapM (compRes Try.prog) = some [(.tmp 4)] := by kernel_rfl
theorem n_slices_Equal___int_int_ : Try.f74.ntmps = 26 := by kernel_rfl
theorem b_slices_Equal___int_int_ : (Try.prog.funcs[74]?).any (fun fn => fn.body.isSome && !(fn.name == "runtime.NumGoroutine")) = true := by kernel_rfl
theorem ko_slices_Equal___int_int_ {args : List ASlot} {r : ASlot} {objs objs' : List AObj} (h : AWp Try.prog objs.length s_slices_Equal___int_int_ (bodyQ objs.length [(.tmp 4)] [r] objs') (entrySt args objs)) (hN : args.length ≤ 26 := by simp) (hw : ltB 16 (toksOf args ++ osToks objs) = true := by rfl) : ACall Try.prog 74 args objs r objs' :=
  acall_go (rs := [r]) follows Try.func74 c_slices_Equal___int_int_ r_slices_Equal___int_int_ h (by rw [n_slices_Equal___int_int_]; exact hN) rfl hw
theorem k_slices_Equal___int_int_ {args : List ASlot} {r : ASlot} (h : AWp Try.prog 0 s_slices_Equal___int_int_ (bodyQ 0 [(.tmp 4)] [r] []) (entrySt args [])) (hN : args.length ≤ 26 := by simp) (hw : ltB 16 (toksOf args ++ osToks []) = true := by rfl) : ACall Try.prog 74 args [] r [] := ko_slices_Equal___int_int_ h hN hw

noncomputable def s_slices_Clone___api_Value_api_Value__r0 : List SOper := [
  ⟨(some 2), .mov (.k (.d .nilsl)), none⟩]
noncomputable def s_slices_Clone___api_Value_api_Value__r1 : List SOper := [
  ⟨(some 3), .mov (.t 0), none⟩,
  ⟨(some 4), .eqnilS false (.t 3), none⟩]
noncomputable def s_slices_Clone___api_Value_api_Value__r2 : List SOper := [
  ⟨(some 2), .mov (.k (.d .nilsl)), none⟩]
noncomputable def s_slices_Clone___api_Value_api_Value__r3 : List SOper := [
  ⟨(some 5), .buildSlice 3 0 [(.int .i64 0), (.int .i64 0), (.str [])] [], none⟩,
  ⟨(some 6), .mov (.t 0), none⟩,
  ⟨(some 7), .append 3 32 (.t 5) (.t 6), none⟩,
  ⟨(some 2), .mov (.t 7), none⟩]
noncomputable def s_slices_Clone___api_Value_api_Value_ : SCode := (.seq (.region s_slices_Clone___api_Value_api_Value__r0 0 []) (.seq (.seq (.region s_slices_Clone___api_Value_api_Value__r1 0 []) (.cond (.t 4) (.seq (.region s_slices_Clone___api_Value_api_Value__r2 0 []) .ret) .skip)) (.seq (.region s_slices_Clone___api_Value_api_Value__r3 0 []) .ret)))
theorem e_slices_Clone___api_Value_api_Value_ {P : Program} {k0 : Nat} {Q : SExit → St → Prop} {st : St} : AWp P k0 s_slices_Clone___api_Value_api_Value_ Q st = AWp P k0 (.seq (.region s_slices_Clone___api_Value_api_Value__r0 0 []) (.seq (.seq (.region s_slices_Clone___api_Value_api_Value__r1 0 []) (.cond (.t 4) (.seq (.region s_slices_Clone___api_Value_api_Value__r2 0 []) .ret) .skip)) (.seq (.region s_slices_Clone___api_Value_api_Value__r3 0 []) .ret))) Q st := rfl
theorem u_slices_Clone___api_Value_api_Value__r0 {P : Program} {o : Nat} {p : List (Nat × Nat)} {Q : SExit → St → Prop} {st : St} : goReg P s_slices_Clone___api_Value_api_Value__r0 o p Q st = goLit P (litOf s_slices_Clone___api_Value_api_Value__r0.eq_1) o p Q st := goReg_of _
theorem u_slices_Clone___api_Value_api_Value__r1 {P : Program} {o : Nat} {p : List (Nat × Nat)} {Q : SExit → St → Prop} {st : St} : goReg P s_slices_Clone___api_Value_api_Value__r1 o p Q st = goLit P (litOf s_slices_Clone___api_Value_api_Value__r1.eq_1) o p Q st := goReg_of _
theorem u_slices_Clone___api_Value_api_Value__r2 {P : Program} {o : Nat} {p : List (Nat × Nat)} {Q : SExit → St → Prop} {st : St} : goReg P s_slices_Clone___api_Value_api_Value__r2 o p Q st = goLit P (litOf s_slices_Clone___api_Value_api_Value__r2.eq_1) o p Q st := goReg_of _
theorem u_slices_Clone___api_Value_api_Value__r3 {P : Program} {o : Nat} {p : List (Nat × Nat)} {Q : SExit → St → Prop} {st : St} : goReg P s_slices_Clone___api_Value_api_Value__r3 o p Q st = goLit P (litOf s_slices_Clone___api_Value_api_Value__r3.eq_1) o p Q st := goReg_of _
attribute [go_sem] u_slices_Clone___api_Value_api_Value__r0 u_slices_Clone___api_Value_api_Value__r1 u_slices_Clone___api_Value_api_Value__r2 u_slices_Clone___api_Value_api_Value__r3 e_slices_Clone___api_Value_api_Value_
set_option maxRecDepth 100000 in
theorem c_slices_Clone___api_Value_api_Value_ : Try.f97.body.bind (compCode Try.prog Try.f97.ntmps news) = some s_slices_Clone___api_Value_api_Value_ := by kernel_rfl
theorem r_slices_Clone___api_Value_api_Value_ : Try.f97.results.toList.mapM (compRes Try.prog) = some [(.tmp 2)] := by kernel_rfl
theorem n_slices_Clone___api_Value_api_Value_ : Try.f97.ntmps = 8 := by kernel_rfl
theorem b_slices_Clone___api_Value_api_Value_ : (Try.prog.funcs[97]?).any (fun fn => fn.body.isSome && !(fn.name == "runtime.NumGoroutine")) = true := by kernel_rfl
theorem ko_slices_Clone___api_Value_api_Value_ {args : List ASlot} {r : ASlot} {objs objs' : List AObj} (h : AWp Try.prog objs.length s_slices_Clone___api_Value_api_Value_ (bodyQ objs.length [(.tmp 2)] [r] objs') (entrySt args objs)) (hN : args.length ≤ 8 := by simp) (hw : ltB 16 (toksOf args ++ osToks objs) = true := by rfl) : ACall Try.prog 97 args objs r objs' :=
  acall_go (rs := [r]) follows Try.func97 c_slices_Clone___api_Value_api_Value_ r_slices_Clone___api_Value_api_Value_ h (by rw [n_slices_Clone___api_Value_api_Value_]; exact hN) rfl hw
theorem k_slices_Clone___api_Value_api_Value_ {args : List ASlot} {r : ASlot} (h : AWp Try.prog 0 s_slices_Clone___api_Value_api_Value_ (bodyQ 0 [(.tmp 2)] [r] []) (entrySt args [])) (hN : args.length ≤ 8 := by simp) (hw : ltB 16 (toksOf args ++ osToks []) = true := by rfl) : ACall Try.prog 97 args [] r [] := ko_slices_Clone___api_Value_api_Value_ h hN hw

noncomputable def s_slices_Clone___int_int__r0 : List SOper := [
  ⟨(some 2), .mov (.k (.d .nilsl)), none⟩]
noncomputable def s_slices_Clone___int_int__r1 : List SOper := [
  ⟨(some 3), .mov (.t 0), none⟩,
  ⟨(some 4), .eqnilS false (.t 3), none⟩]
noncomputable def s_slices_Clone___int_int__r2 : List SOper := [
  ⟨(some 2), .mov (.k (.d .nilsl)), none⟩]
noncomputable def s_slices_Clone___int_int__r3 : List SOper := [
  ⟨(some 5), .buildSlice 1 0 [(.int .i64 0)] [], none⟩,
  ⟨(some 6), .mov (.t 0), none⟩,
  ⟨(some 7), .append 1 8 (.t 5) (.t 6), none⟩,
  ⟨(some 2), .mov (.t 7), none⟩]
noncomputable def s_slices_Clone___int_int_ : SCode := (.seq (.region s_slices_Clone___int_int__r0 0 []) (.seq (.seq (.region s_slices_Clone___int_int__r1 0 []) (.cond (.t 4) (.seq (.region s_slices_Clone___int_int__r2 0 []) .ret) .skip)) (.seq (.region s_slices_Clone___int_int__r3 0 []) .ret)))
theorem e_slices_Clone___int_int_ {P : Program} {k0 : Nat} {Q : SExit → St → Prop} {st : St} : AWp P k0 s_slices_Clone___int_int_ Q st = AWp P k0 (.seq (.region s_slices_Clone___int_int__r0 0 []) (.seq (.seq (.region s_slices_Clone___int_int__r1 0 []) (.cond (.t 4) (.seq (.region s_slices_Clone___int_int__r2 0 []) .ret) .skip)) (.seq (.region s_slices_Clone___int_int__r3 0 []) .ret))) Q st := rfl
theorem u_slices_Clone___int_int__r0 {P : Program} {o : Nat} {p : List (Nat × Nat)} {Q : SExit → St → Prop} {st : St} : goReg P s_slices_Clone___int_int__r0 o p Q st = goLit P (litOf s_slices_Clone___int_int__r0.eq_1) o p Q st := goReg_of _
theorem u_slices_Clone___int_int__r1 {P : Program} {o : Nat} {p : List (Nat × Nat)} {Q : SExit → St → Prop} {st : St} : goReg P s_slices_Clone___int_int__r1 o p Q st = goLit P (litOf s_slices_Clone___int_int__r1.eq_1) o p Q st := goReg_of _
theorem u_slices_Clone___int_int__r2 {P : Program} {o : Nat} {p : List (Nat × Nat)} {Q : SExit → St → Prop} {st : St} : goReg P s_slices_Clone___int_int__r2 o p Q st = goLit P (litOf s_slices_Clone___int_int__r2.eq_1) o p Q st := goReg_of _
theorem u_slices_Clone___int_int__r3 {P : Program} {o : Nat} {p : List (Nat × Nat)} {Q : SExit → St → Prop} {st : St} : goReg P s_slices_Clone___int_int__r3 o p Q st = goLit P (litOf s_slices_Clone___int_int__r3.eq_1) o p Q st := goReg_of _
attribute [go_sem] u_slices_Clone___int_int__r0 u_slices_Clone___int_int__r1 u_slices_Clone___int_int__r2 u_slices_Clone___int_int__r3 e_slices_Clone___int_int_
set_option maxRecDepth 100000 in
theorem c_slices_Clone___int_int_ : Try.f98.body.bind (compCode Try.prog Try.f98.ntmps news) = some s_slices_Clone___int_int_ := by kernel_rfl
theorem r_slices_Clone___int_int_ : Try.f98.results.toList.mapM (compRes Try.prog) = some [(.tmp 2)] := by kernel_rfl
theorem n_slices_Clone___int_int_ : Try.f98.ntmps = 8 := by kernel_rfl
theorem b_slices_Clone___int_int_ : (Try.prog.funcs[98]?).any (fun fn => fn.body.isSome && !(fn.name == "runtime.NumGoroutine")) = true := by kernel_rfl
theorem ko_slices_Clone___int_int_ {args : List ASlot} {r : ASlot} {objs objs' : List AObj} (h : AWp Try.prog objs.length s_slices_Clone___int_int_ (bodyQ objs.length [(.tmp 2)] [r] objs') (entrySt args objs)) (hN : args.length ≤ 8 := by simp) (hw : ltB 16 (toksOf args ++ osToks objs) = true := by rfl) : ACall Try.prog 98 args objs r objs' :=
  acall_go (rs := [r]) follows Try.func98 c_slices_Clone___int_int_ r_slices_Clone___int_int_ h (by rw [n_slices_Clone___int_int_]; exact hN) rfl hw
theorem k_slices_Clone___int_int_ {args : List ASlot} {r : ASlot} (h : AWp Try.prog 0 s_slices_Clone___int_int_ (bodyQ 0 [(.tmp 2)] [r] []) (entrySt args [])) (hN : args.length ≤ 8 := by simp) (hw : ltB 16 (toksOf args ++ osToks []) = true := by rfl) : ACall Try.prog 98 args [] r [] := ko_slices_Clone___int_int_ h hN hw

noncomputable def s_packet_Equal_r0 : List SOper := [
  ⟨(some 2), .box 2 (.t 0), none⟩,
  ⟨(some 3), .box 1 (.t 1), none⟩,
  ⟨(some 4), .mov (.k (.d (.bool false))), none⟩]
noncomputable def s_packet_Equal_r1 : List SOper := [
  ⟨(some 5), .faddr 0 (.t 2), none⟩,
  ⟨(some 6), .load none (.t 5), none⟩,
  ⟨(some 7), .faddr 0 (.t 3), none⟩,
  ⟨(some 8), .load none (.t 7), none⟩,
  ⟨(some 9), .bin .eql (.t 6) (.t 8), none⟩,
  ⟨(some 10), .mov (.t 9), none⟩,
  ⟨(some 11), .faddr 1 (.t 2), (some (10, true))⟩,
  ⟨(some 12), .load none (.t 11), (some (10, true))⟩,
  ⟨(some 13), .faddr 1 (.t 3), (some (10, true))⟩,
  ⟨(some 14), .load none (.t 13), (some (10, true))⟩,
  ⟨(some 15), .bin .eql (.t 12) (.t 14), (some (10, true))⟩,
  ⟨(some 16), .pick (.t 10) (.t 15) (.k (.d (.bool false))), none⟩,
  ⟨(some 17), .mov (.t 16), none⟩,
  ⟨(some 18), .faddr 2 (.t 2), (some (17, true))⟩,
  ⟨(some 19), .load none (.t 18), (some (17, true))⟩,
  ⟨(some 20), .faddr 2 (.t 3), (some (17, true))⟩,
  ⟨(some 21), .load none (.t 20), (some (17, true))⟩,
  ⟨(some 22), .bin .eql (.t 19) (.t 21), (some (17, true))⟩,
  ⟨(some 23), .pick (.t 17) (.t 22) (.k (.d (.bool false))), none⟩,
  ⟨(some 24), .mov (.t 23), none⟩,
  ⟨(some 25), .faddr 3 (.t 2), (some (24, true))⟩,
  ⟨(some 26), .load none (.t 25), (some (24, true))⟩,
  ⟨(some 27), .faddr 3 (.t 3), (some (24, true))⟩,
  ⟨(some 28), .load none (.t 27), (some (24, true))⟩,
  ⟨(some 29), .bin .eql (.t 26) (.t 28), (some (24, true))⟩,
  ⟨(some 30), .pick (.t 24) (.t 29) (.k (.d (.bool false))), none⟩,
  ⟨(some 31), .mov (.t 30), none⟩,
  ⟨(some 32), .faddr 4 (.t 2), (some (31, true))⟩,
  ⟨(some 33), .load none (.t 32), (some (31, true))⟩,
  ⟨(some 34), .faddr 4 (.t 3), (some (31, true))⟩,
  ⟨(some 35), .load none (.t 34), (some (31, true))⟩,
  ⟨(some 36), .bin .eql (.t 33) (.t 35), (some (31, true))⟩,
  ⟨(some 37), .pick (.t 31) (.t 36) (.k (.d (.bool false))), none⟩,
  ⟨(some 38), .mov (.t 37), none⟩,
  ⟨(some 39), .faddr 5 (.t 2), (some (38, true))⟩,
  ⟨(some 40), .load none (.t 39), (some (38, true))⟩,
  ⟨(some 41), .faddr 5 (.t 3), (some (38, true))⟩,
  ⟨(some 42), .load none (.t 41), (some (38, true))⟩,
  ⟨(some 43), .bin .eql (.t 40) (.t 42), (some (38, true))⟩,
  ⟨(some 44), .pick (.t 38) (.t 43) (.k (.d (.bool false))), none⟩,
  ⟨(some 45), .mov (.t 44), none⟩,
  ⟨(some 46), .faddr 6 (.t 2), (some (45, true))⟩,
  ⟨(some 47), .load none (.t 46), (some (45, true))⟩,
  ⟨(some 48), .faddr 6 (.t 3), (some (45, true))⟩,
  ⟨(some 49), .load none (.t 48), (some (45, true))⟩,
  ⟨(some 50), .bin .eql (.t 47) (.t 49), (some (45, true))⟩,
  ⟨(some 51), .pick (.t 45) (.t 50) (.k (.d (.bool false))), none⟩,
  ⟨(some 52), .mov (.t 51), none⟩,
  ⟨(some 53), .faddr 7 (.t 2), (some (52, true))⟩,
  ⟨(some 54), .load none (.t 53), (some (52, true))⟩,
  ⟨(some 55), .faddr 7 (.t 3), (some (52, true))⟩,
  ⟨(some 56), .load none (.t 55), (some (52, true))⟩,
  ⟨(some 57), .call (.k (.d (.func (.func 73) [] []))) [(.t 54), (.t 56)], (some (52, true))⟩,
  ⟨(some 58), .pick (.t 52) (.t 57) (.k (.d (.bool false))), none⟩,
  ⟨(some 59), .mov (.t 58), none⟩,
  ⟨(some 60), .faddr 8 (.t 2), (some (59, true))⟩,
  ⟨(some 61), .load none (.t 60), (some (59, true))⟩,
  ⟨(some 62), .faddr 8 (.t 3), (some (59, true))⟩,
  ⟨(some 63), .load none (.t 62), (some (59, true))⟩,
  ⟨(some 64), .call (.k (.d (.func (.func 74) [] []))) [(.t 61), (.t 63)], (some (59, true))⟩,
  ⟨(some 65), .pick (.t 59) (.t 64) (.k (.d (.bool false))), none⟩,
  ⟨(some 4), .mov (.t 65), none⟩]
noncomputable def s_packet_Equal : SCode := (.seq (.region s_packet_Equal_r0 2 []) (.seq (.region s_packet_Equal_r1 0 []) .ret))
theorem e_packet_Equal {P : Program} {k0 : Nat} {Q : SExit → St → Prop} {st : St} : AWp P k0 s_packet_Equal Q st = AWp P k0 (.seq (.region s_packet_Equal_r0 2 []) (.seq (.region s_packet_Equal_r1 0 []) .ret)) Q st := rfl
theorem u_packet_Equal_r0 {P : Program} {o : Nat} {p : List (Nat × Nat)} {Q : SExit → St → Prop} {st : St} : goReg P s_packet_Equal_r0 o p Q st = goLit P (litOf s_packet_Equal_r0.eq_1) o p Q st := goReg_of _
theorem u_packet_Equal_r1 {P : Program} {o : Nat} {p : List (Nat × Nat)} {Q : SExit → St → Prop} {st : St} : goReg P s_packet_Equal_r1 o p Q st = goLit P (litOf s_packet_Equal_r1.eq_1) o p Q st := goReg_of _
attribute [go_sem] u_packet_Equal_r0 u_packet_Equal_r1 e_packet_Equal
set_option maxRecDepth 100000 in
theorem c_packet_Equal : Try.f36.body.bind (compCode Try.prog Try.f36.ntmps news) = some s_packet_Equal := by kernel_rfl
theorem r_packet_Equal : Try.f36.results.toList.mapM (compRes Try.prog) = some [(.tmp 4)] := by kernel_rfl
theorem n_packet_Equal : Try.f36.ntmps = 66 := by kernel_rfl
theorem b_packet_Equal : (Try.prog.funcs[36]?).any (fun fn => fn.body.isSome && !(fn.name == "runtime.NumGoroutine")) = true := by kernel_rfl
theorem ko_packet_Equal {args : List ASlot} {r : ASlot} {objs objs' : List AObj} (h : AWp Try.prog objs.length s_packet_Equal (bodyQ objs.length [(.tmp 4)] [r] objs') (entrySt args objs)) (hN : args.length ≤ 66 := by simp) (hw : ltB 16 (toksOf args ++ osToks objs) = true := by rfl) : ACall Try.prog 36 args objs r objs' :=
  acall_go (rs := [r]) follows Try.func36 c_packet_Equal r_packet_Equal h (by rw [n_packet_Equal]; exact hN) rfl hw
theorem k_packet_Equal {args : List ASlot} {r : ASlot} (h : AWp Try.prog 0 s_packet_Equal (bodyQ 0 [(.tmp 4)] [r] []) (entrySt args [])) (hN : args.length ≤ 66 := by simp) (hw : ltB 16 (toksOf args ++ osToks []) = true := by rfl) : ACall Try.prog 36 args [] r [] := ko_packet_Equal h hN hw



def Seq {α : Type} (es : Nat) (enc : α → List D) (l m : List α) (i : { i : Nat // l.take i = m.take i }) : St :=
  ⟨[(0, true, .d (.sl es (l.map enc))), (1, true, .d (.sl es (m.map enc))), (12, true, .d (.int .i64 l.length)), (13, true, .d (.int .i64 (i.val : Nat)))], [], [], 1⟩

theorem eqV_ok (l m : List AV) (hl : l.length ≤ maxLen) :
    ACall Try.prog 73 [.d (.sl 3 (l.map encAV)), .d (.sl 3 (m.map encAV))] [] (.d (.bool (decide (l = m)))) [] := by
  refine k_slices_Equal___api_Value_api_Value_ ?_
  simp only [e_slices_Equal___api_Value_api_Value_, go_sem, Nat.reduceAdd, Nat.reduceMul, Nat.reduceSub, Nat.reduceEqDiff, Nat.reduceLT, Nat.reduceLeDiff, Nat.reduceBEq, reduceIte, reduceCtorEq, Int.reduceAdd, Int.reduceLT, Int.reduceLE, Int.reduceGT, Int.reduceGE, Int.reduceEq, Int.reduceNe, Int.reduceBEq, Int.reduceBNe, Int.reduceToNat, Int.reduceNeg]
  refine AWp_cond _ rfl rfl (fun h => ?_) (fun h => ?_)
  · have hne : decide (l = m) = false := by rw [decide_eq_false_iff_not]; rintro rfl; simp at h
    simp only [hne, go_sem, Nat.reduceAdd, Nat.reduceMul, Nat.reduceSub, Nat.reduceEqDiff, Nat.reduceLT, Nat.reduceLeDiff, Nat.reduceBEq, reduceIte, reduceCtorEq, Int.reduceAdd, Int.reduceLT, Int.reduceLE, Int.reduceGT, Int.reduceGE, Int.reduceEq, Int.reduceNe, Int.reduceBEq, Int.reduceBNe, Int.reduceToNat, Int.reduceNeg]
  · have hlm : l.length = m.length := by simp at h; omega
    simp only [go_sem, Nat.reduceAdd, Nat.reduceMul, Nat.reduceSub, Nat.reduceEqDiff, Nat.reduceLT, Nat.reduceLeDiff, Nat.reduceBEq, reduceIte, reduceCtorEq, Int.reduceAdd, Int.reduceLT, Int.reduceLE, Int.reduceGT, Int.reduceGE, Int.reduceEq, Int.reduceNe, Int.reduceBEq, Int.reduceBNe, Int.reduceToNat, Int.reduceNeg]
    refine AWp_loop (Seq 3 encAV l m) (fun i => l.length - i.val) ⟨0, rfl⟩ ?_ (fun i => ?_)
    · simp only [Seq, noPtrR_map encAV_noPtr, go_sem, Nat.reduceAdd, Nat.reduceMul, Nat.reduceSub, Nat.reduceEqDiff, Nat.reduceLT, Nat.reduceLeDiff, Nat.reduceBEq, reduceIte, reduceCtorEq, Int.reduceAdd, Int.reduceLT, Int.reduceLE, Int.reduceGT, Int.reduceGE, Int.reduceEq, Int.reduceNe, Int.reduceBEq, Int.reduceBNe, Int.reduceToNat, Int.reduceNeg]
    · obtain ⟨i, hi⟩ := i
      simp only [Seq, go_sem, Nat.reduceAdd, Nat.reduceMul, Nat.reduceSub, Nat.reduceEqDiff, Nat.reduceLT, Nat.reduceLeDiff, Nat.reduceBEq, reduceIte, reduceCtorEq, Int.reduceAdd, Int.reduceLT, Int.reduceLE, Int.reduceGT, Int.reduceGE, Int.reduceEq, Int.reduceNe, Int.reduceBEq, Int.reduceBNe, Int.reduceToNat, Int.reduceNeg]
      refine AWp_cond _ rfl rfl (fun h => ?_) (fun h => ?_)
      · have hil : i < l.length := by simpa using h
        have him : i < m.length := by omega
        simp only [getD_map encAV l hil, getD_map encAV m him, encAV, beq_AV, go_sem, Nat.reduceAdd, Nat.reduceMul, Nat.reduceSub, Nat.reduceEqDiff, Nat.reduceLT, Nat.reduceLeDiff, Nat.reduceBEq, reduceIte, reduceCtorEq, Int.reduceAdd, Int.reduceLT, Int.reduceLE, Int.reduceGT, Int.reduceGE, Int.reduceEq, Int.reduceNe, Int.reduceBEq, Int.reduceBNe, Int.reduceToNat, Int.reduceNeg]
        refine ⟨by omega, by omega, ?_⟩
        refine AWp_cond _ rfl rfl (fun h2 => ?_) (fun h2 => ?_)
        · have hne : l[i] ≠ m[i] := by simpa using h2
          simp only [eq_ne hil him hne, go_sem, Nat.reduceAdd, Nat.reduceMul, Nat.reduceSub, Nat.reduceEqDiff, Nat.reduceLT, Nat.reduceLeDiff, Nat.reduceBEq, reduceIte, reduceCtorEq, Int.reduceAdd, Int.reduceLT, Int.reduceLE, Int.reduceGT, Int.reduceGE, Int.reduceEq, Int.reduceNe, Int.reduceBEq, Int.reduceBNe, Int.reduceToNat, Int.reduceNeg]
        · have he : l[i] = m[i] := by simpa using h2
          simp only [go_sem, Nat.reduceAdd, Nat.reduceMul, Nat.reduceSub, Nat.reduceEqDiff, Nat.reduceLT, Nat.reduceLeDiff, Nat.reduceBEq, reduceIte, reduceCtorEq, Int.reduceAdd, Int.reduceLT, Int.reduceLE, Int.reduceGT, Int.reduceGE, Int.reduceEq, Int.reduceNe, Int.reduceBEq, Int.reduceBNe, Int.reduceToNat, Int.reduceNeg]
          refine ⟨⟨i + 1, take_eq_succ hi hil him he⟩, ?_, by dsimp only; omega⟩
          simp only [Seq, wrap_succ (show i < 9223372036854775807 by unfold maxLen at hl; omega), noPtrR_map encAV_noPtr, go_sem, Nat.reduceAdd, Nat.reduceMul, Nat.reduceSub, Nat.reduceEqDiff, Nat.reduceLT, Nat.reduceLeDiff, Nat.reduceBEq, reduceIte, reduceCtorEq, Int.reduceAdd, Int.reduceLT, Int.reduceLE, Int.reduceGT, Int.reduceGE, Int.reduceEq, Int.reduceNe, Int.reduceBEq, Int.reduceBNe, Int.reduceToNat, Int.reduceNeg]
      · have he : decide (l = m) = true := by
          have : l.length ≤ i := by simpa using h
          rw [List.take_of_length_le this, List.take_of_length_le (by omega)] at hi
          simp [hi]
        simp only [he, go_sem, Nat.reduceAdd, Nat.reduceMul, Nat.reduceSub, Nat.reduceEqDiff, Nat.reduceLT, Nat.reduceLeDiff, Nat.reduceBEq, reduceIte, reduceCtorEq, Int.reduceAdd, Int.reduceLT, Int.reduceLE, Int.reduceGT, Int.reduceGE, Int.reduceEq, Int.reduceNe, Int.reduceBEq, Int.reduceBNe, Int.reduceToNat, Int.reduceNeg]

theorem cloneV_ok (l : List AV) (hl : l.length ≤ 1000000) :
    ACall Try.prog 97 [.d (.sl 3 (l.map encAV))] [] (.d (.sl 3 (l.map encAV))) [] := by
  refine k_slices_Clone___api_Value_api_Value_ ?_
  simp only [e_slices_Clone___api_Value_api_Value_, go_sem, Nat.reduceAdd, Nat.reduceMul, Nat.reduceSub, Nat.reduceEqDiff, Nat.reduceLT, Nat.reduceLeDiff, Nat.reduceBEq, reduceIte, reduceCtorEq, Int.reduceAdd, Int.reduceLT, Int.reduceLE, Int.reduceGT, Int.reduceGE, Int.reduceEq, Int.reduceNe, Int.reduceBEq, Int.reduceBNe, Int.reduceToNat, Int.reduceNeg]
  refine nilO_of rfl rfl (fun b hb => ?_)
  try simp only [go_sem, Nat.reduceAdd, Nat.reduceMul, Nat.reduceSub, Nat.reduceEqDiff, Nat.reduceLT, Nat.reduceLeDiff, Nat.reduceBEq, reduceIte, reduceCtorEq, Int.reduceAdd, Int.reduceLT, Int.reduceLE, Int.reduceGT, Int.reduceGE, Int.reduceEq, Int.reduceNe, Int.reduceBEq, Int.reduceBNe, Int.reduceToNat, Int.reduceNeg]
  refine AWp_cond _ rfl rfl (fun h => ?_) (fun h => ?_)
  · try simp only [hb h, go_sem, Nat.reduceAdd, Nat.reduceMul, Nat.reduceSub, Nat.reduceEqDiff, Nat.reduceLT, Nat.reduceLeDiff, Nat.reduceBEq, reduceIte, reduceCtorEq, Int.reduceAdd, Int.reduceLT, Int.reduceLE, Int.reduceGT, Int.reduceGE, Int.reduceEq, Int.reduceNe, Int.reduceBEq, Int.reduceBNe, Int.reduceToNat, Int.reduceNeg]
  · try simp only [go_sem, Nat.reduceAdd, Nat.reduceMul, Nat.reduceSub, Nat.reduceEqDiff, Nat.reduceLT, Nat.reduceLeDiff, Nat.reduceBEq, reduceIte, reduceCtorEq, Int.reduceAdd, Int.reduceLT, Int.reduceLE, Int.reduceGT, Int.reduceGE, Int.reduceEq, Int.reduceNe, Int.reduceBEq, Int.reduceBNe, Int.reduceToNat, Int.reduceNeg]
    omega

theorem cloneI_ok (l : List Int) (hl : l.length ≤ 1000000) :
    ACall Try.prog 98 [.d (.sl 1 (l.map encI))] [] (.d (.sl 1 (l.map encI))) [] := by
  refine k_slices_Clone___int_int_ ?_
  simp only [e_slices_Clone___int_int_, go_sem, Nat.reduceAdd, Nat.reduceMul, Nat.reduceSub, Nat.reduceEqDiff, Nat.reduceLT, Nat.reduceLeDiff, Nat.reduceBEq, reduceIte, reduceCtorEq, Int.reduceAdd, Int.reduceLT, Int.reduceLE, Int.reduceGT, Int.reduceGE, Int.reduceEq, Int.reduceNe, Int.reduceBEq, Int.reduceBNe, Int.reduceToNat, Int.reduceNeg]
  refine nilO_of rfl rfl (fun b hb => ?_)
  try simp only [go_sem, Nat.reduceAdd, Nat.reduceMul, Nat.reduceSub, Nat.reduceEqDiff, Nat.reduceLT, Nat.reduceLeDiff, Nat.reduceBEq, reduceIte, reduceCtorEq, Int.reduceAdd, Int.reduceLT, Int.reduceLE, Int.reduceGT, Int.reduceGE, Int.reduceEq, Int.reduceNe, Int.reduceBEq, Int.reduceBNe, Int.reduceToNat, Int.reduceNeg]
  refine AWp_cond _ rfl rfl (fun h => ?_) (fun h => ?_)
  · try simp only [hb h, go_sem, Nat.reduceAdd, Nat.reduceMul, Nat.reduceSub, Nat.reduceEqDiff, Nat.reduceLT, Nat.reduceLeDiff, Nat.reduceBEq, reduceIte, reduceCtorEq, Int.reduceAdd, Int.reduceLT, Int.reduceLE, Int.reduceGT, Int.reduceGE, Int.reduceEq, Int.reduceNe, Int.reduceBEq, Int.reduceBNe, Int.reduceToNat, Int.reduceNeg]
  · try simp only [go_sem, Nat.reduceAdd, Nat.reduceMul, Nat.reduceSub, Nat.reduceEqDiff, Nat.reduceLT, Nat.reduceLeDiff, Nat.reduceBEq, reduceIte, reduceCtorEq, Int.reduceAdd, Int.reduceLT, Int.reduceLE, Int.reduceGT, Int.reduceGE, Int.reduceEq, Int.reduceNe, Int.reduceBEq, Int.reduceBNe, Int.reduceToNat, Int.reduceNeg]
    omega

theorem eqI_ok (l m : List Int) (hl : l.length ≤ maxLen) :
    ACall Try.prog 74 [.d (.sl 1 (l.map encI)), .d (.sl 1 (m.map encI))] [] (.d (.bool (decide (l = m)))) [] := by
  refine k_slices_Equal___int_int_ ?_
  simp only [e_slices_Equal___int_int_, go_sem, Nat.reduceAdd, Nat.reduceMul, Nat.reduceSub, Nat.reduceEqDiff, Nat.reduceLT, Nat.reduceLeDiff, Nat.reduceBEq, reduceIte, reduceCtorEq, Int.reduceAdd, Int.reduceLT, Int.reduceLE, Int.reduceGT, Int.reduceGE, Int.reduceEq, Int.reduceNe, Int.reduceBEq, Int.reduceBNe, Int.reduceToNat, Int.reduceNeg]
  refine AWp_cond _ rfl rfl (fun h => ?_) (fun h => ?_)
  · have hne : decide (l = m) = false := by rw [decide_eq_false_iff_not]; rintro rfl; simp at h
    try simp only [hne, go_sem, Nat.reduceAdd, Nat.reduceMul, Nat.reduceSub, Nat.reduceEqDiff, Nat.reduceLT, Nat.reduceLeDiff, Nat.reduceBEq, reduceIte, reduceCtorEq, Int.reduceAdd, Int.reduceLT, Int.reduceLE, Int.reduceGT, Int.reduceGE, Int.reduceEq, Int.reduceNe, Int.reduceBEq, Int.reduceBNe, Int.reduceToNat, Int.reduceNeg]
  · have hlm : l.length = m.length := by simp at h; omega
    try simp only [go_sem, Nat.reduceAdd, Nat.reduceMul, Nat.reduceSub, Nat.reduceEqDiff, Nat.reduceLT, Nat.reduceLeDiff, Nat.reduceBEq, reduceIte, reduceCtorEq, Int.reduceAdd, Int.reduceLT, Int.reduceLE, Int.reduceGT, Int.reduceGE, Int.reduceEq, Int.reduceNe, Int.reduceBEq, Int.reduceBNe, Int.reduceToNat, Int.reduceNeg]
    refine AWp_loop (Seq 1 encI l m) (fun i => l.length - i.val) ⟨0, rfl⟩ ?_ (fun i => ?_)
    · try simp only [Seq, go_sem, Nat.reduceAdd, Nat.reduceMul, Nat.reduceSub, Nat.reduceEqDiff, Nat.reduceLT, Nat.reduceLeDiff, Nat.reduceBEq, reduceIte, reduceCtorEq, Int.reduceAdd, Int.reduceLT, Int.reduceLE, Int.reduceGT, Int.reduceGE, Int.reduceEq, Int.reduceNe, Int.reduceBEq, Int.reduceBNe, Int.reduceToNat, Int.reduceNeg]
    · obtain ⟨i, hi⟩ := i
      try simp only [Seq, go_sem, Nat.reduceAdd, Nat.reduceMul, Nat.reduceSub, Nat.reduceEqDiff, Nat.reduceLT, Nat.reduceLeDiff, Nat.reduceBEq, reduceIte, reduceCtorEq, Int.reduceAdd, Int.reduceLT, Int.reduceLE, Int.reduceGT, Int.reduceGE, Int.reduceEq, Int.reduceNe, Int.reduceBEq, Int.reduceBNe, Int.reduceToNat, Int.reduceNeg]
      refine AWp_cond _ rfl rfl (fun h => ?_) (fun h => ?_)
      · have hil : i < l.length := by simpa using h
        have him : i < m.length := by omega
        try simp only [getD_map encI l hil, getD_map encI m him, encI, go_sem, Nat.reduceAdd, Nat.reduceMul, Nat.reduceSub, Nat.reduceEqDiff, Nat.reduceLT, Nat.reduceLeDiff, Nat.reduceBEq, reduceIte, reduceCtorEq, Int.reduceAdd, Int.reduceLT, Int.reduceLE, Int.reduceGT, Int.reduceGE, Int.reduceEq, Int.reduceNe, Int.reduceBEq, Int.reduceBNe, Int.reduceToNat, Int.reduceNeg]
        refine ⟨by omega, by omega, ?_⟩
        refine AWp_cond _ rfl rfl (fun h2 => ?_) (fun h2 => ?_)
        · have hne : l[i] ≠ m[i] := by simpa using h2
          try simp only [eq_ne hil him hne, go_sem, Nat.reduceAdd, Nat.reduceMul, Nat.reduceSub, Nat.reduceEqDiff, Nat.reduceLT, Nat.reduceLeDiff, Nat.reduceBEq, reduceIte, reduceCtorEq, Int.reduceAdd, Int.reduceLT, Int.reduceLE, Int.reduceGT, Int.reduceGE, Int.reduceEq, Int.reduceNe, Int.reduceBEq, Int.reduceBNe, Int.reduceToNat, Int.reduceNeg]
        · have he : l[i] = m[i] := by simpa using h2
          try simp only [go_sem, Nat.reduceAdd, Nat.reduceMul, Nat.reduceSub, Nat.reduceEqDiff, Nat.reduceLT, Nat.reduceLeDiff, Nat.reduceBEq, reduceIte, reduceCtorEq, Int.reduceAdd, Int.reduceLT, Int.reduceLE, Int.reduceGT, Int.reduceGE, Int.reduceEq, Int.reduceNe, Int.reduceBEq, Int.reduceBNe, Int.reduceToNat, Int.reduceNeg]
          refine ⟨⟨i + 1, take_eq_succ hi hil him he⟩, ?_, by dsimp only; omega⟩
          try simp only [Seq, wrap_succ (show i < 9223372036854775807 by unfold maxLen at hl; omega), go_sem, Nat.reduceAdd, Nat.reduceMul, Nat.reduceSub, Nat.reduceEqDiff, Nat.reduceLT, Nat.reduceLeDiff, Nat.reduceBEq, reduceIte, reduceCtorEq, Int.reduceAdd, Int.reduceLT, Int.reduceLE, Int.reduceGT, Int.reduceGE, Int.reduceEq, Int.reduceNe, Int.reduceBEq, Int.reduceBNe, Int.reduceToNat, Int.reduceNeg]
      · have he : decide (l = m) = true := by
          have : l.length ≤ i := by simpa using h
          rw [List.take_of_length_le this, List.take_of_length_le (by omega)] at hi
          simp [hi]
        try simp only [he, go_sem, Nat.reduceAdd, Nat.reduceMul, Nat.reduceSub, Nat.reduceEqDiff, Nat.reduceLT, Nat.reduceLeDiff, Nat.reduceBEq, reduceIte, reduceCtorEq, Int.reduceAdd, Int.reduceLT, Int.reduceLE, Int.reduceGT, Int.reduceGE, Int.reduceEq, Int.reduceNe, Int.reduceBEq, Int.reduceBNe, Int.reduceToNat, Int.reduceNeg]

theorem beq_Pk (p q : Pk) : (p.kind == q.kind && p.sess == q.sess && p.epoch == q.epoch && p.from_ == q.from_ && p.to == q.to && p.seq == q.seq && p.label == q.label && decide (p.values = q.values) && decide (p.clock = q.clock)) = decide (p = q) := by
  obtain ⟨a1, a2, a3, a4, a5, a6, a7, a8, a9⟩ := p
  obtain ⟨b1, b2, b3, b4, b5, b6, b7, b8, b9⟩ := q
  rw [Bool.eq_iff_iff]
  simp [and_assoc]

set_option maxRecDepth 10000 in
theorem pkEqual_ok (p q : Pk) (h1 : p.values.length ≤ maxLen) (h2 : p.clock.length ≤ maxLen) :
    ACall Try.prog 36 [.d (.agg (encPk p)), .d (.agg (encPk q))] [] (.d (.bool (decide (p = q)))) [] := by
  refine k_packet_Equal ?_
  simp only [e_packet_Equal, encPk, go_sem, Nat.reduceAdd, Nat.reduceMul, Nat.reduceSub, Nat.reduceEqDiff, Nat.reduceLT, Nat.reduceLeDiff, Nat.reduceBEq, reduceIte, reduceCtorEq, Int.reduceAdd, Int.reduceLT, Int.reduceLE, Int.reduceGT, Int.reduceGE, Int.reduceEq, Int.reduceNe, Int.reduceBEq, Int.reduceBNe, Int.reduceToNat, Int.reduceNeg]
  (repeat (with_reducible refine And.intro (by first | omega | (simp_all; done) | grind) ?_)); refine callO_pure (eqV_ok p.values q.values h1) b_slices_Equal___api_Value_api_Value_ (fun h => by first | exact h | (simp only [h, Bool.and_self, Bool.and_true])) (fun _ => by first | exact ⟨matchA_refl, trivial⟩ | exact ⟨matchA_refl, matchA_refl, trivial⟩ | exact ⟨matchA_refl, matchA_refl, matchA_refl, trivial⟩ | simp only [go_sem, Nat.reduceAdd, Nat.reduceMul, Nat.reduceSub, Nat.reduceEqDiff, Nat.reduceLT, Nat.reduceLeDiff, Nat.reduceBEq, reduceIte, reduceCtorEq, Int.reduceAdd, Int.reduceLT, Int.reduceLE, Int.reduceGT, Int.reduceGE, Int.reduceEq, Int.reduceNe, Int.reduceBEq, Int.reduceBNe, Int.reduceToNat, Int.reduceNeg]) (by simp only [go_sem, Nat.reduceAdd, Nat.reduceMul, Nat.reduceSub, Nat.reduceEqDiff, Nat.reduceLT, Nat.reduceLeDiff, Nat.reduceBEq, reduceIte, reduceCtorEq, Int.reduceAdd, Int.reduceLT, Int.reduceLE, Int.reduceGT, Int.reduceGE, Int.reduceEq, Int.reduceNe, Int.reduceBEq, Int.reduceBNe, Int.reduceToNat, Int.reduceNeg]) rfl rfl ?_
  try simp only [go_sem, Nat.reduceAdd, Nat.reduceMul, Nat.reduceSub, Nat.reduceEqDiff, Nat.reduceLT, Nat.reduceLeDiff, Nat.reduceBEq, reduceIte, reduceCtorEq, Int.reduceAdd, Int.reduceLT, Int.reduceLE, Int.reduceGT, Int.reduceGE, Int.reduceEq, Int.reduceNe, Int.reduceBEq, Int.reduceBNe, Int.reduceToNat, Int.reduceNeg]
  (repeat (with_reducible refine And.intro (by first | omega | (simp_all; done) | grind) ?_)); refine callO_pure (eqI_ok p.clock q.clock h2) b_slices_Equal___int_int_ (fun h => by first | exact h | (simp only [h, Bool.and_self, Bool.and_true])) (fun _ => by first | exact ⟨matchA_refl, trivial⟩ | exact ⟨matchA_refl, matchA_refl, trivial⟩ | exact ⟨matchA_refl, matchA_refl, matchA_refl, trivial⟩ | simp only [go_sem, Nat.reduceAdd, Nat.reduceMul, Nat.reduceSub, Nat.reduceEqDiff, Nat.reduceLT, Nat.reduceLeDiff, Nat.reduceBEq, reduceIte, reduceCtorEq, Int.reduceAdd, Int.reduceLT, Int.reduceLE, Int.reduceGT, Int.reduceGE, Int.reduceEq, Int.reduceNe, Int.reduceBEq, Int.reduceBNe, Int.reduceToNat, Int.reduceNeg]) (by simp only [go_sem, Nat.reduceAdd, Nat.reduceMul, Nat.reduceSub, Nat.reduceEqDiff, Nat.reduceLT, Nat.reduceLeDiff, Nat.reduceBEq, reduceIte, reduceCtorEq, Int.reduceAdd, Int.reduceLT, Int.reduceLE, Int.reduceGT, Int.reduceGE, Int.reduceEq, Int.reduceNe, Int.reduceBEq, Int.reduceBNe, Int.reduceToNat, Int.reduceNeg]) rfl rfl ?_
  try simp only [beq_Pk, go_sem, Nat.reduceAdd, Nat.reduceMul, Nat.reduceSub, Nat.reduceEqDiff, Nat.reduceLT, Nat.reduceLeDiff, Nat.reduceBEq, reduceIte, reduceCtorEq, Int.reduceAdd, Int.reduceLT, Int.reduceLE, Int.reduceGT, Int.reduceGE, Int.reduceEq, Int.reduceNe, Int.reduceBEq, Int.reduceBNe, Int.reduceToNat, Int.reduceNeg]
end Go.Proofs.Ythcpckcgjplhiaa
