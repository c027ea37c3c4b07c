/- Queues: what the functions of package queue answer. -/
import Derived.Test.YthcpckcgjplhiaaCc
namespace Go.Proofs.Ythcpckcgjplhiaa
open Go.Abs
set_option linter.unusedSimpArgs false
-- ENC encPk encQ

/-- All numbers below n pass. -/
def allTo (g : Nat → Bool) (n : Nat) : Bool := (List.range n).all g
theorem allTo_succ (g : Nat → Bool) (n : Nat) : allTo g (n + 1) = (allTo g n && g n) := by simp [allTo, List.range_succ]
theorem allTo_step {g : Nat → Bool} {n : Nat} (h : allTo g n = true) (hg : g n = true) : allTo g (n + 1) = true := by rw [allTo_succ, h, hg]; rfl
theorem allTo_no {g : Nat → Bool} {i n : Nat} (hi : i < n) (hg : g i = false) : allTo g n = false := by
  simp only [allTo, List.all_eq_false]
  exact ⟨i, by simpa using hi, by simp [hg]⟩
theorem allTo_iff {g : Nat → Bool} {n : Nat} : allTo g n = true ↔ ∀ i, i < n → g i = true := by simp [allTo]

structure Qu where
  acc : Int
  cons : Int
  items : List Pk
  deriving DecidableEq, Inhabited

def encQ (q : Qu) : List D := [.int .i64 q.acc, .int .i64 q.cons, .sl 9 (q.items.map encPk)]
theorem encQ_noPtr (q : Qu) : D.noPtrL (encQ q) = true := by simp only [encQ, go_sem, Nat.reduceAdd, Nat.reduceMul, Nat.reduceSub, Nat.reduceEqDiff, Nat.reduceLT, Nat.reduceLeDiff, Nat.reduceBEq, reduceIte, reduceCtorEq, Int.reduceAdd, Int.reduceLT, Int.reduceLE, Int.reduceGT, Int.reduceGE, Int.reduceEq, Int.reduceNe, Int.reduceBEq, Int.reduceBNe, Int.reduceToNat, Int.reduceNeg]
attribute [go_sem] encQ_noPtr

/-- Few values. -/
def Pk.Sm (p : Pk) : Prop := p.values.length ≤ 1000 ∧ p.clock.length ≤ 1000
def Qu.Sm (q : Qu) : Prop := q.items.length ≤ 1000 ∧ ∀ p ∈ q.items, p.Sm
theorem Pk.Sm.v {p : Pk} (h : p.Sm) : p.values.length ≤ maxLen := by have := h.1; unfold maxLen; omega
theorem Pk.Sm.c {p : Pk} (h : p.Sm) : p.clock.length ≤ maxLen := by have := h.2; unfold maxLen; omega

noncomputable def s_queue_message_r0 : List SOper := [
  ⟨(some 1), .box 1 (.t 0), none⟩,
  ⟨(some 2), .mov (.k (.d (.bool false))), none⟩]
noncomputable def s_queue_message_r1 : List SOper := [
  ⟨(some 3), .faddr 0 (.t 1), none⟩,
  ⟨(some 4), .load none (.t 3), none⟩,
  ⟨(some 5), .bin .eql (.t 4) (.k (.d (.int .i64 1))), none⟩,
  ⟨(some 6), .mov (.t 5), none⟩,
  ⟨(some 7), .load (some 9) (.t 1), (some (6, true))⟩,
  ⟨(some 8), .call (.k (.d (.func (.func 47) [] []))) [(.t 7)], (some (6, true))⟩,
  ⟨(some 9), .pick (.t 6) (.t 8) (.k (.d (.bool false))), none⟩,
  ⟨(some 2), .mov (.t 9), none⟩]
noncomputable def s_queue_message : SCode := (.seq (.region s_queue_message_r0 1 []) (.seq (.region s_queue_message_r1 0 []) .ret))
theorem e_queue_message {P : Program} {k0 : Nat} {Q : SExit → St → Prop} {st : St} : AWp P k0 s_queue_message Q st = AWp P k0 (.seq (.region s_queue_message_r0 1 []) (.seq (.region s_queue_message_r1 0 []) .ret)) Q st := rfl
theorem u_queue_message_r0 {P : Program} {o : Nat} {p : List (Nat × Nat)} {Q : SExit → St → Prop} {st : St} : goReg P s_queue_message_r0 o p Q st = goLit P (litOf s_queue_message_r0.eq_1) o p Q st := goReg_of _
theorem u_queue_message_r1 {P : Program} {o : Nat} {p : List (Nat × Nat)} {Q : SExit → St → Prop} {st : St} : goReg P s_queue_message_r1 o p Q st = goLit P (litOf s_queue_message_r1.eq_1) o p Q st := goReg_of _
attribute [go_sem] u_queue_message_r0 u_queue_message_r1 e_queue_message
set_option maxRecDepth 100000 in
theorem c_queue_message : Try.f70.body.bind (compCode Try.prog Try.f70.ntmps news) = some s_queue_message := by kernel_rfl
theorem r_queue_message : Try.f70.results.toList.mapM (compRes Try.prog) = some [(.tmp 2)] := by kernel_rfl
theorem n_queue_message : Try.f70.ntmps = 10 := by kernel_rfl
theorem b_queue_message : (Try.prog.funcs[70]?).any (fun fn => fn.body.isSome && !(fn.name == "runtime.NumGoroutine")) = true := by kernel_rfl
theorem ko_queue_message {args : List ASlot} {r : ASlot} {objs objs' : List AObj} (h : AWp Try.prog objs.length s_queue_message (bodyQ objs.length [(.tmp 2)] [r] objs') (entrySt args objs)) (hN : args.length ≤ 10 := by simp) (hw : ltB 16 (toksOf args ++ osToks objs) = true := by rfl) : ACall Try.prog 70 args objs r objs' :=
  acall_go (rs := [r]) follows Try.func70 c_queue_message r_queue_message h (by rw [n_queue_message]; exact hN) rfl hw
theorem k_queue_message {args : List ASlot} {r : ASlot} (h : AWp Try.prog 0 s_queue_message (bodyQ 0 [(.tmp 2)] [r] []) (entrySt args [])) (hN : args.length ≤ 10 := by simp) (hw : ltB 16 (toksOf args ++ osToks []) = true := by rfl) : ACall Try.prog 70 args [] r [] := ko_queue_message h hN hw

noncomputable def s_queue_alike_r0 : List SOper := [
  ⟨(some 2), .box 2 (.t 0), none⟩,
  ⟨(some 3), .box 1 (.t 1), none⟩,
  ⟨(some 4), .mov (.k (.d (.bool false))), none⟩]
noncomputable def s_queue_alike_r1 : List SOper := [
  ⟨(some 5), .faddr 1 (.t 2), none⟩,
  ⟨(some 6), .load none (.t 5), none⟩,
  ⟨(some 7), .faddr 1 (.t 3), none⟩,
  ⟨(some 8), .load none (.t 7), none⟩,
  ⟨(some 9), .bin .eql (.t 6) (.t 8), none⟩,
  ⟨(some 10), .mov (.t 9), none⟩,
  ⟨(some 11), .faddr 3 (.t 2), (some (10, true))⟩,
  ⟨(some 12), .load none (.t 11), (some (10, true))⟩,
  ⟨(some 13), .faddr 3 (.t 3), (some (10, true))⟩,
  ⟨(some 14), .load none (.t 13), (some (10, true))⟩,
  ⟨(some 15), .bin .eql (.t 12) (.t 14), (some (10, true))⟩,
  ⟨(some 16), .pick (.t 10) (.t 15) (.k (.d (.bool false))), none⟩,
  ⟨(some 17), .mov (.t 16), none⟩,
  ⟨(some 18), .faddr 4 (.t 2), (some (17, true))⟩,
  ⟨(some 19), .load none (.t 18), (some (17, true))⟩,
  ⟨(some 20), .faddr 4 (.t 3), (some (17, true))⟩,
  ⟨(some 21), .load none (.t 20), (some (17, true))⟩,
  ⟨(some 22), .bin .eql (.t 19) (.t 21), (some (17, true))⟩,
  ⟨(some 23), .pick (.t 17) (.t 22) (.k (.d (.bool false))), none⟩,
  ⟨(some 4), .mov (.t 23), none⟩]
noncomputable def s_queue_alike : SCode := (.seq (.region s_queue_alike_r0 2 []) (.seq (.region s_queue_alike_r1 0 []) .ret))
theorem e_queue_alike {P : Program} {k0 : Nat} {Q : SExit → St → Prop} {st : St} : AWp P k0 s_queue_alike Q st = AWp P k0 (.seq (.region s_queue_alike_r0 2 []) (.seq (.region s_queue_alike_r1 0 []) .ret)) Q st := rfl
theorem u_queue_alike_r0 {P : Program} {o : Nat} {p : List (Nat × Nat)} {Q : SExit → St → Prop} {st : St} : goReg P s_queue_alike_r0 o p Q st = goLit P (litOf s_queue_alike_r0.eq_1) o p Q st := goReg_of _
theorem u_queue_alike_r1 {P : Program} {o : Nat} {p : List (Nat × Nat)} {Q : SExit → St → Prop} {st : St} : goReg P s_queue_alike_r1 o p Q st = goLit P (litOf s_queue_alike_r1.eq_1) o p Q st := goReg_of _
attribute [go_sem] u_queue_alike_r0 u_queue_alike_r1 e_queue_alike
set_option maxRecDepth 100000 in
theorem c_queue_alike : Try.f71.body.bind (compCode Try.prog Try.f71.ntmps news) = some s_queue_alike := by kernel_rfl
theorem r_queue_alike : Try.f71.results.toList.mapM (compRes Try.prog) = some [(.tmp 4)] := by kernel_rfl
theorem n_queue_alike : Try.f71.ntmps = 24 := by kernel_rfl
theorem b_queue_alike : (Try.prog.funcs[71]?).any (fun fn => fn.body.isSome && !(fn.name == "runtime.NumGoroutine")) = true := by kernel_rfl
theorem ko_queue_alike {args : List ASlot} {r : ASlot} {objs objs' : List AObj} (h : AWp Try.prog objs.length s_queue_alike (bodyQ objs.length [(.tmp 4)] [r] objs') (entrySt args objs)) (hN : args.length ≤ 24 := by simp) (hw : ltB 16 (toksOf args ++ osToks objs) = true := by rfl) : ACall Try.prog 71 args objs r objs' :=
  acall_go (rs := [r]) follows Try.func71 c_queue_alike r_queue_alike h (by rw [n_queue_alike]; exact hN) rfl hw
theorem k_queue_alike {args : List ASlot} {r : ASlot} (h : AWp Try.prog 0 s_queue_alike (bodyQ 0 [(.tmp 4)] [r] []) (entrySt args [])) (hN : args.length ≤ 24 := by simp) (hw : ltB 16 (toksOf args ++ osToks []) = true := by rfl) : ACall Try.prog 71 args [] r [] := ko_queue_alike h hN hw

noncomputable def s_queue_Valid_r0 : List SOper := [
  ⟨(some 1), .box 1 (.t 0), none⟩,
  ⟨(some 2), .mov (.k (.d (.bool false))), none⟩]
noncomputable def s_queue_Valid_r1 : List SOper := [
  ⟨(some 5), .faddr 2 (.t 1), none⟩,
  ⟨(some 6), .load none (.t 5), none⟩,
  ⟨(some 7), .len (.t 6), none⟩,
  ⟨(some 8), .mov (.k (.d (.int .i64 0))), none⟩]
noncomputable def s_queue_Valid_r2 : List SOper := [
  ⟨(some 9), .bin .lss (.t 8) (.t 7), none⟩]
noncomputable def s_queue_Valid_r3 : List SOper := [
  ⟨(some 10), .mov (.t 8), none⟩,
  ⟨(some 11), .iaddr 9 (.t 6) (.t 8), none⟩,
  ⟨(some 12), .load (some 9) (.t 11), none⟩,
  ⟨(some 4), .alloc 1 [(.d (.int .i64 0)), (.d (.int .i64 0)), (.d (.int .i64 0)), (.d (.int .i64 0)), (.d (.int .i64 0)), (.d (.int .i64 0)), (.d (.int .i64 0)), (.d .nilsl), (.d .nilsl)], none⟩,
  ⟨(some 3), .mov (.t 10), none⟩,
  ⟨none, .store (some 9) (.t 4) (.t 12), none⟩]
noncomputable def s_queue_Valid_r4 : List SOper := [
  ⟨(some 13), .load (some 9) (.t 4), none⟩,
  ⟨(some 14), .call (.k (.d (.func (.func 70) [] []))) [(.t 13)], none⟩,
  ⟨(some 15), .not (.t 14), none⟩,
  ⟨(some 16), .mov (.t 15), none⟩,
  ⟨(some 17), .load (some 9) (.t 4), (some (16, false))⟩,
  ⟨(some 18), .faddr 2 (.t 1), (some (16, false))⟩,
  ⟨(some 19), .load none (.t 18), (some (16, false))⟩,
  ⟨(some 20), .iaddr 9 (.t 19) (.k (.d (.int .i64 0))), (some (16, false))⟩,
  ⟨(some 21), .load (some 9) (.t 20), (some (16, false))⟩,
  ⟨(some 22), .call (.k (.d (.func (.func 71) [] []))) [(.t 17), (.t 21)], (some (16, false))⟩,
  ⟨(some 23), .not (.t 22), (some (16, false))⟩,
  ⟨(some 24), .pick (.t 16) (.k (.d (.bool true))) (.t 23), none⟩,
  ⟨(some 25), .mov (.t 24), none⟩,
  ⟨(some 26), .faddr 5 (.t 4), (some (25, false))⟩,
  ⟨(some 27), .load none (.t 26), (some (25, false))⟩,
  ⟨(some 28), .faddr 1 (.t 1), (some (25, false))⟩,
  ⟨(some 29), .load none (.t 28), (some (25, false))⟩,
  ⟨(some 30), .bin .add (.t 29) (.k (.d (.int .i64 1))), (some (25, false))⟩,
  ⟨(some 31), .mov (.t 3), (some (25, false))⟩,
  ⟨(some 32), .bin .add (.t 30) (.t 31), (some (25, false))⟩,
  ⟨(some 33), .bin .neq (.t 27) (.t 32), (some (25, false))⟩,
  ⟨(some 34), .pick (.t 25) (.k (.d (.bool true))) (.t 33), none⟩]
noncomputable def s_queue_Valid_r5 : List SOper := [
  ⟨(some 2), .mov (.k (.d (.bool false))), none⟩]
noncomputable def s_queue_Valid_r6 : List SOper := [
  ⟨(some 35), .bin .add (.t 8) (.k (.d (.int .i64 1))), none⟩,
  ⟨(some 8), .mov (.t 35), none⟩]
noncomputable def s_queue_Valid_l7 : SCode := (.seq (.region s_queue_Valid_r2 0 []) (.seq (.cond (.t 9) .skip (.exit 0)) (.seq (.block 1 (.seq (.region s_queue_Valid_r3 1 []) (.seq (.region s_queue_Valid_r4 0 []) (.cond (.t 34) (.seq (.region s_queue_Valid_r5 0 []) .ret) .skip)))) (.region s_queue_Valid_r6 0 []))))
theorem e_queue_Valid_l7 {P : Program} {k0 : Nat} {Q : SExit → St → Prop} {st : St} : AWp P k0 s_queue_Valid_l7 Q st = AWp P k0 (.seq (.region s_queue_Valid_r2 0 []) (.seq (.cond (.t 9) .skip (.exit 0)) (.seq (.block 1 (.seq (.region s_queue_Valid_r3 1 []) (.seq (.region s_queue_Valid_r4 0 []) (.cond (.t 34) (.seq (.region s_queue_Valid_r5 0 []) .ret) .skip)))) (.region s_queue_Valid_r6 0 [])))) Q st := rfl
noncomputable def s_queue_Valid_r8 : List SOper := [
  ⟨(some 36), .faddr 1 (.t 1), none⟩,
  ⟨(some 37), .load none (.t 36), none⟩,
  ⟨(some 38), .bin .geq (.t 37) (.k (.d (.int .i64 0))), none⟩,
  ⟨(some 39), .mov (.t 38), none⟩,
  ⟨(some 40), .faddr 1 (.t 1), (some (39, true))⟩,
  ⟨(some 41), .load none (.t 40), (some (39, true))⟩,
  ⟨(some 42), .faddr 0 (.t 1), (some (39, true))⟩,
  ⟨(some 43), .load none (.t 42), (some (39, true))⟩,
  ⟨(some 44), .bin .leq (.t 41) (.t 43), (some (39, true))⟩,
  ⟨(some 45), .pick (.t 39) (.t 44) (.k (.d (.bool false))), none⟩,
  ⟨(some 46), .mov (.t 45), none⟩,
  ⟨(some 47), .faddr 0 (.t 1), (some (46, true))⟩,
  ⟨(some 48), .load none (.t 47), (some (46, true))⟩,
  ⟨(some 49), .bin .leq (.t 48) (.k (.d (.int .i64 1099511627776))), (some (46, true))⟩,
  ⟨(some 50), .pick (.t 46) (.t 49) (.k (.d (.bool false))), none⟩,
  ⟨(some 51), .mov (.t 50), none⟩,
  ⟨(some 52), .faddr 2 (.t 1), (some (51, true))⟩,
  ⟨(some 53), .load none (.t 52), (some (51, true))⟩,
  ⟨(some 54), .len (.t 53), (some (51, true))⟩,
  ⟨(some 55), .faddr 0 (.t 1), (some (51, true))⟩,
  ⟨(some 56), .load none (.t 55), (some (51, true))⟩,
  ⟨(some 57), .faddr 1 (.t 1), (some (51, true))⟩,
  ⟨(some 58), .load none (.t 57), (some (51, true))⟩,
  ⟨(some 59), .bin .sub (.t 56) (.t 58), (some (51, true))⟩,
  ⟨(some 60), .bin .eql (.t 54) (.t 59), (some (51, true))⟩,
  ⟨(some 61), .pick (.t 51) (.t 60) (.k (.d (.bool false))), none⟩,
  ⟨(some 62), .mov (.t 61), none⟩,
  ⟨(some 63), .faddr 2 (.t 1), (some (62, true))⟩,
  ⟨(some 64), .load none (.t 63), (some (62, true))⟩,
  ⟨(some 65), .len (.t 64), (some (62, true))⟩,
  ⟨(some 66), .bin .leq (.t 65) (.k (.d (.int .i64 4))), (some (62, true))⟩,
  ⟨(some 67), .pick (.t 62) (.t 66) (.k (.d (.bool false))), none⟩,
  ⟨(some 2), .mov (.t 67), none⟩]
noncomputable def s_queue_Valid : SCode := (.seq (.region s_queue_Valid_r0 1 []) (.seq (.seq (.region s_queue_Valid_r1 0 []) (.block 0 (.loop s_queue_Valid_l7))) (.seq (.region s_queue_Valid_r8 0 []) .ret)))
theorem e_queue_Valid {P : Program} {k0 : Nat} {Q : SExit → St → Prop} {st : St} : AWp P k0 s_queue_Valid Q st = AWp P k0 (.seq (.region s_queue_Valid_r0 1 []) (.seq (.seq (.region s_queue_Valid_r1 0 []) (.block 0 (.loop s_queue_Valid_l7))) (.seq (.region s_queue_Valid_r8 0 []) .ret))) Q st := rfl
theorem u_queue_Valid_r0 {P : Program} {o : Nat} {p : List (Nat × Nat)} {Q : SExit → St → Prop} {st : St} : goReg P s_queue_Valid_r0 o p Q st = goLit P (litOf s_queue_Valid_r0.eq_1) o p Q st := goReg_of _
theorem u_queue_Valid_r1 {P : Program} {o : Nat} {p : List (Nat × Nat)} {Q : SExit → St → Prop} {st : St} : goReg P s_queue_Valid_r1 o p Q st = goLit P (litOf s_queue_Valid_r1.eq_1) o p Q st := goReg_of _
theorem u_queue_Valid_r2 {P : Program} {o : Nat} {p : List (Nat × Nat)} {Q : SExit → St → Prop} {st : St} : goReg P s_queue_Valid_r2 o p Q st = goLit P (litOf s_queue_Valid_r2.eq_1) o p Q st := goReg_of _
theorem u_queue_Valid_r3 {P : Program} {o : Nat} {p : List (Nat × Nat)} {Q : SExit → St → Prop} {st : St} : goReg P s_queue_Valid_r3 o p Q st = goLit P (litOf s_queue_Valid_r3.eq_1) o p Q st := goReg_of _
theorem u_queue_Valid_r4 {P : Program} {o : Nat} {p : List (Nat × Nat)} {Q : SExit → St → Prop} {st : St} : goReg P s_queue_Valid_r4 o p Q st = goLit P (litOf s_queue_Valid_r4.eq_1) o p Q st := goReg_of _
theorem u_queue_Valid_r5 {P : Program} {o : Nat} {p : List (Nat × Nat)} {Q : SExit → St → Prop} {st : St} : goReg P s_queue_Valid_r5 o p Q st = goLit P (litOf s_queue_Valid_r5.eq_1) o p Q st := goReg_of _
theorem u_queue_Valid_r6 {P : Program} {o : Nat} {p : List (Nat × Nat)} {Q : SExit → St → Prop} {st : St} : goReg P s_queue_Valid_r6 o p Q st = goLit P (litOf s_queue_Valid_r6.eq_1) o p Q st := goReg_of _
theorem u_queue_Valid_r8 {P : Program} {o : Nat} {p : List (Nat × Nat)} {Q : SExit → St → Prop} {st : St} : goReg P s_queue_Valid_r8 o p Q st = goLit P (litOf s_queue_Valid_r8.eq_1) o p Q st := goReg_of _
attribute [go_sem] u_queue_Valid_r0 u_queue_Valid_r1 u_queue_Valid_r2 u_queue_Valid_r3 u_queue_Valid_r4 u_queue_Valid_r5 u_queue_Valid_r6 e_queue_Valid_l7 u_queue_Valid_r8 e_queue_Valid
set_option maxRecDepth 100000 in
theorem c_queue_Valid : Try.f32.body.bind (compCode Try.prog Try.f32.ntmps news) = some s_queue_Valid := by kernel_rfl
theorem r_queue_Valid : Try.f32.results.toList.mapM (compRes Try.prog) = some [(.tmp 2)] := by kernel_rfl
theorem n_queue_Valid : Try.f32.ntmps = 68 := by kernel_rfl
theorem b_queue_Valid : (Try.prog.funcs[32]?).any (fun fn => fn.body.isSome && !(fn.name == "runtime.NumGoroutine")) = true := by kernel_rfl
theorem ko_queue_Valid {args : List ASlot} {r : ASlot} {objs objs' : List AObj} (h : AWp Try.prog objs.length s_queue_Valid (bodyQ objs.length [(.tmp 2)] [r] objs') (entrySt args objs)) (hN : args.length ≤ 68 := by simp) (hw : ltB 16 (toksOf args ++ osToks objs) = true := by rfl) : ACall Try.prog 32 args objs r objs' :=
  acall_go (rs := [r]) follows Try.func32 c_queue_Valid r_queue_Valid h (by rw [n_queue_Valid]; exact hN) rfl hw
theorem k_queue_Valid {args : List ASlot} {r : ASlot} (h : AWp Try.prog 0 s_queue_Valid (bodyQ 0 [(.tmp 2)] [r] []) (entrySt args [])) (hN : args.length ≤ 68 := by simp) (hw : ltB 16 (toksOf args ++ osToks []) = true := by rfl) : ACall Try.prog 32 args [] r [] := ko_queue_Valid h hN hw

noncomputable def s_queue_clone_r0 : List SOper := [
  ⟨(some 1), .box 2 (.t 0), none⟩,
  ⟨(some 2), .alloc 1 [(.d (.int .i64 0)), (.d (.int .i64 0)), (.d (.int .i64 0)), (.d (.int .i64 0)), (.d (.int .i64 0)), (.d (.int .i64 0)), (.d (.int .i64 0)), (.d .nilsl), (.d .nilsl)], none⟩]
noncomputable def s_queue_clone_r1 : List SOper := [
  ⟨(some 3), .faddr 7 (.t 1), none⟩,
  ⟨(some 4), .load none (.t 3), none⟩,
  ⟨(some 5), .call (.k (.d (.func (.func 97) [] []))) [(.t 4)], none⟩,
  ⟨(some 6), .faddr 8 (.t 1), none⟩,
  ⟨(some 7), .load none (.t 6), none⟩,
  ⟨(some 8), .call (.k (.d (.func (.func 98) [] []))) [(.t 7)], none⟩,
  ⟨(some 9), .faddr 7 (.t 1), none⟩,
  ⟨none, .store none (.t 9) (.t 5), none⟩,
  ⟨(some 10), .faddr 8 (.t 1), none⟩,
  ⟨none, .store none (.t 10) (.t 8), none⟩]
noncomputable def s_queue_clone_r2 : List SOper := [
  ⟨(some 11), .load (some 9) (.t 1), none⟩,
  ⟨none, .store (some 9) (.t 2) (.t 11), none⟩]
noncomputable def s_queue_clone : SCode := (.seq (.region s_queue_clone_r0 2 []) (.seq (.region s_queue_clone_r1 0 [(2, 4)]) (.seq (.region s_queue_clone_r2 0 []) .ret)))
theorem e_queue_clone {P : Program} {k0 : Nat} {Q : SExit → St → Prop} {st : St} : AWp P k0 s_queue_clone Q st = AWp P k0 (.seq (.region s_queue_clone_r0 2 []) (.seq (.region s_queue_clone_r1 0 [(2, 4)]) (.seq (.region s_queue_clone_r2 0 []) .ret))) Q st := rfl
theorem u_queue_clone_r0 {P : Program} {o : Nat} {p : List (Nat × Nat)} {Q : SExit → St → Prop} {st : St} : goReg P s_queue_clone_r0 o p Q st = goLit P (litOf s_queue_clone_r0.eq_1) o p Q st := goReg_of _
theorem u_queue_clone_r1 {P : Program} {o : Nat} {p : List (Nat × Nat)} {Q : SExit → St → Prop} {st : St} : goReg P s_queue_clone_r1 o p Q st = goLit P (litOf s_queue_clone_r1.eq_1) o p Q st := goReg_of _
theorem u_queue_clone_r2 {P : Program} {o : Nat} {p : List (Nat × Nat)} {Q : SExit → St → Prop} {st : St} : goReg P s_queue_clone_r2 o p Q st = goLit P (litOf s_queue_clone_r2.eq_1) o p Q st := goReg_of _
attribute [go_sem] u_queue_clone_r0 u_queue_clone_r1 u_queue_clone_r2 e_queue_clone
set_option maxRecDepth 100000 in
theorem c_queue_clone : Try.f72.body.bind (compCode Try.prog Try.f72.ntmps news) = some s_queue_clone := by kernel_rfl
theorem r_queue_clone : Try.f72.results.toList.mapM (compRes Try.prog) = some [(.cell 2 (some 9))] := by kernel_rfl
theorem n_queue_clone : Try.f72.ntmps = 12 := by kernel_rfl
theorem b_queue_clone : (Try.prog.funcs[72]?).any (fun fn => fn.body.isSome && !(fn.name == "runtime.NumGoroutine")) = true := by kernel_rfl
theorem ko_queue_clone {args : List ASlot} {r : ASlot} {objs objs' : List AObj} (h : AWp Try.prog objs.length s_queue_clone (bodyQ objs.length [(.cell 2 (some 9))] [r] objs') (entrySt args objs)) (hN : args.length ≤ 12 := by simp) (hw : ltB 16 (toksOf args ++ osToks objs) = true := by rfl) : ACall Try.prog 72 args objs r objs' :=
  acall_go (rs := [r]) follows Try.func72 c_queue_clone r_queue_clone h (by rw [n_queue_clone]; exact hN) rfl hw
theorem k_queue_clone {args : List ASlot} {r : ASlot} (h : AWp Try.prog 0 s_queue_clone (bodyQ 0 [(.cell 2 (some 9))] [r] []) (entrySt args [])) (hN : args.length ≤ 12 := by simp) (hw : ltB 16 (toksOf args ++ osToks []) = true := by rfl) : ACall Try.prog 72 args [] r [] := ko_queue_clone h hN hw

noncomputable def s_queue_clones_r0 : List SOper := [
  ⟨(some 2), .mov (.k (.d .nilsl)), none⟩]
noncomputable def s_queue_clones_r1 : List SOper := [
  ⟨(some 3), .mov (.k (.d .nilsl)), none⟩]
noncomputable def s_queue_clones_r2 : List SOper := [
  ⟨(some 6), .mov (.t 0), none⟩,
  ⟨(some 7), .len (.t 6), none⟩,
  ⟨(some 8), .mov (.k (.d (.int .i64 0))), none⟩]
noncomputable def s_queue_clones_r3 : List SOper := [
  ⟨(some 9), .bin .lss (.t 8) (.t 7), none⟩]
noncomputable def s_queue_clones_r4 : List SOper := [
  ⟨(some 10), .iaddr 9 (.t 6) (.t 8), none⟩,
  ⟨(some 11), .load (some 9) (.t 10), none⟩,
  ⟨(some 5), .alloc 1 [(.d (.int .i64 0)), (.d (.int .i64 0)), (.d (.int .i64 0)), (.d (.int .i64 0)), (.d (.int .i64 0)), (.d (.int .i64 0)), (.d (.int .i64 0)), (.d .nilsl), (.d .nilsl)], none⟩,
  ⟨none, .store (some 9) (.t 5) (.t 11), none⟩]
noncomputable def s_queue_clones_r5 : List SOper := [
  ⟨(some 12), .mov (.t 3), none⟩,
  ⟨(some 13), .load (some 9) (.t 5), none⟩,
  ⟨(some 14), .call (.k (.d (.func (.func 72) [] []))) [(.t 13)], none⟩,
  ⟨(some 15), .buildSlice 9 1 [(.int .i64 0), (.int .i64 0), (.int .i64 0), (.int .i64 0), (.int .i64 0), (.int .i64 0), (.int .i64 0), .nilsl, .nilsl] [(0, 9, (.t 14))], none⟩,
  ⟨(some 16), .append 9 104 (.t 12) (.t 15), none⟩,
  ⟨(some 3), .mov (.t 16), none⟩]
noncomputable def s_queue_clones_r6 : List SOper := [
  ⟨(some 17), .bin .add (.t 8) (.k (.d (.int .i64 1))), none⟩,
  ⟨(some 8), .mov (.t 17), none⟩]
noncomputable def s_queue_clones_l7 : SCode := (.seq (.region s_queue_clones_r3 0 []) (.seq (.cond (.t 9) .skip (.exit 0)) (.seq (.block 1 (.seq (.region s_queue_clones_r4 1 []) (.region s_queue_clones_r5 0 []))) (.region s_queue_clones_r6 0 []))))
theorem e_queue_clones_l7 {P : Program} {k0 : Nat} {Q : SExit → St → Prop} {st : St} : AWp P k0 s_queue_clones_l7 Q st = AWp P k0 (.seq (.region s_queue_clones_r3 0 []) (.seq (.cond (.t 9) .skip (.exit 0)) (.seq (.block 1 (.seq (.region s_queue_clones_r4 1 []) (.region s_queue_clones_r5 0 []))) (.region s_queue_clones_r6 0 [])))) Q st := rfl
noncomputable def s_queue_clones_r8 : List SOper := [
  ⟨(some 18), .mov (.t 3), none⟩,
  ⟨(some 2), .mov (.t 18), none⟩]
noncomputable def s_queue_clones : SCode := (.seq (.region s_queue_clones_r0 0 []) (.seq (.region s_queue_clones_r1 0 []) (.seq (.seq (.region s_queue_clones_r2 0 []) (.block 0 (.loop s_queue_clones_l7))) (.seq (.region s_queue_clones_r8 0 []) .ret))))
theorem e_queue_clones {P : Program} {k0 : Nat} {Q : SExit → St → Prop} {st : St} : AWp P k0 s_queue_clones Q st = AWp P k0 (.seq (.region s_queue_clones_r0 0 []) (.seq (.region s_queue_clones_r1 0 []) (.seq (.seq (.region s_queue_clones_r2 0 []) (.block 0 (.loop s_queue_clones_l7))) (.seq (.region s_queue_clones_r8 0 []) .ret)))) Q st := rfl
theorem u_queue_clones_r0 {P : Program} {o : Nat} {p : List (Nat × Nat)} {Q : SExit → St → Prop} {st : St} : goReg P s_queue_clones_r0 o p Q st = goLit P (litOf s_queue_clones_r0.eq_1) o p Q st := goReg_of _
theorem u_queue_clones_r1 {P : Program} {o : Nat} {p : List (Nat × Nat)} {Q : SExit → St → Prop} {st : St} : goReg P s_queue_clones_r1 o p Q st = goLit P (litOf s_queue_clones_r1.eq_1) o p Q st := goReg_of _
theorem u_queue_clones_r2 {P : Program} {o : Nat} {p : List (Nat × Nat)} {Q : SExit → St → Prop} {st : St} : goReg P s_queue_clones_r2 o p Q st = goLit P (litOf s_queue_clones_r2.eq_1) o p Q st := goReg_of _
theorem u_queue_clones_r3 {P : Program} {o : Nat} {p : List (Nat × Nat)} {Q : SExit → St → Prop} {st : St} : goReg P s_queue_clones_r3 o p Q st = goLit P (litOf s_queue_clones_r3.eq_1) o p Q st := goReg_of _
theorem u_queue_clones_r4 {P : Program} {o : Nat} {p : List (Nat × Nat)} {Q : SExit → St → Prop} {st : St} : goReg P s_queue_clones_r4 o p Q st = goLit P (litOf s_queue_clones_r4.eq_1) o p Q st := goReg_of _
theorem u_queue_clones_r5 {P : Program} {o : Nat} {p : List (Nat × Nat)} {Q : SExit → St → Prop} {st : St} : goReg P s_queue_clones_r5 o p Q st = goLit P (litOf s_queue_clones_r5.eq_1) o p Q st := goReg_of _
theorem u_queue_clones_r6 {P : Program} {o : Nat} {p : List (Nat × Nat)} {Q : SExit → St → Prop} {st : St} : goReg P s_queue_clones_r6 o p Q st = goLit P (litOf s_queue_clones_r6.eq_1) o p Q st := goReg_of _
theorem u_queue_clones_r8 {P : Program} {o : Nat} {p : List (Nat × Nat)} {Q : SExit → St → Prop} {st : St} : goReg P s_queue_clones_r8 o p Q st = goLit P (litOf s_queue_clones_r8.eq_1) o p Q st := goReg_of _
attribute [go_sem] u_queue_clones_r0 u_queue_clones_r1 u_queue_clones_r2 u_queue_clones_r3 u_queue_clones_r4 u_queue_clones_r5 u_queue_clones_r6 e_queue_clones_l7 u_queue_clones_r8 e_queue_clones
set_option maxRecDepth 100000 in
theorem c_queue_clones : Try.f68.body.bind (compCode Try.prog Try.f68.ntmps news) = some s_queue_clones := by kernel_rfl
theorem r_queue_clones : Try.f68.results.toList.mapM (compRes Try.prog) = some [(.tmp 2)] := by kernel_rfl
theorem n_queue_clones : Try.f68.ntmps = 19 := by kernel_rfl
theorem b_queue_clones : (Try.prog.funcs[68]?).any (fun fn => fn.body.isSome && !(fn.name == "runtime.NumGoroutine")) = true := by kernel_rfl
theorem ko_queue_clones {args : List ASlot} {r : ASlot} {objs objs' : List AObj} (h : AWp Try.prog objs.length s_queue_clones (bodyQ objs.length [(.tmp 2)] [r] objs') (entrySt args objs)) (hN : args.length ≤ 19 := by simp) (hw : ltB 16 (toksOf args ++ osToks objs) = true := by rfl) : ACall Try.prog 68 args objs r objs' :=
  acall_go (rs := [r]) follows Try.func68 c_queue_clones r_queue_clones h (by rw [n_queue_clones]; exact hN) rfl hw
theorem k_queue_clones {args : List ASlot} {r : ASlot} (h : AWp Try.prog 0 s_queue_clones (bodyQ 0 [(.tmp 2)] [r] []) (entrySt args [])) (hN : args.length ≤ 19 := by simp) (hw : ltB 16 (toksOf args ++ osToks []) = true := by rfl) : ACall Try.prog 68 args [] r [] := ko_queue_clones h hN hw



def message (p : Pk) : Bool := p.kind == 1 && packetValid p
theorem message_ok (p : Pk) (hp : p.Sm) : ACall Try.prog 70 [.d (.agg (encPk p))] [] (.d (.bool (message p))) [] := by
  refine k_queue_message ?_
  simp only [e_queue_message, encPk, go_sem, Nat.reduceAdd, Nat.reduceMul, Nat.reduceSub, Nat.reduceEqDiff, Nat.reduceLT, Nat.reduceLeDiff, Nat.reduceBEq, reduceIte, reduceCtorEq, Int.reduceAdd, Int.reduceLT, Int.reduceLE, Int.reduceGT, Int.reduceGE, Int.reduceEq, Int.reduceNe, Int.reduceBEq, Int.reduceBNe, Int.reduceToNat, Int.reduceNeg]
  (repeat (with_reducible refine And.intro (by first | omega | (simp_all; done) | grind) ?_)); refine callO_pure (packetValid_ok p hp.v hp.c) b_packet_Valid (fun h => by first | exact h | (simp only [h, Bool.and_self, Bool.and_true])) (fun _ => by first | exact ⟨matchA_refl, trivial⟩ | exact ⟨matchA_refl, matchA_refl, trivial⟩ | exact ⟨matchA_refl, matchA_refl, matchA_refl, trivial⟩ | simp only [encPk, encQ, go_sem, Nat.reduceAdd, Nat.reduceMul, Nat.reduceSub, Nat.reduceEqDiff, Nat.reduceLT, Nat.reduceLeDiff, Nat.reduceBEq, reduceIte, reduceCtorEq, Int.reduceAdd, Int.reduceLT, Int.reduceLE, Int.reduceGT, Int.reduceGE, Int.reduceEq, Int.reduceNe, Int.reduceBEq, Int.reduceBNe, Int.reduceToNat, Int.reduceNeg]) (by simp only [go_sem, Nat.reduceAdd, Nat.reduceMul, Nat.reduceSub, Nat.reduceEqDiff, Nat.reduceLT, Nat.reduceLeDiff, Nat.reduceBEq, reduceIte, reduceCtorEq, Int.reduceAdd, Int.reduceLT, Int.reduceLE, Int.reduceGT, Int.reduceGE, Int.reduceEq, Int.reduceNe, Int.reduceBEq, Int.reduceBNe, Int.reduceToNat, Int.reduceNeg]) rfl rfl ?_
  try simp only [go_sem, Nat.reduceAdd, Nat.reduceMul, Nat.reduceSub, Nat.reduceEqDiff, Nat.reduceLT, Nat.reduceLeDiff, Nat.reduceBEq, reduceIte, reduceCtorEq, Int.reduceAdd, Int.reduceLT, Int.reduceLE, Int.reduceGT, Int.reduceGE, Int.reduceEq, Int.reduceNe, Int.reduceBEq, Int.reduceBNe, Int.reduceToNat, Int.reduceNeg]
  rfl

def alike (p q : Pk) : Bool := p.sess == q.sess && p.from_ == q.from_ && p.to == q.to
theorem alike_ok (p q : Pk) : ACall Try.prog 71 [.d (.agg (encPk p)), .d (.agg (encPk q))] [] (.d (.bool (alike p q))) [] := by
  refine k_queue_alike ?_
  simp only [e_queue_alike, encPk, go_sem, Nat.reduceAdd, Nat.reduceMul, Nat.reduceSub, Nat.reduceEqDiff, Nat.reduceLT, Nat.reduceLeDiff, Nat.reduceBEq, reduceIte, reduceCtorEq, Int.reduceAdd, Int.reduceLT, Int.reduceLE, Int.reduceGT, Int.reduceGE, Int.reduceEq, Int.reduceNe, Int.reduceBEq, Int.reduceBNe, Int.reduceToNat, Int.reduceNeg]
  rfl

def qItem (q : Qu) (i : Nat) : Bool :=
  message (q.items.getD i default) && alike (q.items.getD i default) (q.items.getD 0 default) && (q.items.getD i default).seq == IntKind.i64.wrap (IntKind.i64.wrap (q.cons + 1) + (i : Int))
def qValid (q : Qu) : Bool := allTo (qItem q) q.items.length && (decide (q.cons ≥ 0) && decide (q.cons ≤ q.acc) && decide (q.acc ≤ 1099511627776) && ((q.items.length : Int) == IntKind.i64.wrap (q.acc - q.cons)) && decide ((q.items.length : Int) ≤ 4))

def SqValid (q : Qu) (i : { i : Nat // allTo (qItem q) i = true }) : St :=
  ⟨[(1, true, .d (.ptr 0 0)), (6, true, .d (.sl 9 (q.items.map encPk))), (7, true, .d (.int .i64 q.items.length)), (8, true, .d (.int .i64 (i.val : Nat)))],
   [.row [.d (.int .i64 q.acc), .d (.int .i64 q.cons), .d (.sl 9 (q.items.map encPk))]], [], 1⟩

theorem getD_lt {α : Type} {l : List α} {i : Nat} (h : i < l.length) (d : α) : l.getD i d = l[i] := by simp [List.getD, h]

set_option maxRecDepth 10000 in
theorem qValid_ok (q : Qu) (hq : q.Sm) : ACall Try.prog 32 [.d (.agg (encQ q))] [] (.d (.bool (qValid q))) [] := by
  have hl := hq.1
  refine k_queue_Valid ?_
  simp only [e_queue_Valid, encQ, go_sem, Nat.reduceAdd, Nat.reduceMul, Nat.reduceSub, Nat.reduceEqDiff, Nat.reduceLT, Nat.reduceLeDiff, Nat.reduceBEq, reduceIte, reduceCtorEq, Int.reduceAdd, Int.reduceLT, Int.reduceLE, Int.reduceGT, Int.reduceGE, Int.reduceEq, Int.reduceNe, Int.reduceBEq, Int.reduceBNe, Int.reduceToNat, Int.reduceNeg]
  refine AWp_loop (SqValid q) (fun i => q.items.length - i.val) ⟨0, rfl⟩ ?_ (fun i => ?_)
  · try simp only [SqValid, go_sem, Nat.reduceAdd, Nat.reduceMul, Nat.reduceSub, Nat.reduceEqDiff, Nat.reduceLT, Nat.reduceLeDiff, Nat.reduceBEq, reduceIte, reduceCtorEq, Int.reduceAdd, Int.reduceLT, Int.reduceLE, Int.reduceGT, Int.reduceGE, Int.reduceEq, Int.reduceNe, Int.reduceBEq, Int.reduceBNe, Int.reduceToNat, Int.reduceNeg]
  · obtain ⟨i, hi⟩ := i
    try simp only [SqValid, go_sem, Nat.reduceAdd, Nat.reduceMul, Nat.reduceSub, Nat.reduceEqDiff, Nat.reduceLT, Nat.reduceLeDiff, Nat.reduceBEq, reduceIte, reduceCtorEq, Int.reduceAdd, Int.reduceLT, Int.reduceLE, Int.reduceGT, Int.reduceGE, Int.reduceEq, Int.reduceNe, Int.reduceBEq, Int.reduceBNe, Int.reduceToNat, Int.reduceNeg]
    refine AWp_cond _ rfl rfl (fun h => ?_) (fun h => ?_)
    · have hil : i < q.items.length := by simpa using h
      have h0 : 0 < q.items.length := by omega
      have hw : IntKind.i64.wrap (IntKind.i64.wrap (q.cons + 1) + (i : Int)) = IntKind.i64.wrap (IntKind.i64.wrap (q.cons + 1) + (i : Int)) := rfl
      simp only [getD_map encPk q.items hil, getD_map encPk q.items h0, Int.toNat_zero, encPk, go_sem, Nat.reduceAdd, Nat.reduceMul, Nat.reduceSub, Nat.reduceEqDiff, Nat.reduceLT, Nat.reduceLeDiff, Nat.reduceBEq, reduceIte, reduceCtorEq, Int.reduceAdd, Int.reduceLT, Int.reduceLE, Int.reduceGT, Int.reduceGE, Int.reduceEq, Int.reduceNe, Int.reduceBEq, Int.reduceBNe, Int.reduceToNat, Int.reduceNeg]
      refine ⟨by omega, ?_⟩
      (repeat (with_reducible refine And.intro (by first | omega | (simp_all; done) | grind) ?_)); refine callO_pure (message_ok q.items[i] (hq.2 _ (List.getElem_mem hil))) b_queue_message (fun h => by first | exact h | (simp only [h, Bool.and_self, Bool.and_true])) (fun _ => by first | exact ⟨matchA_refl, trivial⟩ | exact ⟨matchA_refl, matchA_refl, trivial⟩ | exact ⟨matchA_refl, matchA_refl, matchA_refl, trivial⟩ | simp only [encPk, encQ, go_sem, Nat.reduceAdd, Nat.reduceMul, Nat.reduceSub, Nat.reduceEqDiff, Nat.reduceLT, Nat.reduceLeDiff, Nat.reduceBEq, reduceIte, reduceCtorEq, Int.reduceAdd, Int.reduceLT, Int.reduceLE, Int.reduceGT, Int.reduceGE, Int.reduceEq, Int.reduceNe, Int.reduceBEq, Int.reduceBNe, Int.reduceToNat, Int.reduceNeg]) (by simp only [go_sem, Nat.reduceAdd, Nat.reduceMul, Nat.reduceSub, Nat.reduceEqDiff, Nat.reduceLT, Nat.reduceLeDiff, Nat.reduceBEq, reduceIte, reduceCtorEq, Int.reduceAdd, Int.reduceLT, Int.reduceLE, Int.reduceGT, Int.reduceGE, Int.reduceEq, Int.reduceNe, Int.reduceBEq, Int.reduceBNe, Int.reduceToNat, Int.reduceNeg]) rfl rfl ?_
      try simp only [getD_map encPk q.items h0, go_sem, Nat.reduceAdd, Nat.reduceMul, Nat.reduceSub, Nat.reduceEqDiff, Nat.reduceLT, Nat.reduceLeDiff, Nat.reduceBEq, reduceIte, reduceCtorEq, Int.reduceAdd, Int.reduceLT, Int.reduceLE, Int.reduceGT, Int.reduceGE, Int.reduceEq, Int.reduceNe, Int.reduceBEq, Int.reduceBNe, Int.reduceToNat, Int.reduceNeg]
      refine ⟨fun _ => ⟨by omega, by omega⟩, by simp [encPk], ?_⟩
      simp only [encPk, go_sem, Nat.reduceAdd, Nat.reduceMul, Nat.reduceSub, Nat.reduceEqDiff, Nat.reduceLT, Nat.reduceLeDiff, Nat.reduceBEq, reduceIte, reduceCtorEq, Int.reduceAdd, Int.reduceLT, Int.reduceLE, Int.reduceGT, Int.reduceGE, Int.reduceEq, Int.reduceNe, Int.reduceBEq, Int.reduceBNe, Int.reduceToNat, Int.reduceNeg]
      (repeat (with_reducible refine And.intro (by first | omega | (simp_all; done) | grind) ?_)); refine callO_pure (alike_ok q.items[i] q.items[0]) b_queue_alike (fun h => by first | exact h | (simp only [h, Bool.and_self, Bool.and_true])) (fun _ => by first | exact ⟨matchA_refl, trivial⟩ | exact ⟨matchA_refl, matchA_refl, trivial⟩ | exact ⟨matchA_refl, matchA_refl, matchA_refl, trivial⟩ | simp only [encPk, encQ, go_sem, Nat.reduceAdd, Nat.reduceMul, Nat.reduceSub, Nat.reduceEqDiff, Nat.reduceLT, Nat.reduceLeDiff, Nat.reduceBEq, reduceIte, reduceCtorEq, Int.reduceAdd, Int.reduceLT, Int.reduceLE, Int.reduceGT, Int.reduceGE, Int.reduceEq, Int.reduceNe, Int.reduceBEq, Int.reduceBNe, Int.reduceToNat, Int.reduceNeg]) (by simp only [go_sem, Nat.reduceAdd, Nat.reduceMul, Nat.reduceSub, Nat.reduceEqDiff, Nat.reduceLT, Nat.reduceLeDiff, Nat.reduceBEq, reduceIte, reduceCtorEq, Int.reduceAdd, Int.reduceLT, Int.reduceLE, Int.reduceGT, Int.reduceGE, Int.reduceEq, Int.reduceNe, Int.reduceBEq, Int.reduceBNe, Int.reduceToNat, Int.reduceNeg]) rfl rfl ?_
      try simp only [go_sem, Nat.reduceAdd, Nat.reduceMul, Nat.reduceSub, Nat.reduceEqDiff, Nat.reduceLT, Nat.reduceLeDiff, Nat.reduceBEq, reduceIte, reduceCtorEq, Int.reduceAdd, Int.reduceLT, Int.reduceLE, Int.reduceGT, Int.reduceGE, Int.reduceEq, Int.reduceNe, Int.reduceBEq, Int.reduceBNe, Int.reduceToNat, Int.reduceNeg]
      repeat (with_reducible refine And.intro (by first | omega | (simp_all; done) | grind) ?_)
      have hx : (!message q.items[i] || !alike q.items[i] q.items[0] || q.items[i].seq != IntKind.i64.wrap (IntKind.i64.wrap (q.cons + 1) + (i : Int))) = !qItem q i := by
        simp only [qItem, getD_lt hil, getD_lt h0, Bool.not_and]; rfl
      refine AWp_cond (!qItem q i) rfl ?_ (fun h2 => ?_) (fun h2 => ?_)
      · try simp only [hx, go_sem, Nat.reduceAdd, Nat.reduceMul, Nat.reduceSub, Nat.reduceEqDiff, Nat.reduceLT, Nat.reduceLeDiff, Nat.reduceBEq, reduceIte, reduceCtorEq, Int.reduceAdd, Int.reduceLT, Int.reduceLE, Int.reduceGT, Int.reduceGE, Int.reduceEq, Int.reduceNe, Int.reduceBEq, Int.reduceBNe, Int.reduceToNat, Int.reduceNeg]
      · have hg : qItem q i = false := by simpa using h2
        simp only [qValid, allTo_no hil hg, go_sem, Nat.reduceAdd, Nat.reduceMul, Nat.reduceSub, Nat.reduceEqDiff, Nat.reduceLT, Nat.reduceLeDiff, Nat.reduceBEq, reduceIte, reduceCtorEq, Int.reduceAdd, Int.reduceLT, Int.reduceLE, Int.reduceGT, Int.reduceGE, Int.reduceEq, Int.reduceNe, Int.reduceBEq, Int.reduceBNe, Int.reduceToNat, Int.reduceNeg]
      · have hg : qItem q i = true := by simpa using h2
        try simp only [go_sem, Nat.reduceAdd, Nat.reduceMul, Nat.reduceSub, Nat.reduceEqDiff, Nat.reduceLT, Nat.reduceLeDiff, Nat.reduceBEq, reduceIte, reduceCtorEq, Int.reduceAdd, Int.reduceLT, Int.reduceLE, Int.reduceGT, Int.reduceGE, Int.reduceEq, Int.reduceNe, Int.reduceBEq, Int.reduceBNe, Int.reduceToNat, Int.reduceNeg]
        refine ⟨⟨i + 1, allTo_step hi hg⟩, ?_, by dsimp only; omega⟩
        try simp only [SqValid, wrap_succ (show i < 9223372036854775807 by omega), go_sem, Nat.reduceAdd, Nat.reduceMul, Nat.reduceSub, Nat.reduceEqDiff, Nat.reduceLT, Nat.reduceLeDiff, Nat.reduceBEq, reduceIte, reduceCtorEq, Int.reduceAdd, Int.reduceLT, Int.reduceLE, Int.reduceGT, Int.reduceGE, Int.reduceEq, Int.reduceNe, Int.reduceBEq, Int.reduceBNe, Int.reduceToNat, Int.reduceNeg]
    · have hil : q.items.length ≤ i := by simpa using h
      have ha : allTo (qItem q) q.items.length = true := allTo_iff.2 fun j hj => allTo_iff.1 hi j (by omega)
      try simp only [go_sem, Nat.reduceAdd, Nat.reduceMul, Nat.reduceSub, Nat.reduceEqDiff, Nat.reduceLT, Nat.reduceLeDiff, Nat.reduceBEq, reduceIte, reduceCtorEq, Int.reduceAdd, Int.reduceLT, Int.reduceLE, Int.reduceGT, Int.reduceGE, Int.reduceEq, Int.reduceNe, Int.reduceBEq, Int.reduceBNe, Int.reduceToNat, Int.reduceNeg]
      repeat (with_reducible refine And.intro (by first | omega | (simp_all; done) | grind) ?_)
      simp only [qValid, ha, go_sem, Nat.reduceAdd, Nat.reduceMul, Nat.reduceSub, Nat.reduceEqDiff, Nat.reduceLT, Nat.reduceLeDiff, Nat.reduceBEq, reduceIte, reduceCtorEq, Int.reduceAdd, Int.reduceLT, Int.reduceLE, Int.reduceGT, Int.reduceGE, Int.reduceEq, Int.reduceNe, Int.reduceBEq, Int.reduceBNe, Int.reduceToNat, Int.reduceNeg]

theorem clone_ok (p : Pk) (hp : p.Sm) : ACall Try.prog 72 [.d (.agg (encPk p))] [] (.d (.agg (encPk p))) [] := by
  obtain ⟨h1, h2⟩ := hp
  refine k_queue_clone ?_
  simp only [e_queue_clone, encPk, go_sem, Nat.reduceAdd, Nat.reduceMul, Nat.reduceSub, Nat.reduceEqDiff, Nat.reduceLT, Nat.reduceLeDiff, Nat.reduceBEq, reduceIte, reduceCtorEq, Int.reduceAdd, Int.reduceLT, Int.reduceLE, Int.reduceGT, Int.reduceGE, Int.reduceEq, Int.reduceNe, Int.reduceBEq, Int.reduceBNe, Int.reduceToNat, Int.reduceNeg]
  (repeat (with_reducible refine And.intro (by first | omega | (simp_all; done) | grind) ?_)); refine callO_pure (cloneV_ok p.values (by omega)) b_slices_Clone___api_Value_api_Value_ (fun h => by first | exact h | (simp only [h, Bool.and_self, Bool.and_true])) (fun _ => by first | exact ⟨matchA_refl, trivial⟩ | exact ⟨matchA_refl, matchA_refl, trivial⟩ | exact ⟨matchA_refl, matchA_refl, matchA_refl, trivial⟩ | simp only [encPk, encQ, go_sem, Nat.reduceAdd, Nat.reduceMul, Nat.reduceSub, Nat.reduceEqDiff, Nat.reduceLT, Nat.reduceLeDiff, Nat.reduceBEq, reduceIte, reduceCtorEq, Int.reduceAdd, Int.reduceLT, Int.reduceLE, Int.reduceGT, Int.reduceGE, Int.reduceEq, Int.reduceNe, Int.reduceBEq, Int.reduceBNe, Int.reduceToNat, Int.reduceNeg]) (by simp only [go_sem, Nat.reduceAdd, Nat.reduceMul, Nat.reduceSub, Nat.reduceEqDiff, Nat.reduceLT, Nat.reduceLeDiff, Nat.reduceBEq, reduceIte, reduceCtorEq, Int.reduceAdd, Int.reduceLT, Int.reduceLE, Int.reduceGT, Int.reduceGE, Int.reduceEq, Int.reduceNe, Int.reduceBEq, Int.reduceBNe, Int.reduceToNat, Int.reduceNeg]) rfl rfl ?_
  try simp only [go_sem, Nat.reduceAdd, Nat.reduceMul, Nat.reduceSub, Nat.reduceEqDiff, Nat.reduceLT, Nat.reduceLeDiff, Nat.reduceBEq, reduceIte, reduceCtorEq, Int.reduceAdd, Int.reduceLT, Int.reduceLE, Int.reduceGT, Int.reduceGE, Int.reduceEq, Int.reduceNe, Int.reduceBEq, Int.reduceBNe, Int.reduceToNat, Int.reduceNeg]
  (repeat (with_reducible refine And.intro (by first | omega | (simp_all; done) | grind) ?_)); refine callO_pure (cloneI_ok p.clock (by omega)) b_slices_Clone___int_int_ (fun h => by first | exact h | (simp only [h, Bool.and_self, Bool.and_true])) (fun _ => by first | exact ⟨matchA_refl, trivial⟩ | exact ⟨matchA_refl, matchA_refl, trivial⟩ | exact ⟨matchA_refl, matchA_refl, matchA_refl, trivial⟩ | simp only [encPk, encQ, go_sem, Nat.reduceAdd, Nat.reduceMul, Nat.reduceSub, Nat.reduceEqDiff, Nat.reduceLT, Nat.reduceLeDiff, Nat.reduceBEq, reduceIte, reduceCtorEq, Int.reduceAdd, Int.reduceLT, Int.reduceLE, Int.reduceGT, Int.reduceGE, Int.reduceEq, Int.reduceNe, Int.reduceBEq, Int.reduceBNe, Int.reduceToNat, Int.reduceNeg]) (by simp only [go_sem, Nat.reduceAdd, Nat.reduceMul, Nat.reduceSub, Nat.reduceEqDiff, Nat.reduceLT, Nat.reduceLeDiff, Nat.reduceBEq, reduceIte, reduceCtorEq, Int.reduceAdd, Int.reduceLT, Int.reduceLE, Int.reduceGT, Int.reduceGE, Int.reduceEq, Int.reduceNe, Int.reduceBEq, Int.reduceBNe, Int.reduceToNat, Int.reduceNeg]) rfl rfl ?_
  try simp only [go_sem, Nat.reduceAdd, Nat.reduceMul, Nat.reduceSub, Nat.reduceEqDiff, Nat.reduceLT, Nat.reduceLeDiff, Nat.reduceBEq, reduceIte, reduceCtorEq, Int.reduceAdd, Int.reduceLT, Int.reduceLE, Int.reduceGT, Int.reduceGE, Int.reduceEq, Int.reduceNe, Int.reduceBEq, Int.reduceBNe, Int.reduceToNat, Int.reduceNeg]

def Sclones (l : List Pk) (i : { i : Nat // i ≤ l.length }) : St :=
  ⟨[(3, true, .own 0 9 ((l.take i.val).map encPk)), (6, true, .d (.sl 9 (l.map encPk))), (7, true, .d (.int .i64 l.length)), (8, true, .d (.int .i64 (i.val : Nat)))], [], [0], 1⟩

set_option maxRecDepth 10000 in
theorem clones_ok (l : List Pk) (hl : l.length ≤ 1000) (hp : ∀ p ∈ l, p.Sm) : ACall Try.prog 68 [.d (.sl 9 (l.map encPk))] [] (.own 0 9 (l.map encPk)) [] := by
  refine k_queue_clones ?_
  simp only [e_queue_clones, go_sem, Nat.reduceAdd, Nat.reduceMul, Nat.reduceSub, Nat.reduceEqDiff, Nat.reduceLT, Nat.reduceLeDiff, Nat.reduceBEq, reduceIte, reduceCtorEq, Int.reduceAdd, Int.reduceLT, Int.reduceLE, Int.reduceGT, Int.reduceGE, Int.reduceEq, Int.reduceNe, Int.reduceBEq, Int.reduceBNe, Int.reduceToNat, Int.reduceNeg]
  refine AWp_loop (Sclones l) (fun i => l.length - i.val) ⟨0, Nat.zero_le _⟩ ?_ (fun i => ?_)
  · try simp only [Sclones, go_sem, Nat.reduceAdd, Nat.reduceMul, Nat.reduceSub, Nat.reduceEqDiff, Nat.reduceLT, Nat.reduceLeDiff, Nat.reduceBEq, reduceIte, reduceCtorEq, Int.reduceAdd, Int.reduceLT, Int.reduceLE, Int.reduceGT, Int.reduceGE, Int.reduceEq, Int.reduceNe, Int.reduceBEq, Int.reduceBNe, Int.reduceToNat, Int.reduceNeg]
    trace_state
  · obtain ⟨i, hi⟩ := i
    try simp only [Sclones, go_sem, Nat.reduceAdd, Nat.reduceMul, Nat.reduceSub, Nat.reduceEqDiff, Nat.reduceLT, Nat.reduceLeDiff, Nat.reduceBEq, reduceIte, reduceCtorEq, Int.reduceAdd, Int.reduceLT, Int.reduceLE, Int.reduceGT, Int.reduceGE, Int.reduceEq, Int.reduceNe, Int.reduceBEq, Int.reduceBNe, Int.reduceToNat, Int.reduceNeg]
    refine AWp_cond _ rfl rfl (fun h => ?_) (fun h => ?_)
    · have hil : i < l.length := by simpa using h
      simp only [getD_map encPk l hil, encPk, go_sem, Nat.reduceAdd, Nat.reduceMul, Nat.reduceSub, Nat.reduceEqDiff, Nat.reduceLT, Nat.reduceLeDiff, Nat.reduceBEq, reduceIte, reduceCtorEq, Int.reduceAdd, Int.reduceLT, Int.reduceLE, Int.reduceGT, Int.reduceGE, Int.reduceEq, Int.reduceNe, Int.reduceBEq, Int.reduceBNe, Int.reduceToNat, Int.reduceNeg]
      repeat (with_reducible refine And.intro (by first | omega | (simp_all; done) | grind) ?_)
      (repeat (with_reducible refine And.intro (by first | omega | (simp_all; done) | grind) ?_)); refine callO_pure (clone_ok l[i] (hp _ (List.getElem_mem hil))) b_queue_clone (fun h => by first | exact h | (simp only [h, Bool.and_self, Bool.and_true])) (fun _ => by first | exact ⟨matchA_refl, trivial⟩ | exact ⟨matchA_refl, matchA_refl, trivial⟩ | exact ⟨matchA_refl, matchA_refl, matchA_refl, trivial⟩ | simp only [encPk, encQ, go_sem, Nat.reduceAdd, Nat.reduceMul, Nat.reduceSub, Nat.reduceEqDiff, Nat.reduceLT, Nat.reduceLeDiff, Nat.reduceBEq, reduceIte, reduceCtorEq, Int.reduceAdd, Int.reduceLT, Int.reduceLE, Int.reduceGT, Int.reduceGE, Int.reduceEq, Int.reduceNe, Int.reduceBEq, Int.reduceBNe, Int.reduceToNat, Int.reduceNeg]) (by simp only [go_sem, Nat.reduceAdd, Nat.reduceMul, Nat.reduceSub, Nat.reduceEqDiff, Nat.reduceLT, Nat.reduceLeDiff, Nat.reduceBEq, reduceIte, reduceCtorEq, Int.reduceAdd, Int.reduceLT, Int.reduceLE, Int.reduceGT, Int.reduceGE, Int.reduceEq, Int.reduceNe, Int.reduceBEq, Int.reduceBNe, Int.reduceToNat, Int.reduceNeg]) rfl rfl ?_
      simp only [encPk, go_sem, Nat.reduceAdd, Nat.reduceMul, Nat.reduceSub, Nat.reduceEqDiff, Nat.reduceLT, Nat.reduceLeDiff, Nat.reduceBEq, reduceIte, reduceCtorEq, Int.reduceAdd, Int.reduceLT, Int.reduceLE, Int.reduceGT, Int.reduceGE, Int.reduceEq, Int.reduceNe, Int.reduceBEq, Int.reduceBNe, Int.reduceToNat, Int.reduceNeg]
      have hlt : (l.take i).length ≤ 1000 := by simp; omega
      refine ⟨⟨by omega, by omega⟩, ⟨i + 1, hil⟩, ?_, by dsimp only; omega⟩
      simp only [Sclones, map_take_succ encPk l hil, encPk, wrap_succ (show i < 9223372036854775807 by omega), go_sem, Nat.reduceAdd, Nat.reduceMul, Nat.reduceSub, Nat.reduceEqDiff, Nat.reduceLT, Nat.reduceLeDiff, Nat.reduceBEq, reduceIte, reduceCtorEq, Int.reduceAdd, Int.reduceLT, Int.reduceLE, Int.reduceGT, Int.reduceGE, Int.reduceEq, Int.reduceNe, Int.reduceBEq, Int.reduceBNe, Int.reduceToNat, Int.reduceNeg]
    · have hil : i = l.length := by have : l.length ≤ i := by simpa using h
                                    omega
      subst hil
      try simp only [List.take_length, go_sem, Nat.reduceAdd, Nat.reduceMul, Nat.reduceSub, Nat.reduceEqDiff, Nat.reduceLT, Nat.reduceLeDiff, Nat.reduceBEq, reduceIte, reduceCtorEq, Int.reduceAdd, Int.reduceLT, Int.reduceLE, Int.reduceGT, Int.reduceGE, Int.reduceEq, Int.reduceNe, Int.reduceBEq, Int.reduceBNe, Int.reduceToNat, Int.reduceNeg]

end Go.Proofs.Ythcpckcgjplhiaa
