/- QueueOnce. -/
import Derived.Test.YthcpckcgjplhiaaDc
import Derived.Test.YthcpckcgjplhiaaPb
namespace Go.Proofs.Ythcpckcgjplhiaa
open Go.Abs
set_option linter.unusedSimpArgs false
-- ENC encPk encQ

/-- A step. -/
structure Stp where
  kind : Int
  n : Int
  deriving DecidableEq, Inhabited
def encStp (x : Stp) : List D := [.int .i64 x.kind, .int .i64 x.n]
theorem encStp_noPtr (x : Stp) : D.noPtrL (encStp x) = true := rfl
theorem noPtrR_Stp (l : List Stp) : D.noPtrR (l.map encStp) = true := noPtrR_map encStp_noPtr l
attribute [go_sem] encStp_noPtr noPtrR_Stp

noncomputable def s_farandolelaw51_QueueOnce_r0 : List SOper := [
  ⟨(some 2), .mov (.k (.d (.bool false))), none⟩]
noncomputable def s_farandolelaw51_QueueOnce_r1 : List SOper := [
  ⟨(some 17), .call (.k (.d (.func (.func 25) [] []))) [], none⟩,
  ⟨(some 18), .not (.t 17), none⟩]
noncomputable def s_farandolelaw51_QueueOnce_r2 : List SOper := [
  ⟨(some 2), .mov (.k (.d (.bool false))), none⟩]
noncomputable def s_farandolelaw51_QueueOnce_r3 : List SOper := [
  ⟨(some 19), .mov (.t 0), none⟩,
  ⟨(some 20), .len (.t 19), none⟩,
  ⟨(some 21), .bin .gtr (.t 20) (.k (.d (.int .i64 60))), none⟩]
noncomputable def s_farandolelaw51_QueueOnce_r4 : List SOper := [
  ⟨(some 2), .mov (.k (.d (.bool true))), none⟩]
noncomputable def s_farandolelaw51_QueueOnce_r5 : List SOper := [
  ⟨(some 3), .alloc 1 [(.d (.int .i64 0)), (.d (.int .i64 0)), (.d .nilsl)], none⟩]
noncomputable def s_farandolelaw51_QueueOnce_r6 : List SOper := [
  ⟨(some 4), .mov (.k (.d (.int .i64 0))), none⟩,
  ⟨(some 5), .mov (.k (.d (.int .i64 0))), none⟩]
noncomputable def s_farandolelaw51_QueueOnce_r7 : List SOper := [
  ⟨(some 6), .mov (.k (.d (.int .i64 0))), none⟩]
noncomputable def s_farandolelaw51_QueueOnce_r8 : List SOper := [
  ⟨(some 22), .mov (.t 6), none⟩,
  ⟨(some 23), .mov (.t 0), none⟩,
  ⟨(some 24), .len (.t 23), none⟩,
  ⟨(some 25), .bin .lss (.t 22) (.t 24), none⟩]
noncomputable def s_farandolelaw51_QueueOnce_r9 : List SOper := [
  ⟨(some 28), .mov (.t 0), none⟩,
  ⟨(some 29), .mov (.t 6), none⟩,
  ⟨(some 30), .iaddr 2 (.t 28) (.t 29), none⟩,
  ⟨(some 31), .faddr 1 (.t 30), none⟩,
  ⟨(some 32), .load none (.t 31), none⟩,
  ⟨(some 33), .bin .lss (.t 32) (.k (.d (.int .i64 (-10)))), none⟩,
  ⟨(some 34), .mov (.t 33), none⟩,
  ⟨(some 35), .mov (.t 0), (some (34, false))⟩,
  ⟨(some 36), .mov (.t 6), (some (34, false))⟩,
  ⟨(some 37), .iaddr 2 (.t 35) (.t 36), (some (34, false))⟩,
  ⟨(some 38), .faddr 1 (.t 37), (some (34, false))⟩,
  ⟨(some 39), .load none (.t 38), (some (34, false))⟩,
  ⟨(some 40), .bin .gtr (.t 39) (.k (.d (.int .i64 10))), (some (34, false))⟩,
  ⟨(some 41), .pick (.t 34) (.k (.d (.bool true))) (.t 40), none⟩]
noncomputable def s_farandolelaw51_QueueOnce_r10 : List SOper := [
  ⟨(some 2), .mov (.k (.d (.bool true))), none⟩]
noncomputable def s_farandolelaw51_QueueOnce_r11 : List SOper := [
  ⟨(some 42), .mov (.t 0), none⟩,
  ⟨(some 43), .mov (.t 6), none⟩,
  ⟨(some 44), .iaddr 2 (.t 42) (.t 43), none⟩,
  ⟨(some 45), .faddr 0 (.t 44), none⟩,
  ⟨(some 46), .load none (.t 45), none⟩,
  ⟨(some 47), .bin .eql (.t 46) (.k (.d (.int .i64 0))), none⟩]
noncomputable def s_farandolelaw51_QueueOnce_r12 : List SOper := [
  ⟨(some 48), .mov (.t 4), none⟩,
  ⟨(some 49), .mov (.t 0), none⟩,
  ⟨(some 50), .mov (.t 6), none⟩,
  ⟨(some 51), .iaddr 2 (.t 49) (.t 50), none⟩,
  ⟨(some 52), .faddr 1 (.t 51), none⟩,
  ⟨(some 53), .load none (.t 52), none⟩,
  ⟨(some 54), .bin .add (.t 48) (.t 53), none⟩,
  ⟨(some 7), .mov (.t 54), none⟩]
noncomputable def s_farandolelaw51_QueueOnce_r13 : List SOper := [
  ⟨(some 55), .mov (.t 7), none⟩,
  ⟨(some 56), .bin .lss (.t 55) (.k (.d (.int .i64 1))), none⟩]
noncomputable def s_farandolelaw51_QueueOnce_r14 : List SOper := [
  ⟨(some 58), .load (some 3) (.t 3), none⟩,
  ⟨(some 59), .mov (.t 7), none⟩,
  ⟨(some 60), .call (.k (.d (.func (.func 34) [] []))) [(.t 59)], none⟩,
  ⟨(some 61), .call (.k (.d (.func (.func 33) [] []))) [(.t 58), (.t 60)], none⟩,
  ⟨(some 57), .mov (.t 61), none⟩,
  ⟨(some 62), .extract 0 (.t 57), none⟩,
  ⟨(some 63), .extract 1 (.t 57), none⟩,
  ⟨(some 8), .alloc 1 [(.d (.int .i64 0)), (.d (.int .i64 0)), (.d .nilsl)], none⟩,
  ⟨none, .store (some 3) (.t 8) (.t 62), none⟩,
  ⟨(some 9), .mov (.t 63), none⟩]
noncomputable def s_farandolelaw51_QueueOnce_r15 : List SOper := [
  ⟨(some 64), .mov (.t 7), none⟩,
  ⟨(some 65), .mov (.t 4), none⟩,
  ⟨(some 66), .bin .add (.t 65) (.k (.d (.int .i64 1))), none⟩,
  ⟨(some 67), .bin .eql (.t 64) (.t 66), none⟩,
  ⟨(some 68), .mov (.t 67), none⟩,
  ⟨(some 69), .mov (.t 4), (some (68, true))⟩,
  ⟨(some 70), .mov (.t 5), (some (68, true))⟩,
  ⟨(some 71), .bin .sub (.t 69) (.t 70), (some (68, true))⟩,
  ⟨(some 72), .bin .lss (.t 71) (.k (.d (.int .i64 4))), (some (68, true))⟩,
  ⟨(some 73), .pick (.t 68) (.t 72) (.k (.d (.bool false))), none⟩,
  ⟨(some 10), .mov (.t 73), none⟩]
noncomputable def s_farandolelaw51_QueueOnce_r16 : List SOper := [
  ⟨(some 74), .mov (.t 9), none⟩,
  ⟨(some 75), .bin .eql (.t 74) (.k (.d (.int .i64 0))), none⟩,
  ⟨(some 76), .mov (.t 10), none⟩,
  ⟨(some 77), .eqb true (.t 75) (.t 76), none⟩]
noncomputable def s_farandolelaw51_QueueOnce_r17 : List SOper := [
  ⟨(some 2), .mov (.k (.d (.bool false))), none⟩]
noncomputable def s_farandolelaw51_QueueOnce_r18 : List SOper := [
  ⟨(some 78), .mov (.t 10), none⟩]
noncomputable def s_farandolelaw51_QueueOnce_r19 : List SOper := [
  ⟨(some 79), .load (some 3) (.t 8), none⟩,
  ⟨(some 80), .mov (.t 7), none⟩,
  ⟨none, .store (some 3) (.t 3) (.t 79), none⟩,
  ⟨(some 4), .mov (.t 80), none⟩]
noncomputable def s_farandolelaw51_QueueOnce_r20 : List SOper := [
  ⟨(some 81), .mov (.t 5), none⟩,
  ⟨(some 82), .mov (.t 0), none⟩,
  ⟨(some 83), .mov (.t 6), none⟩,
  ⟨(some 84), .iaddr 2 (.t 82) (.t 83), none⟩,
  ⟨(some 85), .faddr 1 (.t 84), none⟩,
  ⟨(some 86), .load none (.t 85), none⟩,
  ⟨(some 87), .bin .add (.t 81) (.t 86), none⟩,
  ⟨(some 11), .mov (.t 87), none⟩]
noncomputable def s_farandolelaw51_QueueOnce_r21 : List SOper := [
  ⟨(some 89), .load (some 3) (.t 3), none⟩,
  ⟨(some 90), .mov (.t 11), none⟩,
  ⟨(some 91), .call (.k (.d (.func (.func 27) [] []))) [(.t 89), (.t 90)], none⟩,
  ⟨(some 88), .mov (.t 91), none⟩,
  ⟨(some 92), .extract 0 (.t 88), none⟩,
  ⟨(some 93), .extract 1 (.t 88), none⟩,
  ⟨(some 12), .alloc 1 [(.d (.int .i64 0)), (.d (.int .i64 0)), (.d .nilsl)], none⟩,
  ⟨none, .store (some 3) (.t 12) (.t 92), none⟩,
  ⟨(some 13), .mov (.t 93), none⟩]
noncomputable def s_farandolelaw51_QueueOnce_r22 : List SOper := [
  ⟨(some 94), .mov (.t 11), none⟩,
  ⟨(some 95), .mov (.t 5), none⟩,
  ⟨(some 96), .bin .add (.t 95) (.k (.d (.int .i64 1))), none⟩,
  ⟨(some 97), .bin .eql (.t 94) (.t 96), none⟩,
  ⟨(some 98), .mov (.t 97), none⟩,
  ⟨(some 99), .mov (.t 5), (some (98, true))⟩,
  ⟨(some 100), .mov (.t 4), (some (98, true))⟩,
  ⟨(some 101), .bin .lss (.t 99) (.t 100), (some (98, true))⟩,
  ⟨(some 102), .pick (.t 98) (.t 101) (.k (.d (.bool false))), none⟩,
  ⟨(some 14), .mov (.t 102), none⟩]
noncomputable def s_farandolelaw51_QueueOnce_r23 : List SOper := [
  ⟨(some 103), .mov (.t 13), none⟩,
  ⟨(some 104), .bin .eql (.t 103) (.k (.d (.int .i64 0))), none⟩,
  ⟨(some 105), .mov (.t 14), none⟩,
  ⟨(some 106), .eqb true (.t 104) (.t 105), none⟩]
noncomputable def s_farandolelaw51_QueueOnce_r24 : List SOper := [
  ⟨(some 2), .mov (.k (.d (.bool false))), none⟩]
noncomputable def s_farandolelaw51_QueueOnce_r25 : List SOper := [
  ⟨(some 107), .mov (.t 14), none⟩]
noncomputable def s_farandolelaw51_QueueOnce_r26 : List SOper := [
  ⟨(some 108), .load (some 3) (.t 12), none⟩,
  ⟨(some 109), .mov (.t 11), none⟩,
  ⟨none, .store (some 3) (.t 3) (.t 108), none⟩,
  ⟨(some 5), .mov (.t 109), none⟩]
noncomputable def s_farandolelaw51_QueueOnce_r27 : List SOper := [
  ⟨(some 111), .load (some 3) (.t 3), none⟩,
  ⟨(some 112), .call (.k (.d (.func (.func 35) [] []))) [(.t 111)], none⟩,
  ⟨(some 110), .mov (.t 112), none⟩,
  ⟨(some 113), .extract 0 (.t 110), none⟩,
  ⟨(some 114), .extract 1 (.t 110), none⟩,
  ⟨(some 15), .alloc 1 [(.d (.int .i64 0)), (.d (.int .i64 0)), (.d (.int .i64 0)), (.d (.int .i64 0)), (.d (.int .i64 0)), (.d (.int .i64 0)), (.d (.int .i64 0)), (.d .nilsl), (.d .nilsl)], none⟩,
  ⟨none, .store (some 9) (.t 15) (.t 113), none⟩,
  ⟨(some 16), .mov (.t 114), none⟩]
noncomputable def s_farandolelaw51_QueueOnce_r28 : List SOper := [
  ⟨(some 115), .mov (.t 16), none⟩,
  ⟨(some 116), .mov (.t 5), none⟩,
  ⟨(some 117), .mov (.t 4), none⟩,
  ⟨(some 118), .bin .lss (.t 116) (.t 117), none⟩,
  ⟨(some 119), .eqb true (.t 115) (.t 118), none⟩,
  ⟨(some 120), .mov (.t 119), none⟩,
  ⟨(some 121), .mov (.t 16), (some (120, false))⟩,
  ⟨(some 122), .mov (.t 121), (some (120, false))⟩,
  ⟨(some 123), .load (some 9) (.t 15), (some (122, true))⟩,
  ⟨(some 124), .mov (.t 5), (some (122, true))⟩,
  ⟨(some 125), .bin .add (.t 124) (.k (.d (.int .i64 1))), (some (122, true))⟩,
  ⟨(some 126), .call (.k (.d (.func (.func 34) [] []))) [(.t 125)], (some (122, true))⟩,
  ⟨(some 127), .call (.k (.d (.func (.func 36) [] []))) [(.t 123), (.t 126)], (some (122, true))⟩,
  ⟨(some 128), .not (.t 127), (some (122, true))⟩,
  ⟨(some 129), .pick (.t 122) (.t 128) (.k (.d (.bool false))), (some (120, false))⟩,
  ⟨(some 130), .pick (.t 120) (.k (.d (.bool true))) (.t 129), none⟩,
  ⟨(some 131), .mov (.t 130), none⟩,
  ⟨(some 132), .faddr 0 (.t 3), (some (131, false))⟩,
  ⟨(some 133), .load none (.t 132), (some (131, false))⟩,
  ⟨(some 134), .mov (.t 4), (some (131, false))⟩,
  ⟨(some 135), .bin .neq (.t 133) (.t 134), (some (131, false))⟩,
  ⟨(some 136), .pick (.t 131) (.k (.d (.bool true))) (.t 135), none⟩,
  ⟨(some 137), .mov (.t 136), none⟩,
  ⟨(some 138), .faddr 1 (.t 3), (some (137, false))⟩,
  ⟨(some 139), .load none (.t 138), (some (137, false))⟩,
  ⟨(some 140), .mov (.t 5), (some (137, false))⟩,
  ⟨(some 141), .bin .neq (.t 139) (.t 140), (some (137, false))⟩,
  ⟨(some 142), .pick (.t 137) (.k (.d (.bool true))) (.t 141), none⟩,
  ⟨(some 143), .mov (.t 142), none⟩,
  ⟨(some 144), .load (some 3) (.t 3), (some (143, false))⟩,
  ⟨(some 145), .call (.k (.d (.func (.func 32) [] []))) [(.t 144)], (some (143, false))⟩,
  ⟨(some 146), .not (.t 145), (some (143, false))⟩,
  ⟨(some 147), .pick (.t 143) (.k (.d (.bool true))) (.t 146), none⟩]
noncomputable def s_farandolelaw51_QueueOnce_r29 : List SOper := [
  ⟨(some 2), .mov (.k (.d (.bool false))), none⟩]
noncomputable def s_farandolelaw51_QueueOnce_r30 : List SOper := [
  ⟨(some 26), .mov (.t 6), none⟩,
  ⟨(some 27), .bin .add (.t 26) (.k (.d (.int .i64 1))), none⟩,
  ⟨(some 6), .mov (.t 27), none⟩]
noncomputable def s_farandolelaw51_QueueOnce_l31 : SCode := (.seq (.seq (.region s_farandolelaw51_QueueOnce_r8 0 []) (.cond (.t 25) .skip (.exit 0))) (.seq (.block 1 (.seq (.seq (.region s_farandolelaw51_QueueOnce_r9 0 []) (.cond (.t 41) (.seq (.region s_farandolelaw51_QueueOnce_r10 0 []) .ret) .skip)) (.seq (.seq (.region s_farandolelaw51_QueueOnce_r11 0 []) (.cond (.t 47) (.seq (.region s_farandolelaw51_QueueOnce_r12 0 []) (.seq (.seq (.region s_farandolelaw51_QueueOnce_r13 0 []) (.cond (.t 56) (.exit 1) .skip)) (.seq (.region s_farandolelaw51_QueueOnce_r14 1 [(0, 7)]) (.seq (.region s_farandolelaw51_QueueOnce_r15 0 []) (.seq (.seq (.region s_farandolelaw51_QueueOnce_r16 0 []) (.cond (.t 77) (.seq (.region s_farandolelaw51_QueueOnce_r17 0 []) .ret) .skip)) (.seq (.region s_farandolelaw51_QueueOnce_r18 0 []) (.cond (.t 78) (.region s_farandolelaw51_QueueOnce_r19 0 []) .skip))))))) (.seq (.region s_farandolelaw51_QueueOnce_r20 0 []) (.seq (.region s_farandolelaw51_QueueOnce_r21 1 []) (.seq (.region s_farandolelaw51_QueueOnce_r22 0 []) (.seq (.seq (.region s_farandolelaw51_QueueOnce_r23 0 []) (.cond (.t 106) (.seq (.region s_farandolelaw51_QueueOnce_r24 0 []) .ret) .skip)) (.seq (.region s_farandolelaw51_QueueOnce_r25 0 []) (.cond (.t 107) (.region s_farandolelaw51_QueueOnce_r26 0 []) .skip)))))))) (.seq (.region s_farandolelaw51_QueueOnce_r27 1 []) (.seq (.region s_farandolelaw51_QueueOnce_r28 0 []) (.cond (.t 147) (.seq (.region s_farandolelaw51_QueueOnce_r29 0 []) .ret) .skip)))))) (.region s_farandolelaw51_QueueOnce_r30 0 [])))
theorem e_farandolelaw51_QueueOnce_l31 {P : Program} {k0 : Nat} {Q : SExit → St → Prop} {st : St} : AWp P k0 s_farandolelaw51_QueueOnce_l31 Q st = AWp P k0 (.seq (.seq (.region s_farandolelaw51_QueueOnce_r8 0 []) (.cond (.t 25) .skip (.exit 0))) (.seq (.block 1 (.seq (.seq (.region s_farandolelaw51_QueueOnce_r9 0 []) (.cond (.t 41) (.seq (.region s_farandolelaw51_QueueOnce_r10 0 []) .ret) .skip)) (.seq (.seq (.region s_farandolelaw51_QueueOnce_r11 0 []) (.cond (.t 47) (.seq (.region s_farandolelaw51_QueueOnce_r12 0 []) (.seq (.seq (.region s_farandolelaw51_QueueOnce_r13 0 []) (.cond (.t 56) (.exit 1) .skip)) (.seq (.region s_farandolelaw51_QueueOnce_r14 1 [(0, 7)]) (.seq (.region s_farandolelaw51_QueueOnce_r15 0 []) (.seq (.seq (.region s_farandolelaw51_QueueOnce_r16 0 []) (.cond (.t 77) (.seq (.region s_farandolelaw51_QueueOnce_r17 0 []) .ret) .skip)) (.seq (.region s_farandolelaw51_QueueOnce_r18 0 []) (.cond (.t 78) (.region s_farandolelaw51_QueueOnce_r19 0 []) .skip))))))) (.seq (.region s_farandolelaw51_QueueOnce_r20 0 []) (.seq (.region s_farandolelaw51_QueueOnce_r21 1 []) (.seq (.region s_farandolelaw51_QueueOnce_r22 0 []) (.seq (.seq (.region s_farandolelaw51_QueueOnce_r23 0 []) (.cond (.t 106) (.seq (.region s_farandolelaw51_QueueOnce_r24 0 []) .ret) .skip)) (.seq (.region s_farandolelaw51_QueueOnce_r25 0 []) (.cond (.t 107) (.region s_farandolelaw51_QueueOnce_r26 0 []) .skip)))))))) (.seq (.region s_farandolelaw51_QueueOnce_r27 1 []) (.seq (.region s_farandolelaw51_QueueOnce_r28 0 []) (.cond (.t 147) (.seq (.region s_farandolelaw51_QueueOnce_r29 0 []) .ret) .skip)))))) (.region s_farandolelaw51_QueueOnce_r30 0 []))) Q st := rfl
noncomputable def s_farandolelaw51_QueueOnce_r32 : List SOper := [
  ⟨(some 2), .mov (.k (.d (.bool true))), none⟩]
noncomputable def s_farandolelaw51_QueueOnce : SCode := (.seq (.region s_farandolelaw51_QueueOnce_r0 0 []) (.seq (.seq (.region s_farandolelaw51_QueueOnce_r1 0 []) (.cond (.t 18) (.seq (.region s_farandolelaw51_QueueOnce_r2 0 []) .ret) .skip)) (.seq (.seq (.region s_farandolelaw51_QueueOnce_r3 0 []) (.cond (.t 21) (.seq (.region s_farandolelaw51_QueueOnce_r4 0 []) .ret) .skip)) (.seq (.region s_farandolelaw51_QueueOnce_r5 1 []) (.seq (.region s_farandolelaw51_QueueOnce_r6 0 []) (.seq (.seq (.region s_farandolelaw51_QueueOnce_r7 0 []) (.block 0 (.loop s_farandolelaw51_QueueOnce_l31))) (.seq (.region s_farandolelaw51_QueueOnce_r32 0 []) .ret)))))))
theorem e_farandolelaw51_QueueOnce {P : Program} {k0 : Nat} {Q : SExit → St → Prop} {st : St} : AWp P k0 s_farandolelaw51_QueueOnce Q st = AWp P k0 (.seq (.region s_farandolelaw51_QueueOnce_r0 0 []) (.seq (.seq (.region s_farandolelaw51_QueueOnce_r1 0 []) (.cond (.t 18) (.seq (.region s_farandolelaw51_QueueOnce_r2 0 []) .ret) .skip)) (.seq (.seq (.region s_farandolelaw51_QueueOnce_r3 0 []) (.cond (.t 21) (.seq (.region s_farandolelaw51_QueueOnce_r4 0 []) .ret) .skip)) (.seq (.region s_farandolelaw51_QueueOnce_r5 1 []) (.seq (.region s_farandolelaw51_QueueOnce_r6 0 []) (.seq (.seq (.region s_farandolelaw51_QueueOnce_r7 0 []) (.block 0 (.loop s_farandolelaw51_QueueOnce_l31))) (.seq (.region s_farandolelaw51_QueueOnce_r32 0 []) .ret))))))) Q st := rfl
theorem u_farandolelaw51_QueueOnce_r0 {P : Program} {o : Nat} {p : List (Nat × Nat)} {Q : SExit → St → Prop} {st : St} : goReg P s_farandolelaw51_QueueOnce_r0 o p Q st = goLit P (litOf s_farandolelaw51_QueueOnce_r0.eq_1) o p Q st := goReg_of _
theorem u_farandolelaw51_QueueOnce_r1 {P : Program} {o : Nat} {p : List (Nat × Nat)} {Q : SExit → St → Prop} {st : St} : goReg P s_farandolelaw51_QueueOnce_r1 o p Q st = goLit P (litOf s_farandolelaw51_QueueOnce_r1.eq_1) o p Q st := goReg_of _
theorem u_farandolelaw51_QueueOnce_r2 {P : Program} {o : Nat} {p : List (Nat × Nat)} {Q : SExit → St → Prop} {st : St} : goReg P s_farandolelaw51_QueueOnce_r2 o p Q st = goLit P (litOf s_farandolelaw51_QueueOnce_r2.eq_1) o p Q st := goReg_of _
theorem u_farandolelaw51_QueueOnce_r3 {P : Program} {o : Nat} {p : List (Nat × Nat)} {Q : SExit → St → Prop} {st : St} : goReg P s_farandolelaw51_QueueOnce_r3 o p Q st = goLit P (litOf s_farandolelaw51_QueueOnce_r3.eq_1) o p Q st := goReg_of _
theorem u_farandolelaw51_QueueOnce_r4 {P : Program} {o : Nat} {p : List (Nat × Nat)} {Q : SExit → St → Prop} {st : St} : goReg P s_farandolelaw51_QueueOnce_r4 o p Q st = goLit P (litOf s_farandolelaw51_QueueOnce_r4.eq_1) o p Q st := goReg_of _
theorem u_farandolelaw51_QueueOnce_r5 {P : Program} {o : Nat} {p : List (Nat × Nat)} {Q : SExit → St → Prop} {st : St} : goReg P s_farandolelaw51_QueueOnce_r5 o p Q st = goLit P (litOf s_farandolelaw51_QueueOnce_r5.eq_1) o p Q st := goReg_of _
theorem u_farandolelaw51_QueueOnce_r6 {P : Program} {o : Nat} {p : List (Nat × Nat)} {Q : SExit → St → Prop} {st : St} : goReg P s_farandolelaw51_QueueOnce_r6 o p Q st = goLit P (litOf s_farandolelaw51_QueueOnce_r6.eq_1) o p Q st := goReg_of _
theorem u_farandolelaw51_QueueOnce_r7 {P : Program} {o : Nat} {p : List (Nat × Nat)} {Q : SExit → St → Prop} {st : St} : goReg P s_farandolelaw51_QueueOnce_r7 o p Q st = goLit P (litOf s_farandolelaw51_QueueOnce_r7.eq_1) o p Q st := goReg_of _
theorem u_farandolelaw51_QueueOnce_r8 {P : Program} {o : Nat} {p : List (Nat × Nat)} {Q : SExit → St → Prop} {st : St} : goReg P s_farandolelaw51_QueueOnce_r8 o p Q st = goLit P (litOf s_farandolelaw51_QueueOnce_r8.eq_1) o p Q st := goReg_of _
theorem u_farandolelaw51_QueueOnce_r9 {P : Program} {o : Nat} {p : List (Nat × Nat)} {Q : SExit → St → Prop} {st : St} : goReg P s_farandolelaw51_QueueOnce_r9 o p Q st = goLit P (litOf s_farandolelaw51_QueueOnce_r9.eq_1) o p Q st := goReg_of _
theorem u_farandolelaw51_QueueOnce_r10 {P : Program} {o : Nat} {p : List (Nat × Nat)} {Q : SExit → St → Prop} {st : St} : goReg P s_farandolelaw51_QueueOnce_r10 o p Q st = goLit P (litOf s_farandolelaw51_QueueOnce_r10.eq_1) o p Q st := goReg_of _
theorem u_farandolelaw51_QueueOnce_r11 {P : Program} {o : Nat} {p : List (Nat × Nat)} {Q : SExit → St → Prop} {st : St} : goReg P s_farandolelaw51_QueueOnce_r11 o p Q st = goLit P (litOf s_farandolelaw51_QueueOnce_r11.eq_1) o p Q st := goReg_of _
theorem u_farandolelaw51_QueueOnce_r12 {P : Program} {o : Nat} {p : List (Nat × Nat)} {Q : SExit → St → Prop} {st : St} : goReg P s_farandolelaw51_QueueOnce_r12 o p Q st = goLit P (litOf s_farandolelaw51_QueueOnce_r12.eq_1) o p Q st := goReg_of _
theorem u_farandolelaw51_QueueOnce_r13 {P : Program} {o : Nat} {p : List (Nat × Nat)} {Q : SExit → St → Prop} {st : St} : goReg P s_farandolelaw51_QueueOnce_r13 o p Q st = goLit P (litOf s_farandolelaw51_QueueOnce_r13.eq_1) o p Q st := goReg_of _
theorem u_farandolelaw51_QueueOnce_r14 {P : Program} {o : Nat} {p : List (Nat × Nat)} {Q : SExit → St → Prop} {st : St} : goReg P s_farandolelaw51_QueueOnce_r14 o p Q st = goLit P (litOf s_farandolelaw51_QueueOnce_r14.eq_1) o p Q st := goReg_of _
theorem u_farandolelaw51_QueueOnce_r15 {P : Program} {o : Nat} {p : List (Nat × Nat)} {Q : SExit → St → Prop} {st : St} : goReg P s_farandolelaw51_QueueOnce_r15 o p Q st = goLit P (litOf s_farandolelaw51_QueueOnce_r15.eq_1) o p Q st := goReg_of _
theorem u_farandolelaw51_QueueOnce_r16 {P : Program} {o : Nat} {p : List (Nat × Nat)} {Q : SExit → St → Prop} {st : St} : goReg P s_farandolelaw51_QueueOnce_r16 o p Q st = goLit P (litOf s_farandolelaw51_QueueOnce_r16.eq_1) o p Q st := goReg_of _
theorem u_farandolelaw51_QueueOnce_r17 {P : Program} {o : Nat} {p : List (Nat × Nat)} {Q : SExit → St → Prop} {st : St} : goReg P s_farandolelaw51_QueueOnce_r17 o p Q st = goLit P (litOf s_farandolelaw51_QueueOnce_r17.eq_1) o p Q st := goReg_of _
theorem u_farandolelaw51_QueueOnce_r18 {P : Program} {o : Nat} {p : List (Nat × Nat)} {Q : SExit → St → Prop} {st : St} : goReg P s_farandolelaw51_QueueOnce_r18 o p Q st = goLit P (litOf s_farandolelaw51_QueueOnce_r18.eq_1) o p Q st := goReg_of _
theorem u_farandolelaw51_QueueOnce_r19 {P : Program} {o : Nat} {p : List (Nat × Nat)} {Q : SExit → St → Prop} {st : St} : goReg P s_farandolelaw51_QueueOnce_r19 o p Q st = goLit P (litOf s_farandolelaw51_QueueOnce_r19.eq_1) o p Q st := goReg_of _
theorem u_farandolelaw51_QueueOnce_r20 {P : Program} {o : Nat} {p : List (Nat × Nat)} {Q : SExit → St → Prop} {st : St} : goReg P s_farandolelaw51_QueueOnce_r20 o p Q st = goLit P (litOf s_farandolelaw51_QueueOnce_r20.eq_1) o p Q st := goReg_of _
theorem u_farandolelaw51_QueueOnce_r21 {P : Program} {o : Nat} {p : List (Nat × Nat)} {Q : SExit → St → Prop} {st : St} : goReg P s_farandolelaw51_QueueOnce_r21 o p Q st = goLit P (litOf s_farandolelaw51_QueueOnce_r21.eq_1) o p Q st := goReg_of _
theorem u_farandolelaw51_QueueOnce_r22 {P : Program} {o : Nat} {p : List (Nat × Nat)} {Q : SExit → St → Prop} {st : St} : goReg P s_farandolelaw51_QueueOnce_r22 o p Q st = goLit P (litOf s_farandolelaw51_QueueOnce_r22.eq_1) o p Q st := goReg_of _
theorem u_farandolelaw51_QueueOnce_r23 {P : Program} {o : Nat} {p : List (Nat × Nat)} {Q : SExit → St → Prop} {st : St} : goReg P s_farandolelaw51_QueueOnce_r23 o p Q st = goLit P (litOf s_farandolelaw51_QueueOnce_r23.eq_1) o p Q st := goReg_of _
theorem u_farandolelaw51_QueueOnce_r24 {P : Program} {o : Nat} {p : List (Nat × Nat)} {Q : SExit → St → Prop} {st : St} : goReg P s_farandolelaw51_QueueOnce_r24 o p Q st = goLit P (litOf s_farandolelaw51_QueueOnce_r24.eq_1) o p Q st := goReg_of _
theorem u_farandolelaw51_QueueOnce_r25 {P : Program} {o : Nat} {p : List (Nat × Nat)} {Q : SExit → St → Prop} {st : St} : goReg P s_farandolelaw51_QueueOnce_r25 o p Q st = goLit P (litOf s_farandolelaw51_QueueOnce_r25.eq_1) o p Q st := goReg_of _
theorem u_farandolelaw51_QueueOnce_r26 {P : Program} {o : Nat} {p : List (Nat × Nat)} {Q : SExit → St → Prop} {st : St} : goReg P s_farandolelaw51_QueueOnce_r26 o p Q st = goLit P (litOf s_farandolelaw51_QueueOnce_r26.eq_1) o p Q st := goReg_of _
theorem u_farandolelaw51_QueueOnce_r27 {P : Program} {o : Nat} {p : List (Nat × Nat)} {Q : SExit → St → Prop} {st : St} : goReg P s_farandolelaw51_QueueOnce_r27 o p Q st = goLit P (litOf s_farandolelaw51_QueueOnce_r27.eq_1) o p Q st := goReg_of _
theorem u_farandolelaw51_QueueOnce_r28 {P : Program} {o : Nat} {p : List (Nat × Nat)} {Q : SExit → St → Prop} {st : St} : goReg P s_farandolelaw51_QueueOnce_r28 o p Q st = goLit P (litOf s_farandolelaw51_QueueOnce_r28.eq_1) o p Q st := goReg_of _
theorem u_farandolelaw51_QueueOnce_r29 {P : Program} {o : Nat} {p : List (Nat × Nat)} {Q : SExit → St → Prop} {st : St} : goReg P s_farandolelaw51_QueueOnce_r29 o p Q st = goLit P (litOf s_farandolelaw51_QueueOnce_r29.eq_1) o p Q st := goReg_of _
theorem u_farandolelaw51_QueueOnce_r30 {P : Program} {o : Nat} {p : List (Nat × Nat)} {Q : SExit → St → Prop} {st : St} : goReg P s_farandolelaw51_QueueOnce_r30 o p Q st = goLit P (litOf s_farandolelaw51_QueueOnce_r30.eq_1) o p Q st := goReg_of _
theorem u_farandolelaw51_QueueOnce_r32 {P : Program} {o : Nat} {p : List (Nat × Nat)} {Q : SExit → St → Prop} {st : St} : goReg P s_farandolelaw51_QueueOnce_r32 o p Q st = goLit P (litOf s_farandolelaw51_QueueOnce_r32.eq_1) o p Q st := goReg_of _
attribute [go_sem] u_farandolelaw51_QueueOnce_r0 u_farandolelaw51_QueueOnce_r1 u_farandolelaw51_QueueOnce_r2 u_farandolelaw51_QueueOnce_r3 u_farandolelaw51_QueueOnce_r4 u_farandolelaw51_QueueOnce_r5 u_farandolelaw51_QueueOnce_r6 u_farandolelaw51_QueueOnce_r7 u_farandolelaw51_QueueOnce_r8 u_farandolelaw51_QueueOnce_r9 u_farandolelaw51_QueueOnce_r10 u_farandolelaw51_QueueOnce_r11 u_farandolelaw51_QueueOnce_r12 u_farandolelaw51_QueueOnce_r13 u_farandolelaw51_QueueOnce_r14 u_farandolelaw51_QueueOnce_r15 u_farandolelaw51_QueueOnce_r16 u_farandolelaw51_QueueOnce_r17 u_farandolelaw51_QueueOnce_r18 u_farandolelaw51_QueueOnce_r19 u_farandolelaw51_QueueOnce_r20 u_farandolelaw51_QueueOnce_r21 u_farandolelaw51_QueueOnce_r22 u_farandolelaw51_QueueOnce_r23 u_farandolelaw51_QueueOnce_r24 u_farandolelaw51_QueueOnce_r25 u_farandolelaw51_QueueOnce_r26 u_farandolelaw51_QueueOnce_r27 u_farandolelaw51_QueueOnce_r28 u_farandolelaw51_QueueOnce_r29 u_farandolelaw51_QueueOnce_r30 e_farandolelaw51_QueueOnce_l31 u_farandolelaw51_QueueOnce_r32 e_farandolelaw51_QueueOnce
set_option maxRecDepth 100000 in
theorem c_farandolelaw51_QueueOnce : Try.f5.body.bind (compCode Try.prog Try.f5.ntmps) = some s_farandolelaw51_QueueOnce := by kernel_rfl
theorem r_farandolelaw51_QueueOnce : Try.f5.results.toList.mapM (compRes Try.prog) = some [(.tmp 2)] := by kernel_rfl
theorem n_farandolelaw51_QueueOnce : Try.f5.ntmps = 148 := by kernel_rfl
theorem b_farandolelaw51_QueueOnce : (Try.prog.funcs[5]?).any (fun fn => fn.body.isSome && !(fn.name == "runtime.NumGoroutine")) = true := by kernel_rfl
theorem k_farandolelaw51_QueueOnce {args : List ASlot} {r : ASlot} (h : AWp Try.prog 0 s_farandolelaw51_QueueOnce (bodyQ 0 [(.tmp 2)] [r] []) (entrySt args [])) (hN : args.length ≤ 148 := by simp) (hw : ltB 16 (toksOf args) = true := by rfl) : ACall Try.prog 5 args [] r [] :=
  acall_go (rs := [r]) follows Try.func5 c_farandolelaw51_QueueOnce r_farandolelaw51_QueueOnce h (by rw [n_farandolelaw51_QueueOnce]; exact hN) rfl hw



structure OnceSt (l : List Stp) where
  a : Nat
  c : Nat
  i : Nat
  ca : c ≤ a
  a4 : a - c ≤ 4
  ai : a ≤ i
  il : i ≤ l.length

def Sonce (l : List Stp) (x : OnceSt l) : St :=
  ⟨[(0, true, .d (.sl 2 (l.map encStp))), (3, true, .d (.ptr 0 0)), (4, true, .d (.int .i64 (x.a : Nat))), (5, true, .d (.int .i64 (x.c : Nat))), (6, true, .d (.int .i64 (x.i : Nat)))],
   [.row [.d (.int .i64 (x.a : Nat)), .d (.int .i64 (x.c : Nat)), .d (.sl 9 ((can x.a x.c).items.map encPk))]], [], 1⟩

theorem can_enc (a c : Nat) : encQ (can a c) = [.int .i64 (a : Nat), .int .i64 (c : Nat), .sl 9 ((can a c).items.map encPk)] := rfl
theorem items00 : (can 0 0).items = [] := rfl

set_option maxHeartbeats 4000000 in
set_option maxRecDepth 20000 in
theorem queueOnce_ok (l : List Stp) :
    ACall Try.prog 5 [.d (.sl 2 (l.map encStp))] [] (.d (.bool true)) [] := by
  refine k_farandolelaw51_QueueOnce ?_
  try simp only [go_sem, Nat.reduceAdd, Nat.reduceMul, Nat.reduceSub, Nat.reduceEqDiff, Nat.reduceLT, Nat.reduceLeDiff, Nat.reduceBEq, reduceIte, reduceCtorEq, Int.reduceAdd, Int.reduceLT, Int.reduceLE, Int.reduceGT, Int.reduceGE, Int.reduceEq, Int.reduceNe, Int.reduceBEq, Int.reduceBNe, Int.reduceToNat, Int.reduceNeg]
  (repeat (with_reducible refine And.intro (by first | omega | (simp_all; done) | grind) ?_)); refine callO_pure (awake51_ok) b_farandolelaw51_awake (fun h => by first | exact h | (simp only [h, Bool.and_self, Bool.and_true])) (fun _ => by first | exact ⟨matchA_refl, trivial⟩ | exact ⟨matchA_refl, matchA_refl, trivial⟩ | exact ⟨matchA_refl, matchA_refl, matchA_refl, trivial⟩ | simp only [encPk, encQ, go_sem, Nat.reduceAdd, Nat.reduceMul, Nat.reduceSub, Nat.reduceEqDiff, Nat.reduceLT, Nat.reduceLeDiff, Nat.reduceBEq, reduceIte, reduceCtorEq, Int.reduceAdd, Int.reduceLT, Int.reduceLE, Int.reduceGT, Int.reduceGE, Int.reduceEq, Int.reduceNe, Int.reduceBEq, Int.reduceBNe, Int.reduceToNat, Int.reduceNeg]) (by simp only [go_sem, Nat.reduceAdd, Nat.reduceMul, Nat.reduceSub, Nat.reduceEqDiff, Nat.reduceLT, Nat.reduceLeDiff, Nat.reduceBEq, reduceIte, reduceCtorEq, Int.reduceAdd, Int.reduceLT, Int.reduceLE, Int.reduceGT, Int.reduceGE, Int.reduceEq, Int.reduceNe, Int.reduceBEq, Int.reduceBNe, Int.reduceToNat, Int.reduceNeg]) rfl rfl ?_
  try simp only [go_sem, Nat.reduceAdd, Nat.reduceMul, Nat.reduceSub, Nat.reduceEqDiff, Nat.reduceLT, Nat.reduceLeDiff, Nat.reduceBEq, reduceIte, reduceCtorEq, Int.reduceAdd, Int.reduceLT, Int.reduceLE, Int.reduceGT, Int.reduceGE, Int.reduceEq, Int.reduceNe, Int.reduceBEq, Int.reduceBNe, Int.reduceToNat, Int.reduceNeg]
  (repeat (with_reducible refine And.intro (by first | omega | (simp_all; done) | grind) ?_)); refine AWp_cond _ rfl rfl (fun h => Bool.noConfusion h) (fun _ => ?_)
  try simp only [go_sem, Nat.reduceAdd, Nat.reduceMul, Nat.reduceSub, Nat.reduceEqDiff, Nat.reduceLT, Nat.reduceLeDiff, Nat.reduceBEq, reduceIte, reduceCtorEq, Int.reduceAdd, Int.reduceLT, Int.reduceLE, Int.reduceGT, Int.reduceGE, Int.reduceEq, Int.reduceNe, Int.reduceBEq, Int.reduceBNe, Int.reduceToNat, Int.reduceNeg]
  (repeat (with_reducible refine And.intro (by first | omega | (simp_all; done) | grind) ?_)); refine AWp_cond _ rfl rfl (fun h => ?_) (fun h => ?_)
  · try simp only [go_sem, Nat.reduceAdd, Nat.reduceMul, Nat.reduceSub, Nat.reduceEqDiff, Nat.reduceLT, Nat.reduceLeDiff, Nat.reduceBEq, reduceIte, reduceCtorEq, Int.reduceAdd, Int.reduceLT, Int.reduceLE, Int.reduceGT, Int.reduceGE, Int.reduceEq, Int.reduceNe, Int.reduceBEq, Int.reduceBNe, Int.reduceToNat, Int.reduceNeg]
  have hl : l.length ≤ 60 := by simp only [decide_eq_false_iff_not] at h; omega
  try simp only [go_sem, Nat.reduceAdd, Nat.reduceMul, Nat.reduceSub, Nat.reduceEqDiff, Nat.reduceLT, Nat.reduceLeDiff, Nat.reduceBEq, reduceIte, reduceCtorEq, Int.reduceAdd, Int.reduceLT, Int.reduceLE, Int.reduceGT, Int.reduceGE, Int.reduceEq, Int.reduceNe, Int.reduceBEq, Int.reduceBNe, Int.reduceToNat, Int.reduceNeg]
  refine AWp_loop (Sonce l) (fun x => l.length - x.i) ⟨0, 0, 0, Nat.le_refl _, by decide, Nat.le_refl _, Nat.zero_le _⟩ ?_ (fun x => ?_)
  · try simp only [Sonce, items00, List.map_nil, go_sem, Nat.reduceAdd, Nat.reduceMul, Nat.reduceSub, Nat.reduceEqDiff, Nat.reduceLT, Nat.reduceLeDiff, Nat.reduceBEq, reduceIte, reduceCtorEq, Int.reduceAdd, Int.reduceLT, Int.reduceLE, Int.reduceGT, Int.reduceGE, Int.reduceEq, Int.reduceNe, Int.reduceBEq, Int.reduceBNe, Int.reduceToNat, Int.reduceNeg]
  obtain ⟨a, c, i, ca, a4, ai, il⟩ := x
  try simp only [Sonce, go_sem, Nat.reduceAdd, Nat.reduceMul, Nat.reduceSub, Nat.reduceEqDiff, Nat.reduceLT, Nat.reduceLeDiff, Nat.reduceBEq, reduceIte, reduceCtorEq, Int.reduceAdd, Int.reduceLT, Int.reduceLE, Int.reduceGT, Int.reduceGE, Int.reduceEq, Int.reduceNe, Int.reduceBEq, Int.reduceBNe, Int.reduceToNat, Int.reduceNeg]
  (repeat (with_reducible refine And.intro (by first | omega | (simp_all; done) | grind) ?_)); refine AWp_cond _ rfl rfl (fun h => ?_) (fun h => ?_)
  · have hil : i < l.length := by simpa using h
    simp only [getD_map encStp l hil, encStp, go_sem, Nat.reduceAdd, Nat.reduceMul, Nat.reduceSub, Nat.reduceEqDiff, Nat.reduceLT, Nat.reduceLeDiff, Nat.reduceBEq, reduceIte, reduceCtorEq, Int.reduceAdd, Int.reduceLT, Int.reduceLE, Int.reduceGT, Int.reduceGE, Int.reduceEq, Int.reduceNe, Int.reduceBEq, Int.reduceBNe, Int.reduceToNat, Int.reduceNeg]
    (repeat (with_reducible refine And.intro (by first | omega | (simp_all; done) | grind) ?_)); refine AWp_cond _ rfl rfl (fun h => ?_) (fun h => ?_)
    · try simp only [go_sem, Nat.reduceAdd, Nat.reduceMul, Nat.reduceSub, Nat.reduceEqDiff, Nat.reduceLT, Nat.reduceLeDiff, Nat.reduceBEq, reduceIte, reduceCtorEq, Int.reduceAdd, Int.reduceLT, Int.reduceLE, Int.reduceGT, Int.reduceGE, Int.reduceEq, Int.reduceNe, Int.reduceBEq, Int.reduceBNe, Int.reduceToNat, Int.reduceNeg]
    have hn : -10 ≤ l[i].n ∧ l[i].n ≤ 10 := by
      simp only [Bool.or_eq_false_iff, decide_eq_false_iff_not] at h
      omega
    simp only [getD_map encStp l hil, encStp, go_sem, Nat.reduceAdd, Nat.reduceMul, Nat.reduceSub, Nat.reduceEqDiff, Nat.reduceLT, Nat.reduceLeDiff, Nat.reduceBEq, reduceIte, reduceCtorEq, Int.reduceAdd, Int.reduceLT, Int.reduceLE, Int.reduceGT, Int.reduceGE, Int.reduceEq, Int.reduceNe, Int.reduceBEq, Int.reduceBNe, Int.reduceToNat, Int.reduceNeg]
    (repeat (with_reducible refine And.intro (by first | omega | (simp_all; done) | grind) ?_)); refine AWp_cond _ rfl rfl (fun h => ?_) (fun h => ?_)
    · have hwn : IntKind.i64.wrap ((a : Int) + l[i].n) = (a : Int) + l[i].n := wrap_i64 (by omega) (by omega)
      simp only [getD_map encStp l hil, encStp, hwn, go_sem, Nat.reduceAdd, Nat.reduceMul, Nat.reduceSub, Nat.reduceEqDiff, Nat.reduceLT, Nat.reduceLeDiff, Nat.reduceBEq, reduceIte, reduceCtorEq, Int.reduceAdd, Int.reduceLT, Int.reduceLE, Int.reduceGT, Int.reduceGE, Int.reduceEq, Int.reduceNe, Int.reduceBEq, Int.reduceBNe, Int.reduceToNat, Int.reduceNeg]
      (repeat (with_reducible refine And.intro (by first | omega | (simp_all; done) | grind) ?_)); refine AWp_cond _ rfl rfl (fun h => ?_) (fun h => ?_)
      · try simp only [go_sem, Nat.reduceAdd, Nat.reduceMul, Nat.reduceSub, Nat.reduceEqDiff, Nat.reduceLT, Nat.reduceLeDiff, Nat.reduceBEq, reduceIte, reduceCtorEq, Int.reduceAdd, Int.reduceLT, Int.reduceLE, Int.reduceGT, Int.reduceGE, Int.reduceEq, Int.reduceNe, Int.reduceBEq, Int.reduceBNe, Int.reduceToNat, Int.reduceNeg]
        refine ⟨⟨a, c, i + 1, by omega, by omega, by omega, by omega⟩, ?_, by dsimp only; omega⟩
        simp only [Sonce, wrap_succ (show i < 9223372036854775807 by omega), go_sem, Nat.reduceAdd, Nat.reduceMul, Nat.reduceSub, Nat.reduceEqDiff, Nat.reduceLT, Nat.reduceLeDiff, Nat.reduceBEq, reduceIte, reduceCtorEq, Int.reduceAdd, Int.reduceLT, Int.reduceLE, Int.reduceGT, Int.reduceGE, Int.reduceEq, Int.reduceNe, Int.reduceBEq, Int.reduceBNe, Int.reduceToNat, Int.reduceNeg]
      have hs1 : 1 ≤ (a : Int) + l[i].n := by
        simp only [decide_eq_false_iff_not] at h; omega
      by_cases hy : (a : Int) + l[i].n = (a : Int) + 1 ∧ a - c < 4
      · have co := qOffer_ok (can a c) (msg ((a : Int) + 1)) (can_sm (by omega)) (msg_sm _)
        rw [can_offer_yes ca hy.2 (by omega)] at co
        simp only [can_enc] at co
        have hd : decide ((a : Int) - (c : Int) < 4) = true := decide_eq_true (by omega)
        have hw2 : IntKind.i64.wrap ((a : Int) - (c : Int)) = (a : Int) - (c : Int) := wrap_i64 (by omega) (by omega)
        have hw3 : IntKind.i64.wrap ((a : Int) + 1) = (a : Int) + 1 := wrap_i64 (by omega) (by omega)
        try simp only [hy.1, go_sem, Nat.reduceAdd, Nat.reduceMul, Nat.reduceSub, Nat.reduceEqDiff, Nat.reduceLT, Nat.reduceLeDiff, Nat.reduceBEq, reduceIte, reduceCtorEq, Int.reduceAdd, Int.reduceLT, Int.reduceLE, Int.reduceGT, Int.reduceGE, Int.reduceEq, Int.reduceNe, Int.reduceBEq, Int.reduceBNe, Int.reduceToNat, Int.reduceNeg]
        (repeat (with_reducible refine And.intro (by first | omega | (simp_all; done) | grind) ?_)); refine callO_pure (msg_ok ((a : Int) + 1)) b_farandolelaw51_message (fun h => by first | exact h | (simp only [h, Bool.and_self, Bool.and_true])) (fun _ => by first | exact ⟨matchA_refl, trivial⟩ | exact ⟨matchA_refl, matchA_refl, trivial⟩ | exact ⟨matchA_refl, matchA_refl, matchA_refl, trivial⟩ | simp only [encPk, encQ, go_sem, Nat.reduceAdd, Nat.reduceMul, Nat.reduceSub, Nat.reduceEqDiff, Nat.reduceLT, Nat.reduceLeDiff, Nat.reduceBEq, reduceIte, reduceCtorEq, Int.reduceAdd, Int.reduceLT, Int.reduceLE, Int.reduceGT, Int.reduceGE, Int.reduceEq, Int.reduceNe, Int.reduceBEq, Int.reduceBNe, Int.reduceToNat, Int.reduceNeg]) (by simp only [go_sem, Nat.reduceAdd, Nat.reduceMul, Nat.reduceSub, Nat.reduceEqDiff, Nat.reduceLT, Nat.reduceLeDiff, Nat.reduceBEq, reduceIte, reduceCtorEq, Int.reduceAdd, Int.reduceLT, Int.reduceLE, Int.reduceGT, Int.reduceGE, Int.reduceEq, Int.reduceNe, Int.reduceBEq, Int.reduceBNe, Int.reduceToNat, Int.reduceNeg]) rfl rfl ?_
        try simp only [go_sem, Nat.reduceAdd, Nat.reduceMul, Nat.reduceSub, Nat.reduceEqDiff, Nat.reduceLT, Nat.reduceLeDiff, Nat.reduceBEq, reduceIte, reduceCtorEq, Int.reduceAdd, Int.reduceLT, Int.reduceLE, Int.reduceGT, Int.reduceGE, Int.reduceEq, Int.reduceNe, Int.reduceBEq, Int.reduceBNe, Int.reduceToNat, Int.reduceNeg]
        (repeat (with_reducible refine And.intro (by first | omega | (simp_all; done) | grind) ?_)); refine callO_pure (co) b_queue_Offer (fun h => by first | exact h | (simp only [h, Bool.and_self, Bool.and_true])) (fun _ => by first | exact ⟨matchA_refl, trivial⟩ | exact ⟨matchA_refl, matchA_refl, trivial⟩ | exact ⟨matchA_refl, matchA_refl, matchA_refl, trivial⟩ | simp only [encPk, encQ, go_sem, Nat.reduceAdd, Nat.reduceMul, Nat.reduceSub, Nat.reduceEqDiff, Nat.reduceLT, Nat.reduceLeDiff, Nat.reduceBEq, reduceIte, reduceCtorEq, Int.reduceAdd, Int.reduceLT, Int.reduceLE, Int.reduceGT, Int.reduceGE, Int.reduceEq, Int.reduceNe, Int.reduceBEq, Int.reduceBNe, Int.reduceToNat, Int.reduceNeg]) (by simp only [go_sem, Nat.reduceAdd, Nat.reduceMul, Nat.reduceSub, Nat.reduceEqDiff, Nat.reduceLT, Nat.reduceLeDiff, Nat.reduceBEq, reduceIte, reduceCtorEq, Int.reduceAdd, Int.reduceLT, Int.reduceLE, Int.reduceGT, Int.reduceGE, Int.reduceEq, Int.reduceNe, Int.reduceBEq, Int.reduceBNe, Int.reduceToNat, Int.reduceNeg]) rfl rfl ?_
        try simp only [hd, hw2, hw3, go_sem, Nat.reduceAdd, Nat.reduceMul, Nat.reduceSub, Nat.reduceEqDiff, Nat.reduceLT, Nat.reduceLeDiff, Nat.reduceBEq, reduceIte, reduceCtorEq, Int.reduceAdd, Int.reduceLT, Int.reduceLE, Int.reduceGT, Int.reduceGE, Int.reduceEq, Int.reduceNe, Int.reduceBEq, Int.reduceBNe, Int.reduceToNat, Int.reduceNeg]
        (repeat (with_reducible refine And.intro (by first | omega | (simp_all; done) | grind) ?_)); refine AWp_cond _ rfl rfl (fun h => Bool.noConfusion h) (fun _ => ?_)
        try simp only [go_sem, Nat.reduceAdd, Nat.reduceMul, Nat.reduceSub, Nat.reduceEqDiff, Nat.reduceLT, Nat.reduceLeDiff, Nat.reduceBEq, reduceIte, reduceCtorEq, Int.reduceAdd, Int.reduceLT, Int.reduceLE, Int.reduceGT, Int.reduceGE, Int.reduceEq, Int.reduceNe, Int.reduceBEq, Int.reduceBNe, Int.reduceToNat, Int.reduceNeg]
        (repeat (with_reducible refine And.intro (by first | omega | (simp_all; done) | grind) ?_)); refine AWp_cond _ rfl rfl (fun _ => ?_) (fun h => Bool.noConfusion h)
        try simp only [go_sem, Nat.reduceAdd, Nat.reduceMul, Nat.reduceSub, Nat.reduceEqDiff, Nat.reduceLT, Nat.reduceLeDiff, Nat.reduceBEq, reduceIte, reduceCtorEq, Int.reduceAdd, Int.reduceLT, Int.reduceLE, Int.reduceGT, Int.reduceGE, Int.reduceEq, Int.reduceNe, Int.reduceBEq, Int.reduceBNe, Int.reduceToNat, Int.reduceNeg]
        have e1 : (a : Int) + 1 = ((a + 1 : Nat) : Int) := rfl
        simp only [e1]
        clear e1
        have hv := can_valid (a := (a + 1)) (c := c) (by omega) (by omega) (by omega)
        have hsm := can_sm (a := (a + 1)) (c := c) (by omega)
        have cv := qValid_ok (can (a + 1) c) hsm
        rw [hv] at cv
        simp only [can_enc] at cv
        have cf := qFirst_ok (can (a + 1) c) hsm
        rcases Nat.lt_or_ge c (a + 1) with hlt | hge
        · rw [can_first_yes hlt] at cf
          simp only [can_enc] at cf
          have hd2 : decide (((c : Nat) : Int) < (((a + 1) : Nat) : Int)) = true := decide_eq_true (by omega)
          have hw4 : IntKind.i64.wrap (((c : Nat) : Int) + 1) = ((c : Nat) : Int) + 1 := wrap_i64 (by omega) (by omega)
          try simp only [Int.natCast_add, Int.cast_ofNat_Int] at hd2 hw4
          have ce := pkEqual_ok (msg (((c : Nat) : Int) + 1)) (msg (((c : Nat) : Int) + 1)) (Nat.zero_le _) (Nat.zero_le _)
          simp only [decide_true] at ce
          try simp only [go_sem, Nat.reduceAdd, Nat.reduceMul, Nat.reduceSub, Nat.reduceEqDiff, Nat.reduceLT, Nat.reduceLeDiff, Nat.reduceBEq, reduceIte, reduceCtorEq, Int.reduceAdd, Int.reduceLT, Int.reduceLE, Int.reduceGT, Int.reduceGE, Int.reduceEq, Int.reduceNe, Int.reduceBEq, Int.reduceBNe, Int.reduceToNat, Int.reduceNeg]
          (repeat (with_reducible refine And.intro (by first | omega | (simp_all; done) | grind) ?_)); refine callO_pure (cf) b_queue_First (fun h => by first | exact h | (simp only [h, Bool.and_self, Bool.and_true])) (fun _ => by first | exact ⟨matchA_refl, trivial⟩ | exact ⟨matchA_refl, matchA_refl, trivial⟩ | exact ⟨matchA_refl, matchA_refl, matchA_refl, trivial⟩ | simp only [encPk, encQ, go_sem, Nat.reduceAdd, Nat.reduceMul, Nat.reduceSub, Nat.reduceEqDiff, Nat.reduceLT, Nat.reduceLeDiff, Nat.reduceBEq, reduceIte, reduceCtorEq, Int.reduceAdd, Int.reduceLT, Int.reduceLE, Int.reduceGT, Int.reduceGE, Int.reduceEq, Int.reduceNe, Int.reduceBEq, Int.reduceBNe, Int.reduceToNat, Int.reduceNeg]) (by simp only [go_sem, Nat.reduceAdd, Nat.reduceMul, Nat.reduceSub, Nat.reduceEqDiff, Nat.reduceLT, Nat.reduceLeDiff, Nat.reduceBEq, reduceIte, reduceCtorEq, Int.reduceAdd, Int.reduceLT, Int.reduceLE, Int.reduceGT, Int.reduceGE, Int.reduceEq, Int.reduceNe, Int.reduceBEq, Int.reduceBNe, Int.reduceToNat, Int.reduceNeg]) rfl rfl ?_
          simp only [encPk, go_sem, Nat.reduceAdd, Nat.reduceMul, Nat.reduceSub, Nat.reduceEqDiff, Nat.reduceLT, Nat.reduceLeDiff, Nat.reduceBEq, reduceIte, reduceCtorEq, Int.reduceAdd, Int.reduceLT, Int.reduceLE, Int.reduceGT, Int.reduceGE, Int.reduceEq, Int.reduceNe, Int.reduceBEq, Int.reduceBNe, Int.reduceToNat, Int.reduceNeg]
          simp only [hd2, hw4, go_sem, Nat.reduceAdd, Nat.reduceMul, Nat.reduceSub, Nat.reduceEqDiff, Nat.reduceLT, Nat.reduceLeDiff, Nat.reduceBEq, reduceIte, reduceCtorEq, Int.reduceAdd, Int.reduceLT, Int.reduceLE, Int.reduceGT, Int.reduceGE, Int.reduceEq, Int.reduceNe, Int.reduceBEq, Int.reduceBNe, Int.reduceToNat, Int.reduceNeg]
          (repeat (with_reducible refine And.intro (by first | omega | (simp_all; done) | grind) ?_)); refine callO_pure (msg_ok (((c : Nat) : Int) + 1)) b_farandolelaw51_message (fun h => by first | exact h | (simp only [h, Bool.and_self, Bool.and_true])) (fun _ => by first | exact ⟨matchA_refl, trivial⟩ | exact ⟨matchA_refl, matchA_refl, trivial⟩ | exact ⟨matchA_refl, matchA_refl, matchA_refl, trivial⟩ | simp only [encPk, encQ, go_sem, Nat.reduceAdd, Nat.reduceMul, Nat.reduceSub, Nat.reduceEqDiff, Nat.reduceLT, Nat.reduceLeDiff, Nat.reduceBEq, reduceIte, reduceCtorEq, Int.reduceAdd, Int.reduceLT, Int.reduceLE, Int.reduceGT, Int.reduceGE, Int.reduceEq, Int.reduceNe, Int.reduceBEq, Int.reduceBNe, Int.reduceToNat, Int.reduceNeg]) (by simp only [go_sem, Nat.reduceAdd, Nat.reduceMul, Nat.reduceSub, Nat.reduceEqDiff, Nat.reduceLT, Nat.reduceLeDiff, Nat.reduceBEq, reduceIte, reduceCtorEq, Int.reduceAdd, Int.reduceLT, Int.reduceLE, Int.reduceGT, Int.reduceGE, Int.reduceEq, Int.reduceNe, Int.reduceBEq, Int.reduceBNe, Int.reduceToNat, Int.reduceNeg]) rfl rfl ?_
          try simp only [go_sem, Nat.reduceAdd, Nat.reduceMul, Nat.reduceSub, Nat.reduceEqDiff, Nat.reduceLT, Nat.reduceLeDiff, Nat.reduceBEq, reduceIte, reduceCtorEq, Int.reduceAdd, Int.reduceLT, Int.reduceLE, Int.reduceGT, Int.reduceGE, Int.reduceEq, Int.reduceNe, Int.reduceBEq, Int.reduceBNe, Int.reduceToNat, Int.reduceNeg]
          (repeat (with_reducible refine And.intro (by first | omega | (simp_all; done) | grind) ?_)); refine callO_pure (ce) b_packet_Equal (fun h => by first | exact h | (simp only [h, Bool.and_self, Bool.and_true])) (fun _ => by first | exact ⟨matchA_refl, trivial⟩ | exact ⟨matchA_refl, matchA_refl, trivial⟩ | exact ⟨matchA_refl, matchA_refl, matchA_refl, trivial⟩ | simp only [encPk, encQ, go_sem, Nat.reduceAdd, Nat.reduceMul, Nat.reduceSub, Nat.reduceEqDiff, Nat.reduceLT, Nat.reduceLeDiff, Nat.reduceBEq, reduceIte, reduceCtorEq, Int.reduceAdd, Int.reduceLT, Int.reduceLE, Int.reduceGT, Int.reduceGE, Int.reduceEq, Int.reduceNe, Int.reduceBEq, Int.reduceBNe, Int.reduceToNat, Int.reduceNeg]) (by simp only [go_sem, Nat.reduceAdd, Nat.reduceMul, Nat.reduceSub, Nat.reduceEqDiff, Nat.reduceLT, Nat.reduceLeDiff, Nat.reduceBEq, reduceIte, reduceCtorEq, Int.reduceAdd, Int.reduceLT, Int.reduceLE, Int.reduceGT, Int.reduceGE, Int.reduceEq, Int.reduceNe, Int.reduceBEq, Int.reduceBNe, Int.reduceToNat, Int.reduceNeg]) rfl rfl ?_
          try simp only [go_sem, Nat.reduceAdd, Nat.reduceMul, Nat.reduceSub, Nat.reduceEqDiff, Nat.reduceLT, Nat.reduceLeDiff, Nat.reduceBEq, reduceIte, reduceCtorEq, Int.reduceAdd, Int.reduceLT, Int.reduceLE, Int.reduceGT, Int.reduceGE, Int.reduceEq, Int.reduceNe, Int.reduceBEq, Int.reduceBNe, Int.reduceToNat, Int.reduceNeg]
          (repeat (with_reducible refine And.intro (by first | omega | (simp_all; done) | grind) ?_)); refine callO_pure (cv) b_queue_Valid (fun h => by first | exact h | (simp only [h, Bool.and_self, Bool.and_true])) (fun _ => by first | exact ⟨matchA_refl, trivial⟩ | exact ⟨matchA_refl, matchA_refl, trivial⟩ | exact ⟨matchA_refl, matchA_refl, matchA_refl, trivial⟩ | simp only [encPk, encQ, go_sem, Nat.reduceAdd, Nat.reduceMul, Nat.reduceSub, Nat.reduceEqDiff, Nat.reduceLT, Nat.reduceLeDiff, Nat.reduceBEq, reduceIte, reduceCtorEq, Int.reduceAdd, Int.reduceLT, Int.reduceLE, Int.reduceGT, Int.reduceGE, Int.reduceEq, Int.reduceNe, Int.reduceBEq, Int.reduceBNe, Int.reduceToNat, Int.reduceNeg]) (by simp only [go_sem, Nat.reduceAdd, Nat.reduceMul, Nat.reduceSub, Nat.reduceEqDiff, Nat.reduceLT, Nat.reduceLeDiff, Nat.reduceBEq, reduceIte, reduceCtorEq, Int.reduceAdd, Int.reduceLT, Int.reduceLE, Int.reduceGT, Int.reduceGE, Int.reduceEq, Int.reduceNe, Int.reduceBEq, Int.reduceBNe, Int.reduceToNat, Int.reduceNeg]) rfl rfl ?_
          try simp only [go_sem, Nat.reduceAdd, Nat.reduceMul, Nat.reduceSub, Nat.reduceEqDiff, Nat.reduceLT, Nat.reduceLeDiff, Nat.reduceBEq, reduceIte, reduceCtorEq, Int.reduceAdd, Int.reduceLT, Int.reduceLE, Int.reduceGT, Int.reduceGE, Int.reduceEq, Int.reduceNe, Int.reduceBEq, Int.reduceBNe, Int.reduceToNat, Int.reduceNeg]
          (repeat (with_reducible refine And.intro (by first | omega | (simp_all; done) | grind) ?_)); refine AWp_cond _ rfl rfl (fun h => Bool.noConfusion h) (fun _ => ?_)
          try simp only [go_sem, Nat.reduceAdd, Nat.reduceMul, Nat.reduceSub, Nat.reduceEqDiff, Nat.reduceLT, Nat.reduceLeDiff, Nat.reduceBEq, reduceIte, reduceCtorEq, Int.reduceAdd, Int.reduceLT, Int.reduceLE, Int.reduceGT, Int.reduceGE, Int.reduceEq, Int.reduceNe, Int.reduceBEq, Int.reduceBNe, Int.reduceToNat, Int.reduceNeg]
          refine ⟨⟨(a + 1), c, i + 1, by omega, by omega, by omega, by omega⟩, ?_, by dsimp only; omega⟩
          simp only [Sonce, wrap_succ (show i < 9223372036854775807 by omega), go_sem, Nat.reduceAdd, Nat.reduceMul, Nat.reduceSub, Nat.reduceEqDiff, Nat.reduceLT, Nat.reduceLeDiff, Nat.reduceBEq, reduceIte, reduceCtorEq, Int.reduceAdd, Int.reduceLT, Int.reduceLE, Int.reduceGT, Int.reduceGE, Int.reduceEq, Int.reduceNe, Int.reduceBEq, Int.reduceBNe, Int.reduceToNat, Int.reduceNeg]
        · have hac : c = (a + 1) := by omega
          have cff : qFirst (can (a + 1) c) = (⟨0, 0, 0, 0, 0, 0, 0, [], []⟩, false) := by rw [hac]; exact can_first_no
          rw [cff] at cf
          simp only [can_enc] at cf
          have hd2 : decide (((c : Nat) : Int) < (((a + 1) : Nat) : Int)) = false := decide_eq_false (by omega)
          try simp only [Int.natCast_add, Int.cast_ofNat_Int] at hd2
          try simp only [go_sem, Nat.reduceAdd, Nat.reduceMul, Nat.reduceSub, Nat.reduceEqDiff, Nat.reduceLT, Nat.reduceLeDiff, Nat.reduceBEq, reduceIte, reduceCtorEq, Int.reduceAdd, Int.reduceLT, Int.reduceLE, Int.reduceGT, Int.reduceGE, Int.reduceEq, Int.reduceNe, Int.reduceBEq, Int.reduceBNe, Int.reduceToNat, Int.reduceNeg]
          (repeat (with_reducible refine And.intro (by first | omega | (simp_all; done) | grind) ?_)); refine callO_pure (cf) b_queue_First (fun h => by first | exact h | (simp only [h, Bool.and_self, Bool.and_true])) (fun _ => by first | exact ⟨matchA_refl, trivial⟩ | exact ⟨matchA_refl, matchA_refl, trivial⟩ | exact ⟨matchA_refl, matchA_refl, matchA_refl, trivial⟩ | simp only [encPk, encQ, go_sem, Nat.reduceAdd, Nat.reduceMul, Nat.reduceSub, Nat.reduceEqDiff, Nat.reduceLT, Nat.reduceLeDiff, Nat.reduceBEq, reduceIte, reduceCtorEq, Int.reduceAdd, Int.reduceLT, Int.reduceLE, Int.reduceGT, Int.reduceGE, Int.reduceEq, Int.reduceNe, Int.reduceBEq, Int.reduceBNe, Int.reduceToNat, Int.reduceNeg]) (by simp only [go_sem, Nat.reduceAdd, Nat.reduceMul, Nat.reduceSub, Nat.reduceEqDiff, Nat.reduceLT, Nat.reduceLeDiff, Nat.reduceBEq, reduceIte, reduceCtorEq, Int.reduceAdd, Int.reduceLT, Int.reduceLE, Int.reduceGT, Int.reduceGE, Int.reduceEq, Int.reduceNe, Int.reduceBEq, Int.reduceBNe, Int.reduceToNat, Int.reduceNeg]) rfl rfl ?_
          simp only [encPk, List.map_nil, hd2, go_sem, Nat.reduceAdd, Nat.reduceMul, Nat.reduceSub, Nat.reduceEqDiff, Nat.reduceLT, Nat.reduceLeDiff, Nat.reduceBEq, reduceIte, reduceCtorEq, Int.reduceAdd, Int.reduceLT, Int.reduceLE, Int.reduceGT, Int.reduceGE, Int.reduceEq, Int.reduceNe, Int.reduceBEq, Int.reduceBNe, Int.reduceToNat, Int.reduceNeg]
          (repeat (with_reducible refine And.intro (by first | omega | (simp_all; done) | grind) ?_)); refine callO_off (.bool false) rfl ?_
          try simp only [go_sem, Nat.reduceAdd, Nat.reduceMul, Nat.reduceSub, Nat.reduceEqDiff, Nat.reduceLT, Nat.reduceLeDiff, Nat.reduceBEq, reduceIte, reduceCtorEq, Int.reduceAdd, Int.reduceLT, Int.reduceLE, Int.reduceGT, Int.reduceGE, Int.reduceEq, Int.reduceNe, Int.reduceBEq, Int.reduceBNe, Int.reduceToNat, Int.reduceNeg]
          (repeat (with_reducible refine And.intro (by first | omega | (simp_all; done) | grind) ?_)); refine callO_off (.bool false) rfl ?_
          try simp only [go_sem, Nat.reduceAdd, Nat.reduceMul, Nat.reduceSub, Nat.reduceEqDiff, Nat.reduceLT, Nat.reduceLeDiff, Nat.reduceBEq, reduceIte, reduceCtorEq, Int.reduceAdd, Int.reduceLT, Int.reduceLE, Int.reduceGT, Int.reduceGE, Int.reduceEq, Int.reduceNe, Int.reduceBEq, Int.reduceBNe, Int.reduceToNat, Int.reduceNeg]
          (repeat (with_reducible refine And.intro (by first | omega | (simp_all; done) | grind) ?_)); refine callO_pure (cv) b_queue_Valid (fun h => by first | exact h | (simp only [h, Bool.and_self, Bool.and_true])) (fun _ => by first | exact ⟨matchA_refl, trivial⟩ | exact ⟨matchA_refl, matchA_refl, trivial⟩ | exact ⟨matchA_refl, matchA_refl, matchA_refl, trivial⟩ | simp only [encPk, encQ, go_sem, Nat.reduceAdd, Nat.reduceMul, Nat.reduceSub, Nat.reduceEqDiff, Nat.reduceLT, Nat.reduceLeDiff, Nat.reduceBEq, reduceIte, reduceCtorEq, Int.reduceAdd, Int.reduceLT, Int.reduceLE, Int.reduceGT, Int.reduceGE, Int.reduceEq, Int.reduceNe, Int.reduceBEq, Int.reduceBNe, Int.reduceToNat, Int.reduceNeg]) (by simp only [go_sem, Nat.reduceAdd, Nat.reduceMul, Nat.reduceSub, Nat.reduceEqDiff, Nat.reduceLT, Nat.reduceLeDiff, Nat.reduceBEq, reduceIte, reduceCtorEq, Int.reduceAdd, Int.reduceLT, Int.reduceLE, Int.reduceGT, Int.reduceGE, Int.reduceEq, Int.reduceNe, Int.reduceBEq, Int.reduceBNe, Int.reduceToNat, Int.reduceNeg]) rfl rfl ?_
          try simp only [go_sem, Nat.reduceAdd, Nat.reduceMul, Nat.reduceSub, Nat.reduceEqDiff, Nat.reduceLT, Nat.reduceLeDiff, Nat.reduceBEq, reduceIte, reduceCtorEq, Int.reduceAdd, Int.reduceLT, Int.reduceLE, Int.reduceGT, Int.reduceGE, Int.reduceEq, Int.reduceNe, Int.reduceBEq, Int.reduceBNe, Int.reduceToNat, Int.reduceNeg]
          (repeat (with_reducible refine And.intro (by first | omega | (simp_all; done) | grind) ?_)); refine AWp_cond _ rfl rfl (fun h => Bool.noConfusion h) (fun _ => ?_)
          try simp only [go_sem, Nat.reduceAdd, Nat.reduceMul, Nat.reduceSub, Nat.reduceEqDiff, Nat.reduceLT, Nat.reduceLeDiff, Nat.reduceBEq, reduceIte, reduceCtorEq, Int.reduceAdd, Int.reduceLT, Int.reduceLE, Int.reduceGT, Int.reduceGE, Int.reduceEq, Int.reduceNe, Int.reduceBEq, Int.reduceBNe, Int.reduceToNat, Int.reduceNeg]
          refine ⟨⟨(a + 1), c, i + 1, by omega, by omega, by omega, by omega⟩, ?_, by dsimp only; omega⟩
          simp only [Sonce, wrap_succ (show i < 9223372036854775807 by omega), go_sem, Nat.reduceAdd, Nat.reduceMul, Nat.reduceSub, Nat.reduceEqDiff, Nat.reduceLT, Nat.reduceLeDiff, Nat.reduceBEq, reduceIte, reduceCtorEq, Int.reduceAdd, Int.reduceLT, Int.reduceLE, Int.reduceGT, Int.reduceGE, Int.reduceEq, Int.reduceNe, Int.reduceBEq, Int.reduceBNe, Int.reduceToNat, Int.reduceNeg]
      · have co := qOffer_ok (can a c) (msg ((a : Int) + l[i].n)) (can_sm (by omega)) (msg_sm _)
        have he := can_offer_no (a := a) (c := c) (seq := (a : Int) + l[i].n) (by omega) hy a4
        simp only [can_enc] at co
        have hw2 : IntKind.i64.wrap ((a : Int) - (c : Int)) = (a : Int) - (c : Int) := wrap_i64 (by omega) (by omega)
        have hw3 : IntKind.i64.wrap ((a : Int) + 1) = (a : Int) + 1 := wrap_i64 (by omega) (by omega)
        have hd : ((a : Int) + l[i].n == (a : Int) + 1 && decide ((a : Int) - (c : Int) < 4)) = false := by
          simp only [Bool.and_eq_false_iff, beq_eq_false_iff_ne, decide_eq_false_iff_not]; omega
        try simp only [go_sem, Nat.reduceAdd, Nat.reduceMul, Nat.reduceSub, Nat.reduceEqDiff, Nat.reduceLT, Nat.reduceLeDiff, Nat.reduceBEq, reduceIte, reduceCtorEq, Int.reduceAdd, Int.reduceLT, Int.reduceLE, Int.reduceGT, Int.reduceGE, Int.reduceEq, Int.reduceNe, Int.reduceBEq, Int.reduceBNe, Int.reduceToNat, Int.reduceNeg]
        (repeat (with_reducible refine And.intro (by first | omega | (simp_all; done) | grind) ?_)); refine callO_pure (msg_ok ((a : Int) + l[i].n)) b_farandolelaw51_message (fun h => by first | exact h | (simp only [h, Bool.and_self, Bool.and_true])) (fun _ => by first | exact ⟨matchA_refl, trivial⟩ | exact ⟨matchA_refl, matchA_refl, trivial⟩ | exact ⟨matchA_refl, matchA_refl, matchA_refl, trivial⟩ | simp only [encPk, encQ, go_sem, Nat.reduceAdd, Nat.reduceMul, Nat.reduceSub, Nat.reduceEqDiff, Nat.reduceLT, Nat.reduceLeDiff, Nat.reduceBEq, reduceIte, reduceCtorEq, Int.reduceAdd, Int.reduceLT, Int.reduceLE, Int.reduceGT, Int.reduceGE, Int.reduceEq, Int.reduceNe, Int.reduceBEq, Int.reduceBNe, Int.reduceToNat, Int.reduceNeg]) (by simp only [go_sem, Nat.reduceAdd, Nat.reduceMul, Nat.reduceSub, Nat.reduceEqDiff, Nat.reduceLT, Nat.reduceLeDiff, Nat.reduceBEq, reduceIte, reduceCtorEq, Int.reduceAdd, Int.reduceLT, Int.reduceLE, Int.reduceGT, Int.reduceGE, Int.reduceEq, Int.reduceNe, Int.reduceBEq, Int.reduceBNe, Int.reduceToNat, Int.reduceNeg]) rfl rfl ?_
        try simp only [go_sem, Nat.reduceAdd, Nat.reduceMul, Nat.reduceSub, Nat.reduceEqDiff, Nat.reduceLT, Nat.reduceLeDiff, Nat.reduceBEq, reduceIte, reduceCtorEq, Int.reduceAdd, Int.reduceLT, Int.reduceLE, Int.reduceGT, Int.reduceGE, Int.reduceEq, Int.reduceNe, Int.reduceBEq, Int.reduceBNe, Int.reduceToNat, Int.reduceNeg]
        (repeat (with_reducible refine And.intro (by first | omega | (simp_all; done) | grind) ?_)); refine callO_pure (co) b_queue_Offer (fun h => by first | exact h | (simp only [h, Bool.and_self, Bool.and_true])) (fun _ => by first | exact ⟨matchA_refl, trivial⟩ | exact ⟨matchA_refl, matchA_refl, trivial⟩ | exact ⟨matchA_refl, matchA_refl, matchA_refl, trivial⟩ | simp only [encPk, encQ, go_sem, Nat.reduceAdd, Nat.reduceMul, Nat.reduceSub, Nat.reduceEqDiff, Nat.reduceLT, Nat.reduceLeDiff, Nat.reduceBEq, reduceIte, reduceCtorEq, Int.reduceAdd, Int.reduceLT, Int.reduceLE, Int.reduceGT, Int.reduceGE, Int.reduceEq, Int.reduceNe, Int.reduceBEq, Int.reduceBNe, Int.reduceToNat, Int.reduceNeg]) (by simp only [go_sem, Nat.reduceAdd, Nat.reduceMul, Nat.reduceSub, Nat.reduceEqDiff, Nat.reduceLT, Nat.reduceLeDiff, Nat.reduceBEq, reduceIte, reduceCtorEq, Int.reduceAdd, Int.reduceLT, Int.reduceLE, Int.reduceGT, Int.reduceGE, Int.reduceEq, Int.reduceNe, Int.reduceBEq, Int.reduceBNe, Int.reduceToNat, Int.reduceNeg]) rfl rfl ?_
        simp only [encQ, go_sem, Nat.reduceAdd, Nat.reduceMul, Nat.reduceSub, Nat.reduceEqDiff, Nat.reduceLT, Nat.reduceLeDiff, Nat.reduceBEq, reduceIte, reduceCtorEq, Int.reduceAdd, Int.reduceLT, Int.reduceLE, Int.reduceGT, Int.reduceGE, Int.reduceEq, Int.reduceNe, Int.reduceBEq, Int.reduceBNe, Int.reduceToNat, Int.reduceNeg]
        simp only [hd, hw2, hw3, he, go_sem, Nat.reduceAdd, Nat.reduceMul, Nat.reduceSub, Nat.reduceEqDiff, Nat.reduceLT, Nat.reduceLeDiff, Nat.reduceBEq, reduceIte, reduceCtorEq, Int.reduceAdd, Int.reduceLT, Int.reduceLE, Int.reduceGT, Int.reduceGE, Int.reduceEq, Int.reduceNe, Int.reduceBEq, Int.reduceBNe, Int.reduceToNat, Int.reduceNeg]
        (repeat (with_reducible refine And.intro (by first | omega | (simp_all; done) | grind) ?_)); refine AWp_cond _ rfl rfl (fun h => Bool.noConfusion h) (fun _ => ?_)
        try simp only [go_sem, Nat.reduceAdd, Nat.reduceMul, Nat.reduceSub, Nat.reduceEqDiff, Nat.reduceLT, Nat.reduceLeDiff, Nat.reduceBEq, reduceIte, reduceCtorEq, Int.reduceAdd, Int.reduceLT, Int.reduceLE, Int.reduceGT, Int.reduceGE, Int.reduceEq, Int.reduceNe, Int.reduceBEq, Int.reduceBNe, Int.reduceToNat, Int.reduceNeg]
        (repeat (with_reducible refine And.intro (by first | omega | (simp_all; done) | grind) ?_)); refine AWp_cond _ rfl rfl (fun h => Bool.noConfusion h) (fun _ => ?_)
        try simp only [go_sem, Nat.reduceAdd, Nat.reduceMul, Nat.reduceSub, Nat.reduceEqDiff, Nat.reduceLT, Nat.reduceLeDiff, Nat.reduceBEq, reduceIte, reduceCtorEq, Int.reduceAdd, Int.reduceLT, Int.reduceLE, Int.reduceGT, Int.reduceGE, Int.reduceEq, Int.reduceNe, Int.reduceBEq, Int.reduceBNe, Int.reduceToNat, Int.reduceNeg]
        have hv := can_valid (a := a) (c := c) (by omega) (by omega) (by omega)
        have hsm := can_sm (a := a) (c := c) (by omega)
        have cv := qValid_ok (can a c) hsm
        rw [hv] at cv
        simp only [can_enc] at cv
        have cf := qFirst_ok (can a c) hsm
        rcases Nat.lt_or_ge c a with hlt | hge
        · rw [can_first_yes hlt] at cf
          simp only [can_enc] at cf
          have hd2 : decide (((c : Nat) : Int) < ((a : Nat) : Int)) = true := decide_eq_true (by omega)
          have hw4 : IntKind.i64.wrap (((c : Nat) : Int) + 1) = ((c : Nat) : Int) + 1 := wrap_i64 (by omega) (by omega)
          try simp only [Int.natCast_add, Int.cast_ofNat_Int] at hd2 hw4
          have ce := pkEqual_ok (msg (((c : Nat) : Int) + 1)) (msg (((c : Nat) : Int) + 1)) (Nat.zero_le _) (Nat.zero_le _)
          simp only [decide_true] at ce
          try simp only [go_sem, Nat.reduceAdd, Nat.reduceMul, Nat.reduceSub, Nat.reduceEqDiff, Nat.reduceLT, Nat.reduceLeDiff, Nat.reduceBEq, reduceIte, reduceCtorEq, Int.reduceAdd, Int.reduceLT, Int.reduceLE, Int.reduceGT, Int.reduceGE, Int.reduceEq, Int.reduceNe, Int.reduceBEq, Int.reduceBNe, Int.reduceToNat, Int.reduceNeg]
          (repeat (with_reducible refine And.intro (by first | omega | (simp_all; done) | grind) ?_)); refine callO_pure (cf) b_queue_First (fun h => by first | exact h | (simp only [h, Bool.and_self, Bool.and_true])) (fun _ => by first | exact ⟨matchA_refl, trivial⟩ | exact ⟨matchA_refl, matchA_refl, trivial⟩ | exact ⟨matchA_refl, matchA_refl, matchA_refl, trivial⟩ | simp only [encPk, encQ, go_sem, Nat.reduceAdd, Nat.reduceMul, Nat.reduceSub, Nat.reduceEqDiff, Nat.reduceLT, Nat.reduceLeDiff, Nat.reduceBEq, reduceIte, reduceCtorEq, Int.reduceAdd, Int.reduceLT, Int.reduceLE, Int.reduceGT, Int.reduceGE, Int.reduceEq, Int.reduceNe, Int.reduceBEq, Int.reduceBNe, Int.reduceToNat, Int.reduceNeg]) (by simp only [go_sem, Nat.reduceAdd, Nat.reduceMul, Nat.reduceSub, Nat.reduceEqDiff, Nat.reduceLT, Nat.reduceLeDiff, Nat.reduceBEq, reduceIte, reduceCtorEq, Int.reduceAdd, Int.reduceLT, Int.reduceLE, Int.reduceGT, Int.reduceGE, Int.reduceEq, Int.reduceNe, Int.reduceBEq, Int.reduceBNe, Int.reduceToNat, Int.reduceNeg]) rfl rfl ?_
          simp only [encPk, go_sem, Nat.reduceAdd, Nat.reduceMul, Nat.reduceSub, Nat.reduceEqDiff, Nat.reduceLT, Nat.reduceLeDiff, Nat.reduceBEq, reduceIte, reduceCtorEq, Int.reduceAdd, Int.reduceLT, Int.reduceLE, Int.reduceGT, Int.reduceGE, Int.reduceEq, Int.reduceNe, Int.reduceBEq, Int.reduceBNe, Int.reduceToNat, Int.reduceNeg]
          simp only [hd2, hw4, go_sem, Nat.reduceAdd, Nat.reduceMul, Nat.reduceSub, Nat.reduceEqDiff, Nat.reduceLT, Nat.reduceLeDiff, Nat.reduceBEq, reduceIte, reduceCtorEq, Int.reduceAdd, Int.reduceLT, Int.reduceLE, Int.reduceGT, Int.reduceGE, Int.reduceEq, Int.reduceNe, Int.reduceBEq, Int.reduceBNe, Int.reduceToNat, Int.reduceNeg]
          (repeat (with_reducible refine And.intro (by first | omega | (simp_all; done) | grind) ?_)); refine callO_pure (msg_ok (((c : Nat) : Int) + 1)) b_farandolelaw51_message (fun h => by first | exact h | (simp only [h, Bool.and_self, Bool.and_true])) (fun _ => by first | exact ⟨matchA_refl, trivial⟩ | exact ⟨matchA_refl, matchA_refl, trivial⟩ | exact ⟨matchA_refl, matchA_refl, matchA_refl, trivial⟩ | simp only [encPk, encQ, go_sem, Nat.reduceAdd, Nat.reduceMul, Nat.reduceSub, Nat.reduceEqDiff, Nat.reduceLT, Nat.reduceLeDiff, Nat.reduceBEq, reduceIte, reduceCtorEq, Int.reduceAdd, Int.reduceLT, Int.reduceLE, Int.reduceGT, Int.reduceGE, Int.reduceEq, Int.reduceNe, Int.reduceBEq, Int.reduceBNe, Int.reduceToNat, Int.reduceNeg]) (by simp only [go_sem, Nat.reduceAdd, Nat.reduceMul, Nat.reduceSub, Nat.reduceEqDiff, Nat.reduceLT, Nat.reduceLeDiff, Nat.reduceBEq, reduceIte, reduceCtorEq, Int.reduceAdd, Int.reduceLT, Int.reduceLE, Int.reduceGT, Int.reduceGE, Int.reduceEq, Int.reduceNe, Int.reduceBEq, Int.reduceBNe, Int.reduceToNat, Int.reduceNeg]) rfl rfl ?_
          try simp only [go_sem, Nat.reduceAdd, Nat.reduceMul, Nat.reduceSub, Nat.reduceEqDiff, Nat.reduceLT, Nat.reduceLeDiff, Nat.reduceBEq, reduceIte, reduceCtorEq, Int.reduceAdd, Int.reduceLT, Int.reduceLE, Int.reduceGT, Int.reduceGE, Int.reduceEq, Int.reduceNe, Int.reduceBEq, Int.reduceBNe, Int.reduceToNat, Int.reduceNeg]
          (repeat (with_reducible refine And.intro (by first | omega | (simp_all; done) | grind) ?_)); refine callO_pure (ce) b_packet_Equal (fun h => by first | exact h | (simp only [h, Bool.and_self, Bool.and_true])) (fun _ => by first | exact ⟨matchA_refl, trivial⟩ | exact ⟨matchA_refl, matchA_refl, trivial⟩ | exact ⟨matchA_refl, matchA_refl, matchA_refl, trivial⟩ | simp only [encPk, encQ, go_sem, Nat.reduceAdd, Nat.reduceMul, Nat.reduceSub, Nat.reduceEqDiff, Nat.reduceLT, Nat.reduceLeDiff, Nat.reduceBEq, reduceIte, reduceCtorEq, Int.reduceAdd, Int.reduceLT, Int.reduceLE, Int.reduceGT, Int.reduceGE, Int.reduceEq, Int.reduceNe, Int.reduceBEq, Int.reduceBNe, Int.reduceToNat, Int.reduceNeg]) (by simp only [go_sem, Nat.reduceAdd, Nat.reduceMul, Nat.reduceSub, Nat.reduceEqDiff, Nat.reduceLT, Nat.reduceLeDiff, Nat.reduceBEq, reduceIte, reduceCtorEq, Int.reduceAdd, Int.reduceLT, Int.reduceLE, Int.reduceGT, Int.reduceGE, Int.reduceEq, Int.reduceNe, Int.reduceBEq, Int.reduceBNe, Int.reduceToNat, Int.reduceNeg]) rfl rfl ?_
          try simp only [go_sem, Nat.reduceAdd, Nat.reduceMul, Nat.reduceSub, Nat.reduceEqDiff, Nat.reduceLT, Nat.reduceLeDiff, Nat.reduceBEq, reduceIte, reduceCtorEq, Int.reduceAdd, Int.reduceLT, Int.reduceLE, Int.reduceGT, Int.reduceGE, Int.reduceEq, Int.reduceNe, Int.reduceBEq, Int.reduceBNe, Int.reduceToNat, Int.reduceNeg]
          (repeat (with_reducible refine And.intro (by first | omega | (simp_all; done) | grind) ?_)); refine callO_pure (cv) b_queue_Valid (fun h => by first | exact h | (simp only [h, Bool.and_self, Bool.and_true])) (fun _ => by first | exact ⟨matchA_refl, trivial⟩ | exact ⟨matchA_refl, matchA_refl, trivial⟩ | exact ⟨matchA_refl, matchA_refl, matchA_refl, trivial⟩ | simp only [encPk, encQ, go_sem, Nat.reduceAdd, Nat.reduceMul, Nat.reduceSub, Nat.reduceEqDiff, Nat.reduceLT, Nat.reduceLeDiff, Nat.reduceBEq, reduceIte, reduceCtorEq, Int.reduceAdd, Int.reduceLT, Int.reduceLE, Int.reduceGT, Int.reduceGE, Int.reduceEq, Int.reduceNe, Int.reduceBEq, Int.reduceBNe, Int.reduceToNat, Int.reduceNeg]) (by simp only [go_sem, Nat.reduceAdd, Nat.reduceMul, Nat.reduceSub, Nat.reduceEqDiff, Nat.reduceLT, Nat.reduceLeDiff, Nat.reduceBEq, reduceIte, reduceCtorEq, Int.reduceAdd, Int.reduceLT, Int.reduceLE, Int.reduceGT, Int.reduceGE, Int.reduceEq, Int.reduceNe, Int.reduceBEq, Int.reduceBNe, Int.reduceToNat, Int.reduceNeg]) rfl rfl ?_
          try simp only [go_sem, Nat.reduceAdd, Nat.reduceMul, Nat.reduceSub, Nat.reduceEqDiff, Nat.reduceLT, Nat.reduceLeDiff, Nat.reduceBEq, reduceIte, reduceCtorEq, Int.reduceAdd, Int.reduceLT, Int.reduceLE, Int.reduceGT, Int.reduceGE, Int.reduceEq, Int.reduceNe, Int.reduceBEq, Int.reduceBNe, Int.reduceToNat, Int.reduceNeg]
          (repeat (with_reducible refine And.intro (by first | omega | (simp_all; done) | grind) ?_)); refine AWp_cond _ rfl rfl (fun h => Bool.noConfusion h) (fun _ => ?_)
          try simp only [go_sem, Nat.reduceAdd, Nat.reduceMul, Nat.reduceSub, Nat.reduceEqDiff, Nat.reduceLT, Nat.reduceLeDiff, Nat.reduceBEq, reduceIte, reduceCtorEq, Int.reduceAdd, Int.reduceLT, Int.reduceLE, Int.reduceGT, Int.reduceGE, Int.reduceEq, Int.reduceNe, Int.reduceBEq, Int.reduceBNe, Int.reduceToNat, Int.reduceNeg]
          refine ⟨⟨a, c, i + 1, by omega, by omega, by omega, by omega⟩, ?_, by dsimp only; omega⟩
          simp only [Sonce, wrap_succ (show i < 9223372036854775807 by omega), go_sem, Nat.reduceAdd, Nat.reduceMul, Nat.reduceSub, Nat.reduceEqDiff, Nat.reduceLT, Nat.reduceLeDiff, Nat.reduceBEq, reduceIte, reduceCtorEq, Int.reduceAdd, Int.reduceLT, Int.reduceLE, Int.reduceGT, Int.reduceGE, Int.reduceEq, Int.reduceNe, Int.reduceBEq, Int.reduceBNe, Int.reduceToNat, Int.reduceNeg]
        · have hac : c = a := by omega
          have cff : qFirst (can a c) = (⟨0, 0, 0, 0, 0, 0, 0, [], []⟩, false) := by rw [hac]; exact can_first_no
          rw [cff] at cf
          simp only [can_enc] at cf
          have hd2 : decide (((c : Nat) : Int) < ((a : Nat) : Int)) = false := decide_eq_false (by omega)
          try simp only [Int.natCast_add, Int.cast_ofNat_Int] at hd2
          try simp only [go_sem, Nat.reduceAdd, Nat.reduceMul, Nat.reduceSub, Nat.reduceEqDiff, Nat.reduceLT, Nat.reduceLeDiff, Nat.reduceBEq, reduceIte, reduceCtorEq, Int.reduceAdd, Int.reduceLT, Int.reduceLE, Int.reduceGT, Int.reduceGE, Int.reduceEq, Int.reduceNe, Int.reduceBEq, Int.reduceBNe, Int.reduceToNat, Int.reduceNeg]
          (repeat (with_reducible refine And.intro (by first | omega | (simp_all; done) | grind) ?_)); refine callO_pure (cf) b_queue_First (fun h => by first | exact h | (simp only [h, Bool.and_self, Bool.and_true])) (fun _ => by first | exact ⟨matchA_refl, trivial⟩ | exact ⟨matchA_refl, matchA_refl, trivial⟩ | exact ⟨matchA_refl, matchA_refl, matchA_refl, trivial⟩ | simp only [encPk, encQ, go_sem, Nat.reduceAdd, Nat.reduceMul, Nat.reduceSub, Nat.reduceEqDiff, Nat.reduceLT, Nat.reduceLeDiff, Nat.reduceBEq, reduceIte, reduceCtorEq, Int.reduceAdd, Int.reduceLT, Int.reduceLE, Int.reduceGT, Int.reduceGE, Int.reduceEq, Int.reduceNe, Int.reduceBEq, Int.reduceBNe, Int.reduceToNat, Int.reduceNeg]) (by simp only [go_sem, Nat.reduceAdd, Nat.reduceMul, Nat.reduceSub, Nat.reduceEqDiff, Nat.reduceLT, Nat.reduceLeDiff, Nat.reduceBEq, reduceIte, reduceCtorEq, Int.reduceAdd, Int.reduceLT, Int.reduceLE, Int.reduceGT, Int.reduceGE, Int.reduceEq, Int.reduceNe, Int.reduceBEq, Int.reduceBNe, Int.reduceToNat, Int.reduceNeg]) rfl rfl ?_
          simp only [encPk, List.map_nil, hd2, go_sem, Nat.reduceAdd, Nat.reduceMul, Nat.reduceSub, Nat.reduceEqDiff, Nat.reduceLT, Nat.reduceLeDiff, Nat.reduceBEq, reduceIte, reduceCtorEq, Int.reduceAdd, Int.reduceLT, Int.reduceLE, Int.reduceGT, Int.reduceGE, Int.reduceEq, Int.reduceNe, Int.reduceBEq, Int.reduceBNe, Int.reduceToNat, Int.reduceNeg]
          (repeat (with_reducible refine And.intro (by first | omega | (simp_all; done) | grind) ?_)); refine callO_off (.bool false) rfl ?_
          try simp only [go_sem, Nat.reduceAdd, Nat.reduceMul, Nat.reduceSub, Nat.reduceEqDiff, Nat.reduceLT, Nat.reduceLeDiff, Nat.reduceBEq, reduceIte, reduceCtorEq, Int.reduceAdd, Int.reduceLT, Int.reduceLE, Int.reduceGT, Int.reduceGE, Int.reduceEq, Int.reduceNe, Int.reduceBEq, Int.reduceBNe, Int.reduceToNat, Int.reduceNeg]
          (repeat (with_reducible refine And.intro (by first | omega | (simp_all; done) | grind) ?_)); refine callO_off (.bool false) rfl ?_
          try simp only [go_sem, Nat.reduceAdd, Nat.reduceMul, Nat.reduceSub, Nat.reduceEqDiff, Nat.reduceLT, Nat.reduceLeDiff, Nat.reduceBEq, reduceIte, reduceCtorEq, Int.reduceAdd, Int.reduceLT, Int.reduceLE, Int.reduceGT, Int.reduceGE, Int.reduceEq, Int.reduceNe, Int.reduceBEq, Int.reduceBNe, Int.reduceToNat, Int.reduceNeg]
          (repeat (with_reducible refine And.intro (by first | omega | (simp_all; done) | grind) ?_)); refine callO_pure (cv) b_queue_Valid (fun h => by first | exact h | (simp only [h, Bool.and_self, Bool.and_true])) (fun _ => by first | exact ⟨matchA_refl, trivial⟩ | exact ⟨matchA_refl, matchA_refl, trivial⟩ | exact ⟨matchA_refl, matchA_refl, matchA_refl, trivial⟩ | simp only [encPk, encQ, go_sem, Nat.reduceAdd, Nat.reduceMul, Nat.reduceSub, Nat.reduceEqDiff, Nat.reduceLT, Nat.reduceLeDiff, Nat.reduceBEq, reduceIte, reduceCtorEq, Int.reduceAdd, Int.reduceLT, Int.reduceLE, Int.reduceGT, Int.reduceGE, Int.reduceEq, Int.reduceNe, Int.reduceBEq, Int.reduceBNe, Int.reduceToNat, Int.reduceNeg]) (by simp only [go_sem, Nat.reduceAdd, Nat.reduceMul, Nat.reduceSub, Nat.reduceEqDiff, Nat.reduceLT, Nat.reduceLeDiff, Nat.reduceBEq, reduceIte, reduceCtorEq, Int.reduceAdd, Int.reduceLT, Int.reduceLE, Int.reduceGT, Int.reduceGE, Int.reduceEq, Int.reduceNe, Int.reduceBEq, Int.reduceBNe, Int.reduceToNat, Int.reduceNeg]) rfl rfl ?_
          try simp only [go_sem, Nat.reduceAdd, Nat.reduceMul, Nat.reduceSub, Nat.reduceEqDiff, Nat.reduceLT, Nat.reduceLeDiff, Nat.reduceBEq, reduceIte, reduceCtorEq, Int.reduceAdd, Int.reduceLT, Int.reduceLE, Int.reduceGT, Int.reduceGE, Int.reduceEq, Int.reduceNe, Int.reduceBEq, Int.reduceBNe, Int.reduceToNat, Int.reduceNeg]
          (repeat (with_reducible refine And.intro (by first | omega | (simp_all; done) | grind) ?_)); refine AWp_cond _ rfl rfl (fun h => Bool.noConfusion h) (fun _ => ?_)
          try simp only [go_sem, Nat.reduceAdd, Nat.reduceMul, Nat.reduceSub, Nat.reduceEqDiff, Nat.reduceLT, Nat.reduceLeDiff, Nat.reduceBEq, reduceIte, reduceCtorEq, Int.reduceAdd, Int.reduceLT, Int.reduceLE, Int.reduceGT, Int.reduceGE, Int.reduceEq, Int.reduceNe, Int.reduceBEq, Int.reduceBNe, Int.reduceToNat, Int.reduceNeg]
          refine ⟨⟨a, c, i + 1, by omega, by omega, by omega, by omega⟩, ?_, by dsimp only; omega⟩
          simp only [Sonce, wrap_succ (show i < 9223372036854775807 by omega), go_sem, Nat.reduceAdd, Nat.reduceMul, Nat.reduceSub, Nat.reduceEqDiff, Nat.reduceLT, Nat.reduceLeDiff, Nat.reduceBEq, reduceIte, reduceCtorEq, Int.reduceAdd, Int.reduceLT, Int.reduceLE, Int.reduceGT, Int.reduceGE, Int.reduceEq, Int.reduceNe, Int.reduceBEq, Int.reduceBNe, Int.reduceToNat, Int.reduceNeg]
    · have hwn : IntKind.i64.wrap ((c : Int) + l[i].n) = (c : Int) + l[i].n := wrap_i64 (by omega) (by omega)
      simp only [getD_map encStp l hil, encStp, hwn, go_sem, Nat.reduceAdd, Nat.reduceMul, Nat.reduceSub, Nat.reduceEqDiff, Nat.reduceLT, Nat.reduceLeDiff, Nat.reduceBEq, reduceIte, reduceCtorEq, Int.reduceAdd, Int.reduceLT, Int.reduceLE, Int.reduceGT, Int.reduceGE, Int.reduceEq, Int.reduceNe, Int.reduceBEq, Int.reduceBNe, Int.reduceToNat, Int.reduceNeg]
      repeat (with_reducible refine And.intro (by first | omega | (simp_all; done) | grind) ?_)
      by_cases hy : (c : Int) + l[i].n = (c : Int) + 1 ∧ c < a
      · have co := qConsume_ok (can a c) ((c : Int) + 1) (can_sm (by omega))
        rw [can_consume_yes hy.2 a4 (by omega)] at co
        simp only [can_enc] at co
        have hd : decide ((c : Int) < (a : Int)) = true := decide_eq_true (by omega)
        have hw3 : IntKind.i64.wrap ((c : Int) + 1) = (c : Int) + 1 := wrap_i64 (by omega) (by omega)
        try simp only [hy.1, go_sem, Nat.reduceAdd, Nat.reduceMul, Nat.reduceSub, Nat.reduceEqDiff, Nat.reduceLT, Nat.reduceLeDiff, Nat.reduceBEq, reduceIte, reduceCtorEq, Int.reduceAdd, Int.reduceLT, Int.reduceLE, Int.reduceGT, Int.reduceGE, Int.reduceEq, Int.reduceNe, Int.reduceBEq, Int.reduceBNe, Int.reduceToNat, Int.reduceNeg]
        (repeat (with_reducible refine And.intro (by first | omega | (simp_all; done) | grind) ?_)); refine callO_pure (co) b_queue_Consume (fun h => by first | exact h | (simp only [h, Bool.and_self, Bool.and_true])) (fun _ => by first | exact ⟨matchA_refl, trivial⟩ | exact ⟨matchA_refl, matchA_refl, trivial⟩ | exact ⟨matchA_refl, matchA_refl, matchA_refl, trivial⟩ | simp only [encPk, encQ, go_sem, Nat.reduceAdd, Nat.reduceMul, Nat.reduceSub, Nat.reduceEqDiff, Nat.reduceLT, Nat.reduceLeDiff, Nat.reduceBEq, reduceIte, reduceCtorEq, Int.reduceAdd, Int.reduceLT, Int.reduceLE, Int.reduceGT, Int.reduceGE, Int.reduceEq, Int.reduceNe, Int.reduceBEq, Int.reduceBNe, Int.reduceToNat, Int.reduceNeg]) (by simp only [go_sem, Nat.reduceAdd, Nat.reduceMul, Nat.reduceSub, Nat.reduceEqDiff, Nat.reduceLT, Nat.reduceLeDiff, Nat.reduceBEq, reduceIte, reduceCtorEq, Int.reduceAdd, Int.reduceLT, Int.reduceLE, Int.reduceGT, Int.reduceGE, Int.reduceEq, Int.reduceNe, Int.reduceBEq, Int.reduceBNe, Int.reduceToNat, Int.reduceNeg]) rfl rfl ?_
        try simp only [hd, hw3, go_sem, Nat.reduceAdd, Nat.reduceMul, Nat.reduceSub, Nat.reduceEqDiff, Nat.reduceLT, Nat.reduceLeDiff, Nat.reduceBEq, reduceIte, reduceCtorEq, Int.reduceAdd, Int.reduceLT, Int.reduceLE, Int.reduceGT, Int.reduceGE, Int.reduceEq, Int.reduceNe, Int.reduceBEq, Int.reduceBNe, Int.reduceToNat, Int.reduceNeg]
        (repeat (with_reducible refine And.intro (by first | omega | (simp_all; done) | grind) ?_)); refine AWp_cond _ rfl rfl (fun h => Bool.noConfusion h) (fun _ => ?_)
        try simp only [go_sem, Nat.reduceAdd, Nat.reduceMul, Nat.reduceSub, Nat.reduceEqDiff, Nat.reduceLT, Nat.reduceLeDiff, Nat.reduceBEq, reduceIte, reduceCtorEq, Int.reduceAdd, Int.reduceLT, Int.reduceLE, Int.reduceGT, Int.reduceGE, Int.reduceEq, Int.reduceNe, Int.reduceBEq, Int.reduceBNe, Int.reduceToNat, Int.reduceNeg]
        (repeat (with_reducible refine And.intro (by first | omega | (simp_all; done) | grind) ?_)); refine AWp_cond _ rfl rfl (fun _ => ?_) (fun h => Bool.noConfusion h)
        try simp only [go_sem, Nat.reduceAdd, Nat.reduceMul, Nat.reduceSub, Nat.reduceEqDiff, Nat.reduceLT, Nat.reduceLeDiff, Nat.reduceBEq, reduceIte, reduceCtorEq, Int.reduceAdd, Int.reduceLT, Int.reduceLE, Int.reduceGT, Int.reduceGE, Int.reduceEq, Int.reduceNe, Int.reduceBEq, Int.reduceBNe, Int.reduceToNat, Int.reduceNeg]
        have e1 : (c : Int) + 1 = ((c + 1 : Nat) : Int) := rfl
        simp only [e1]
        clear e1
        have hv := can_valid (a := a) (c := (c + 1)) (by omega) (by omega) (by omega)
        have hsm := can_sm (a := a) (c := (c + 1)) (by omega)
        have cv := qValid_ok (can a (c + 1)) hsm
        rw [hv] at cv
        simp only [can_enc] at cv
        have cf := qFirst_ok (can a (c + 1)) hsm
        rcases Nat.lt_or_ge (c + 1) a with hlt | hge
        · rw [can_first_yes hlt] at cf
          simp only [can_enc] at cf
          have hd2 : decide ((((c + 1) : Nat) : Int) < ((a : Nat) : Int)) = true := decide_eq_true (by omega)
          have hw4 : IntKind.i64.wrap ((((c + 1) : Nat) : Int) + 1) = (((c + 1) : Nat) : Int) + 1 := wrap_i64 (by omega) (by omega)
          try simp only [Int.natCast_add, Int.cast_ofNat_Int] at hd2 hw4
          have ce := pkEqual_ok (msg ((((c + 1) : Nat) : Int) + 1)) (msg ((((c + 1) : Nat) : Int) + 1)) (Nat.zero_le _) (Nat.zero_le _)
          simp only [decide_true] at ce
          try simp only [go_sem, Nat.reduceAdd, Nat.reduceMul, Nat.reduceSub, Nat.reduceEqDiff, Nat.reduceLT, Nat.reduceLeDiff, Nat.reduceBEq, reduceIte, reduceCtorEq, Int.reduceAdd, Int.reduceLT, Int.reduceLE, Int.reduceGT, Int.reduceGE, Int.reduceEq, Int.reduceNe, Int.reduceBEq, Int.reduceBNe, Int.reduceToNat, Int.reduceNeg]
          (repeat (with_reducible refine And.intro (by first | omega | (simp_all; done) | grind) ?_)); refine callO_pure (cf) b_queue_First (fun h => by first | exact h | (simp only [h, Bool.and_self, Bool.and_true])) (fun _ => by first | exact ⟨matchA_refl, trivial⟩ | exact ⟨matchA_refl, matchA_refl, trivial⟩ | exact ⟨matchA_refl, matchA_refl, matchA_refl, trivial⟩ | simp only [encPk, encQ, go_sem, Nat.reduceAdd, Nat.reduceMul, Nat.reduceSub, Nat.reduceEqDiff, Nat.reduceLT, Nat.reduceLeDiff, Nat.reduceBEq, reduceIte, reduceCtorEq, Int.reduceAdd, Int.reduceLT, Int.reduceLE, Int.reduceGT, Int.reduceGE, Int.reduceEq, Int.reduceNe, Int.reduceBEq, Int.reduceBNe, Int.reduceToNat, Int.reduceNeg]) (by simp only [go_sem, Nat.reduceAdd, Nat.reduceMul, Nat.reduceSub, Nat.reduceEqDiff, Nat.reduceLT, Nat.reduceLeDiff, Nat.reduceBEq, reduceIte, reduceCtorEq, Int.reduceAdd, Int.reduceLT, Int.reduceLE, Int.reduceGT, Int.reduceGE, Int.reduceEq, Int.reduceNe, Int.reduceBEq, Int.reduceBNe, Int.reduceToNat, Int.reduceNeg]) rfl rfl ?_
          simp only [encPk, go_sem, Nat.reduceAdd, Nat.reduceMul, Nat.reduceSub, Nat.reduceEqDiff, Nat.reduceLT, Nat.reduceLeDiff, Nat.reduceBEq, reduceIte, reduceCtorEq, Int.reduceAdd, Int.reduceLT, Int.reduceLE, Int.reduceGT, Int.reduceGE, Int.reduceEq, Int.reduceNe, Int.reduceBEq, Int.reduceBNe, Int.reduceToNat, Int.reduceNeg]
          simp only [hd2, hw4, go_sem, Nat.reduceAdd, Nat.reduceMul, Nat.reduceSub, Nat.reduceEqDiff, Nat.reduceLT, Nat.reduceLeDiff, Nat.reduceBEq, reduceIte, reduceCtorEq, Int.reduceAdd, Int.reduceLT, Int.reduceLE, Int.reduceGT, Int.reduceGE, Int.reduceEq, Int.reduceNe, Int.reduceBEq, Int.reduceBNe, Int.reduceToNat, Int.reduceNeg]
          (repeat (with_reducible refine And.intro (by first | omega | (simp_all; done) | grind) ?_)); refine callO_pure (msg_ok ((((c + 1) : Nat) : Int) + 1)) b_farandolelaw51_message (fun h => by first | exact h | (simp only [h, Bool.and_self, Bool.and_true])) (fun _ => by first | exact ⟨matchA_refl, trivial⟩ | exact ⟨matchA_refl, matchA_refl, trivial⟩ | exact ⟨matchA_refl, matchA_refl, matchA_refl, trivial⟩ | simp only [encPk, encQ, go_sem, Nat.reduceAdd, Nat.reduceMul, Nat.reduceSub, Nat.reduceEqDiff, Nat.reduceLT, Nat.reduceLeDiff, Nat.reduceBEq, reduceIte, reduceCtorEq, Int.reduceAdd, Int.reduceLT, Int.reduceLE, Int.reduceGT, Int.reduceGE, Int.reduceEq, Int.reduceNe, Int.reduceBEq, Int.reduceBNe, Int.reduceToNat, Int.reduceNeg]) (by simp only [go_sem, Nat.reduceAdd, Nat.reduceMul, Nat.reduceSub, Nat.reduceEqDiff, Nat.reduceLT, Nat.reduceLeDiff, Nat.reduceBEq, reduceIte, reduceCtorEq, Int.reduceAdd, Int.reduceLT, Int.reduceLE, Int.reduceGT, Int.reduceGE, Int.reduceEq, Int.reduceNe, Int.reduceBEq, Int.reduceBNe, Int.reduceToNat, Int.reduceNeg]) rfl rfl ?_
          try simp only [go_sem, Nat.reduceAdd, Nat.reduceMul, Nat.reduceSub, Nat.reduceEqDiff, Nat.reduceLT, Nat.reduceLeDiff, Nat.reduceBEq, reduceIte, reduceCtorEq, Int.reduceAdd, Int.reduceLT, Int.reduceLE, Int.reduceGT, Int.reduceGE, Int.reduceEq, Int.reduceNe, Int.reduceBEq, Int.reduceBNe, Int.reduceToNat, Int.reduceNeg]
          (repeat (with_reducible refine And.intro (by first | omega | (simp_all; done) | grind) ?_)); refine callO_pure (ce) b_packet_Equal (fun h => by first | exact h | (simp only [h, Bool.and_self, Bool.and_true])) (fun _ => by first | exact ⟨matchA_refl, trivial⟩ | exact ⟨matchA_refl, matchA_refl, trivial⟩ | exact ⟨matchA_refl, matchA_refl, matchA_refl, trivial⟩ | simp only [encPk, encQ, go_sem, Nat.reduceAdd, Nat.reduceMul, Nat.reduceSub, Nat.reduceEqDiff, Nat.reduceLT, Nat.reduceLeDiff, Nat.reduceBEq, reduceIte, reduceCtorEq, Int.reduceAdd, Int.reduceLT, Int.reduceLE, Int.reduceGT, Int.reduceGE, Int.reduceEq, Int.reduceNe, Int.reduceBEq, Int.reduceBNe, Int.reduceToNat, Int.reduceNeg]) (by simp only [go_sem, Nat.reduceAdd, Nat.reduceMul, Nat.reduceSub, Nat.reduceEqDiff, Nat.reduceLT, Nat.reduceLeDiff, Nat.reduceBEq, reduceIte, reduceCtorEq, Int.reduceAdd, Int.reduceLT, Int.reduceLE, Int.reduceGT, Int.reduceGE, Int.reduceEq, Int.reduceNe, Int.reduceBEq, Int.reduceBNe, Int.reduceToNat, Int.reduceNeg]) rfl rfl ?_
          try simp only [go_sem, Nat.reduceAdd, Nat.reduceMul, Nat.reduceSub, Nat.reduceEqDiff, Nat.reduceLT, Nat.reduceLeDiff, Nat.reduceBEq, reduceIte, reduceCtorEq, Int.reduceAdd, Int.reduceLT, Int.reduceLE, Int.reduceGT, Int.reduceGE, Int.reduceEq, Int.reduceNe, Int.reduceBEq, Int.reduceBNe, Int.reduceToNat, Int.reduceNeg]
          (repeat (with_reducible refine And.intro (by first | omega | (simp_all; done) | grind) ?_)); refine callO_pure (cv) b_queue_Valid (fun h => by first | exact h | (simp only [h, Bool.and_self, Bool.and_true])) (fun _ => by first | exact ⟨matchA_refl, trivial⟩ | exact ⟨matchA_refl, matchA_refl, trivial⟩ | exact ⟨matchA_refl, matchA_refl, matchA_refl, trivial⟩ | simp only [encPk, encQ, go_sem, Nat.reduceAdd, Nat.reduceMul, Nat.reduceSub, Nat.reduceEqDiff, Nat.reduceLT, Nat.reduceLeDiff, Nat.reduceBEq, reduceIte, reduceCtorEq, Int.reduceAdd, Int.reduceLT, Int.reduceLE, Int.reduceGT, Int.reduceGE, Int.reduceEq, Int.reduceNe, Int.reduceBEq, Int.reduceBNe, Int.reduceToNat, Int.reduceNeg]) (by simp only [go_sem, Nat.reduceAdd, Nat.reduceMul, Nat.reduceSub, Nat.reduceEqDiff, Nat.reduceLT, Nat.reduceLeDiff, Nat.reduceBEq, reduceIte, reduceCtorEq, Int.reduceAdd, Int.reduceLT, Int.reduceLE, Int.reduceGT, Int.reduceGE, Int.reduceEq, Int.reduceNe, Int.reduceBEq, Int.reduceBNe, Int.reduceToNat, Int.reduceNeg]) rfl rfl ?_
          try simp only [go_sem, Nat.reduceAdd, Nat.reduceMul, Nat.reduceSub, Nat.reduceEqDiff, Nat.reduceLT, Nat.reduceLeDiff, Nat.reduceBEq, reduceIte, reduceCtorEq, Int.reduceAdd, Int.reduceLT, Int.reduceLE, Int.reduceGT, Int.reduceGE, Int.reduceEq, Int.reduceNe, Int.reduceBEq, Int.reduceBNe, Int.reduceToNat, Int.reduceNeg]
          (repeat (with_reducible refine And.intro (by first | omega | (simp_all; done) | grind) ?_)); refine AWp_cond _ rfl rfl (fun h => Bool.noConfusion h) (fun _ => ?_)
          try simp only [go_sem, Nat.reduceAdd, Nat.reduceMul, Nat.reduceSub, Nat.reduceEqDiff, Nat.reduceLT, Nat.reduceLeDiff, Nat.reduceBEq, reduceIte, reduceCtorEq, Int.reduceAdd, Int.reduceLT, Int.reduceLE, Int.reduceGT, Int.reduceGE, Int.reduceEq, Int.reduceNe, Int.reduceBEq, Int.reduceBNe, Int.reduceToNat, Int.reduceNeg]
          refine ⟨⟨a, (c + 1), i + 1, by omega, by omega, by omega, by omega⟩, ?_, by dsimp only; omega⟩
          simp only [Sonce, wrap_succ (show i < 9223372036854775807 by omega), go_sem, Nat.reduceAdd, Nat.reduceMul, Nat.reduceSub, Nat.reduceEqDiff, Nat.reduceLT, Nat.reduceLeDiff, Nat.reduceBEq, reduceIte, reduceCtorEq, Int.reduceAdd, Int.reduceLT, Int.reduceLE, Int.reduceGT, Int.reduceGE, Int.reduceEq, Int.reduceNe, Int.reduceBEq, Int.reduceBNe, Int.reduceToNat, Int.reduceNeg]
        · have hac : (c + 1) = a := by omega
          have cff : qFirst (can a (c + 1)) = (⟨0, 0, 0, 0, 0, 0, 0, [], []⟩, false) := by rw [hac]; exact can_first_no
          rw [cff] at cf
          simp only [can_enc] at cf
          have hd2 : decide ((((c + 1) : Nat) : Int) < ((a : Nat) : Int)) = false := decide_eq_false (by omega)
          try simp only [Int.natCast_add, Int.cast_ofNat_Int] at hd2
          try simp only [go_sem, Nat.reduceAdd, Nat.reduceMul, Nat.reduceSub, Nat.reduceEqDiff, Nat.reduceLT, Nat.reduceLeDiff, Nat.reduceBEq, reduceIte, reduceCtorEq, Int.reduceAdd, Int.reduceLT, Int.reduceLE, Int.reduceGT, Int.reduceGE, Int.reduceEq, Int.reduceNe, Int.reduceBEq, Int.reduceBNe, Int.reduceToNat, Int.reduceNeg]
          (repeat (with_reducible refine And.intro (by first | omega | (simp_all; done) | grind) ?_)); refine callO_pure (cf) b_queue_First (fun h => by first | exact h | (simp only [h, Bool.and_self, Bool.and_true])) (fun _ => by first | exact ⟨matchA_refl, trivial⟩ | exact ⟨matchA_refl, matchA_refl, trivial⟩ | exact ⟨matchA_refl, matchA_refl, matchA_refl, trivial⟩ | simp only [encPk, encQ, go_sem, Nat.reduceAdd, Nat.reduceMul, Nat.reduceSub, Nat.reduceEqDiff, Nat.reduceLT, Nat.reduceLeDiff, Nat.reduceBEq, reduceIte, reduceCtorEq, Int.reduceAdd, Int.reduceLT, Int.reduceLE, Int.reduceGT, Int.reduceGE, Int.reduceEq, Int.reduceNe, Int.reduceBEq, Int.reduceBNe, Int.reduceToNat, Int.reduceNeg]) (by simp only [go_sem, Nat.reduceAdd, Nat.reduceMul, Nat.reduceSub, Nat.reduceEqDiff, Nat.reduceLT, Nat.reduceLeDiff, Nat.reduceBEq, reduceIte, reduceCtorEq, Int.reduceAdd, Int.reduceLT, Int.reduceLE, Int.reduceGT, Int.reduceGE, Int.reduceEq, Int.reduceNe, Int.reduceBEq, Int.reduceBNe, Int.reduceToNat, Int.reduceNeg]) rfl rfl ?_
          simp only [encPk, List.map_nil, hd2, go_sem, Nat.reduceAdd, Nat.reduceMul, Nat.reduceSub, Nat.reduceEqDiff, Nat.reduceLT, Nat.reduceLeDiff, Nat.reduceBEq, reduceIte, reduceCtorEq, Int.reduceAdd, Int.reduceLT, Int.reduceLE, Int.reduceGT, Int.reduceGE, Int.reduceEq, Int.reduceNe, Int.reduceBEq, Int.reduceBNe, Int.reduceToNat, Int.reduceNeg]
          (repeat (with_reducible refine And.intro (by first | omega | (simp_all; done) | grind) ?_)); refine callO_off (.bool false) rfl ?_
          try simp only [go_sem, Nat.reduceAdd, Nat.reduceMul, Nat.reduceSub, Nat.reduceEqDiff, Nat.reduceLT, Nat.reduceLeDiff, Nat.reduceBEq, reduceIte, reduceCtorEq, Int.reduceAdd, Int.reduceLT, Int.reduceLE, Int.reduceGT, Int.reduceGE, Int.reduceEq, Int.reduceNe, Int.reduceBEq, Int.reduceBNe, Int.reduceToNat, Int.reduceNeg]
          (repeat (with_reducible refine And.intro (by first | omega | (simp_all; done) | grind) ?_)); refine callO_off (.bool false) rfl ?_
          try simp only [go_sem, Nat.reduceAdd, Nat.reduceMul, Nat.reduceSub, Nat.reduceEqDiff, Nat.reduceLT, Nat.reduceLeDiff, Nat.reduceBEq, reduceIte, reduceCtorEq, Int.reduceAdd, Int.reduceLT, Int.reduceLE, Int.reduceGT, Int.reduceGE, Int.reduceEq, Int.reduceNe, Int.reduceBEq, Int.reduceBNe, Int.reduceToNat, Int.reduceNeg]
          (repeat (with_reducible refine And.intro (by first | omega | (simp_all; done) | grind) ?_)); refine callO_pure (cv) b_queue_Valid (fun h => by first | exact h | (simp only [h, Bool.and_self, Bool.and_true])) (fun _ => by first | exact ⟨matchA_refl, trivial⟩ | exact ⟨matchA_refl, matchA_refl, trivial⟩ | exact ⟨matchA_refl, matchA_refl, matchA_refl, trivial⟩ | simp only [encPk, encQ, go_sem, Nat.reduceAdd, Nat.reduceMul, Nat.reduceSub, Nat.reduceEqDiff, Nat.reduceLT, Nat.reduceLeDiff, Nat.reduceBEq, reduceIte, reduceCtorEq, Int.reduceAdd, Int.reduceLT, Int.reduceLE, Int.reduceGT, Int.reduceGE, Int.reduceEq, Int.reduceNe, Int.reduceBEq, Int.reduceBNe, Int.reduceToNat, Int.reduceNeg]) (by simp only [go_sem, Nat.reduceAdd, Nat.reduceMul, Nat.reduceSub, Nat.reduceEqDiff, Nat.reduceLT, Nat.reduceLeDiff, Nat.reduceBEq, reduceIte, reduceCtorEq, Int.reduceAdd, Int.reduceLT, Int.reduceLE, Int.reduceGT, Int.reduceGE, Int.reduceEq, Int.reduceNe, Int.reduceBEq, Int.reduceBNe, Int.reduceToNat, Int.reduceNeg]) rfl rfl ?_
          try simp only [go_sem, Nat.reduceAdd, Nat.reduceMul, Nat.reduceSub, Nat.reduceEqDiff, Nat.reduceLT, Nat.reduceLeDiff, Nat.reduceBEq, reduceIte, reduceCtorEq, Int.reduceAdd, Int.reduceLT, Int.reduceLE, Int.reduceGT, Int.reduceGE, Int.reduceEq, Int.reduceNe, Int.reduceBEq, Int.reduceBNe, Int.reduceToNat, Int.reduceNeg]
          (repeat (with_reducible refine And.intro (by first | omega | (simp_all; done) | grind) ?_)); refine AWp_cond _ rfl rfl (fun h => Bool.noConfusion h) (fun _ => ?_)
          try simp only [go_sem, Nat.reduceAdd, Nat.reduceMul, Nat.reduceSub, Nat.reduceEqDiff, Nat.reduceLT, Nat.reduceLeDiff, Nat.reduceBEq, reduceIte, reduceCtorEq, Int.reduceAdd, Int.reduceLT, Int.reduceLE, Int.reduceGT, Int.reduceGE, Int.reduceEq, Int.reduceNe, Int.reduceBEq, Int.reduceBNe, Int.reduceToNat, Int.reduceNeg]
          refine ⟨⟨a, (c + 1), i + 1, by omega, by omega, by omega, by omega⟩, ?_, by dsimp only; omega⟩
          simp only [Sonce, wrap_succ (show i < 9223372036854775807 by omega), go_sem, Nat.reduceAdd, Nat.reduceMul, Nat.reduceSub, Nat.reduceEqDiff, Nat.reduceLT, Nat.reduceLeDiff, Nat.reduceBEq, reduceIte, reduceCtorEq, Int.reduceAdd, Int.reduceLT, Int.reduceLE, Int.reduceGT, Int.reduceGE, Int.reduceEq, Int.reduceNe, Int.reduceBEq, Int.reduceBNe, Int.reduceToNat, Int.reduceNeg]
      · have co := qConsume_ok (can a c) ((c : Int) + l[i].n) (can_sm (by omega))
        have he := can_consume_no (a := a) (c := c) (seq := (c : Int) + l[i].n) ca hy
        simp only [can_enc] at co
        have hw3 : IntKind.i64.wrap ((c : Int) + 1) = (c : Int) + 1 := wrap_i64 (by omega) (by omega)
        have hd : ((c : Int) + l[i].n == (c : Int) + 1 && decide ((c : Int) < (a : Int))) = false := by
          simp only [Bool.and_eq_false_iff, beq_eq_false_iff_ne, decide_eq_false_iff_not]; omega
        try simp only [go_sem, Nat.reduceAdd, Nat.reduceMul, Nat.reduceSub, Nat.reduceEqDiff, Nat.reduceLT, Nat.reduceLeDiff, Nat.reduceBEq, reduceIte, reduceCtorEq, Int.reduceAdd, Int.reduceLT, Int.reduceLE, Int.reduceGT, Int.reduceGE, Int.reduceEq, Int.reduceNe, Int.reduceBEq, Int.reduceBNe, Int.reduceToNat, Int.reduceNeg]
        (repeat (with_reducible refine And.intro (by first | omega | (simp_all; done) | grind) ?_)); refine callO_pure (co) b_queue_Consume (fun h => by first | exact h | (simp only [h, Bool.and_self, Bool.and_true])) (fun _ => by first | exact ⟨matchA_refl, trivial⟩ | exact ⟨matchA_refl, matchA_refl, trivial⟩ | exact ⟨matchA_refl, matchA_refl, matchA_refl, trivial⟩ | simp only [encPk, encQ, go_sem, Nat.reduceAdd, Nat.reduceMul, Nat.reduceSub, Nat.reduceEqDiff, Nat.reduceLT, Nat.reduceLeDiff, Nat.reduceBEq, reduceIte, reduceCtorEq, Int.reduceAdd, Int.reduceLT, Int.reduceLE, Int.reduceGT, Int.reduceGE, Int.reduceEq, Int.reduceNe, Int.reduceBEq, Int.reduceBNe, Int.reduceToNat, Int.reduceNeg]) (by simp only [go_sem, Nat.reduceAdd, Nat.reduceMul, Nat.reduceSub, Nat.reduceEqDiff, Nat.reduceLT, Nat.reduceLeDiff, Nat.reduceBEq, reduceIte, reduceCtorEq, Int.reduceAdd, Int.reduceLT, Int.reduceLE, Int.reduceGT, Int.reduceGE, Int.reduceEq, Int.reduceNe, Int.reduceBEq, Int.reduceBNe, Int.reduceToNat, Int.reduceNeg]) rfl rfl ?_
        simp only [encQ, go_sem, Nat.reduceAdd, Nat.reduceMul, Nat.reduceSub, Nat.reduceEqDiff, Nat.reduceLT, Nat.reduceLeDiff, Nat.reduceBEq, reduceIte, reduceCtorEq, Int.reduceAdd, Int.reduceLT, Int.reduceLE, Int.reduceGT, Int.reduceGE, Int.reduceEq, Int.reduceNe, Int.reduceBEq, Int.reduceBNe, Int.reduceToNat, Int.reduceNeg]
        simp only [hd, hw3, he, go_sem, Nat.reduceAdd, Nat.reduceMul, Nat.reduceSub, Nat.reduceEqDiff, Nat.reduceLT, Nat.reduceLeDiff, Nat.reduceBEq, reduceIte, reduceCtorEq, Int.reduceAdd, Int.reduceLT, Int.reduceLE, Int.reduceGT, Int.reduceGE, Int.reduceEq, Int.reduceNe, Int.reduceBEq, Int.reduceBNe, Int.reduceToNat, Int.reduceNeg]
        (repeat (with_reducible refine And.intro (by first | omega | (simp_all; done) | grind) ?_)); refine AWp_cond _ rfl rfl (fun h => Bool.noConfusion h) (fun _ => ?_)
        try simp only [go_sem, Nat.reduceAdd, Nat.reduceMul, Nat.reduceSub, Nat.reduceEqDiff, Nat.reduceLT, Nat.reduceLeDiff, Nat.reduceBEq, reduceIte, reduceCtorEq, Int.reduceAdd, Int.reduceLT, Int.reduceLE, Int.reduceGT, Int.reduceGE, Int.reduceEq, Int.reduceNe, Int.reduceBEq, Int.reduceBNe, Int.reduceToNat, Int.reduceNeg]
        (repeat (with_reducible refine And.intro (by first | omega | (simp_all; done) | grind) ?_)); refine AWp_cond _ rfl rfl (fun h => Bool.noConfusion h) (fun _ => ?_)
        try simp only [go_sem, Nat.reduceAdd, Nat.reduceMul, Nat.reduceSub, Nat.reduceEqDiff, Nat.reduceLT, Nat.reduceLeDiff, Nat.reduceBEq, reduceIte, reduceCtorEq, Int.reduceAdd, Int.reduceLT, Int.reduceLE, Int.reduceGT, Int.reduceGE, Int.reduceEq, Int.reduceNe, Int.reduceBEq, Int.reduceBNe, Int.reduceToNat, Int.reduceNeg]
        have hv := can_valid (a := a) (c := c) (by omega) (by omega) (by omega)
        have hsm := can_sm (a := a) (c := c) (by omega)
        have cv := qValid_ok (can a c) hsm
        rw [hv] at cv
        simp only [can_enc] at cv
        have cf := qFirst_ok (can a c) hsm
        rcases Nat.lt_or_ge c a with hlt | hge
        · rw [can_first_yes hlt] at cf
          simp only [can_enc] at cf
          have hd2 : decide (((c : Nat) : Int) < ((a : Nat) : Int)) = true := decide_eq_true (by omega)
          have hw4 : IntKind.i64.wrap (((c : Nat) : Int) + 1) = ((c : Nat) : Int) + 1 := wrap_i64 (by omega) (by omega)
          try simp only [Int.natCast_add, Int.cast_ofNat_Int] at hd2 hw4
          have ce := pkEqual_ok (msg (((c : Nat) : Int) + 1)) (msg (((c : Nat) : Int) + 1)) (Nat.zero_le _) (Nat.zero_le _)
          simp only [decide_true] at ce
          try simp only [go_sem, Nat.reduceAdd, Nat.reduceMul, Nat.reduceSub, Nat.reduceEqDiff, Nat.reduceLT, Nat.reduceLeDiff, Nat.reduceBEq, reduceIte, reduceCtorEq, Int.reduceAdd, Int.reduceLT, Int.reduceLE, Int.reduceGT, Int.reduceGE, Int.reduceEq, Int.reduceNe, Int.reduceBEq, Int.reduceBNe, Int.reduceToNat, Int.reduceNeg]
          (repeat (with_reducible refine And.intro (by first | omega | (simp_all; done) | grind) ?_)); refine callO_pure (cf) b_queue_First (fun h => by first | exact h | (simp only [h, Bool.and_self, Bool.and_true])) (fun _ => by first | exact ⟨matchA_refl, trivial⟩ | exact ⟨matchA_refl, matchA_refl, trivial⟩ | exact ⟨matchA_refl, matchA_refl, matchA_refl, trivial⟩ | simp only [encPk, encQ, go_sem, Nat.reduceAdd, Nat.reduceMul, Nat.reduceSub, Nat.reduceEqDiff, Nat.reduceLT, Nat.reduceLeDiff, Nat.reduceBEq, reduceIte, reduceCtorEq, Int.reduceAdd, Int.reduceLT, Int.reduceLE, Int.reduceGT, Int.reduceGE, Int.reduceEq, Int.reduceNe, Int.reduceBEq, Int.reduceBNe, Int.reduceToNat, Int.reduceNeg]) (by simp only [go_sem, Nat.reduceAdd, Nat.reduceMul, Nat.reduceSub, Nat.reduceEqDiff, Nat.reduceLT, Nat.reduceLeDiff, Nat.reduceBEq, reduceIte, reduceCtorEq, Int.reduceAdd, Int.reduceLT, Int.reduceLE, Int.reduceGT, Int.reduceGE, Int.reduceEq, Int.reduceNe, Int.reduceBEq, Int.reduceBNe, Int.reduceToNat, Int.reduceNeg]) rfl rfl ?_
          simp only [encPk, go_sem, Nat.reduceAdd, Nat.reduceMul, Nat.reduceSub, Nat.reduceEqDiff, Nat.reduceLT, Nat.reduceLeDiff, Nat.reduceBEq, reduceIte, reduceCtorEq, Int.reduceAdd, Int.reduceLT, Int.reduceLE, Int.reduceGT, Int.reduceGE, Int.reduceEq, Int.reduceNe, Int.reduceBEq, Int.reduceBNe, Int.reduceToNat, Int.reduceNeg]
          simp only [hd2, hw4, go_sem, Nat.reduceAdd, Nat.reduceMul, Nat.reduceSub, Nat.reduceEqDiff, Nat.reduceLT, Nat.reduceLeDiff, Nat.reduceBEq, reduceIte, reduceCtorEq, Int.reduceAdd, Int.reduceLT, Int.reduceLE, Int.reduceGT, Int.reduceGE, Int.reduceEq, Int.reduceNe, Int.reduceBEq, Int.reduceBNe, Int.reduceToNat, Int.reduceNeg]
          (repeat (with_reducible refine And.intro (by first | omega | (simp_all; done) | grind) ?_)); refine callO_pure (msg_ok (((c : Nat) : Int) + 1)) b_farandolelaw51_message (fun h => by first | exact h | (simp only [h, Bool.and_self, Bool.and_true])) (fun _ => by first | exact ⟨matchA_refl, trivial⟩ | exact ⟨matchA_refl, matchA_refl, trivial⟩ | exact ⟨matchA_refl, matchA_refl, matchA_refl, trivial⟩ | simp only [encPk, encQ, go_sem, Nat.reduceAdd, Nat.reduceMul, Nat.reduceSub, Nat.reduceEqDiff, Nat.reduceLT, Nat.reduceLeDiff, Nat.reduceBEq, reduceIte, reduceCtorEq, Int.reduceAdd, Int.reduceLT, Int.reduceLE, Int.reduceGT, Int.reduceGE, Int.reduceEq, Int.reduceNe, Int.reduceBEq, Int.reduceBNe, Int.reduceToNat, Int.reduceNeg]) (by simp only [go_sem, Nat.reduceAdd, Nat.reduceMul, Nat.reduceSub, Nat.reduceEqDiff, Nat.reduceLT, Nat.reduceLeDiff, Nat.reduceBEq, reduceIte, reduceCtorEq, Int.reduceAdd, Int.reduceLT, Int.reduceLE, Int.reduceGT, Int.reduceGE, Int.reduceEq, Int.reduceNe, Int.reduceBEq, Int.reduceBNe, Int.reduceToNat, Int.reduceNeg]) rfl rfl ?_
          try simp only [go_sem, Nat.reduceAdd, Nat.reduceMul, Nat.reduceSub, Nat.reduceEqDiff, Nat.reduceLT, Nat.reduceLeDiff, Nat.reduceBEq, reduceIte, reduceCtorEq, Int.reduceAdd, Int.reduceLT, Int.reduceLE, Int.reduceGT, Int.reduceGE, Int.reduceEq, Int.reduceNe, Int.reduceBEq, Int.reduceBNe, Int.reduceToNat, Int.reduceNeg]
          (repeat (with_reducible refine And.intro (by first | omega | (simp_all; done) | grind) ?_)); refine callO_pure (ce) b_packet_Equal (fun h => by first | exact h | (simp only [h, Bool.and_self, Bool.and_true])) (fun _ => by first | exact ⟨matchA_refl, trivial⟩ | exact ⟨matchA_refl, matchA_refl, trivial⟩ | exact ⟨matchA_refl, matchA_refl, matchA_refl, trivial⟩ | simp only [encPk, encQ, go_sem, Nat.reduceAdd, Nat.reduceMul, Nat.reduceSub, Nat.reduceEqDiff, Nat.reduceLT, Nat.reduceLeDiff, Nat.reduceBEq, reduceIte, reduceCtorEq, Int.reduceAdd, Int.reduceLT, Int.reduceLE, Int.reduceGT, Int.reduceGE, Int.reduceEq, Int.reduceNe, Int.reduceBEq, Int.reduceBNe, Int.reduceToNat, Int.reduceNeg]) (by simp only [go_sem, Nat.reduceAdd, Nat.reduceMul, Nat.reduceSub, Nat.reduceEqDiff, Nat.reduceLT, Nat.reduceLeDiff, Nat.reduceBEq, reduceIte, reduceCtorEq, Int.reduceAdd, Int.reduceLT, Int.reduceLE, Int.reduceGT, Int.reduceGE, Int.reduceEq, Int.reduceNe, Int.reduceBEq, Int.reduceBNe, Int.reduceToNat, Int.reduceNeg]) rfl rfl ?_
          try simp only [go_sem, Nat.reduceAdd, Nat.reduceMul, Nat.reduceSub, Nat.reduceEqDiff, Nat.reduceLT, Nat.reduceLeDiff, Nat.reduceBEq, reduceIte, reduceCtorEq, Int.reduceAdd, Int.reduceLT, Int.reduceLE, Int.reduceGT, Int.reduceGE, Int.reduceEq, Int.reduceNe, Int.reduceBEq, Int.reduceBNe, Int.reduceToNat, Int.reduceNeg]
          (repeat (with_reducible refine And.intro (by first | omega | (simp_all; done) | grind) ?_)); refine callO_pure (cv) b_queue_Valid (fun h => by first | exact h | (simp only [h, Bool.and_self, Bool.and_true])) (fun _ => by first | exact ⟨matchA_refl, trivial⟩ | exact ⟨matchA_refl, matchA_refl, trivial⟩ | exact ⟨matchA_refl, matchA_refl, matchA_refl, trivial⟩ | simp only [encPk, encQ, go_sem, Nat.reduceAdd, Nat.reduceMul, Nat.reduceSub, Nat.reduceEqDiff, Nat.reduceLT, Nat.reduceLeDiff, Nat.reduceBEq, reduceIte, reduceCtorEq, Int.reduceAdd, Int.reduceLT, Int.reduceLE, Int.reduceGT, Int.reduceGE, Int.reduceEq, Int.reduceNe, Int.reduceBEq, Int.reduceBNe, Int.reduceToNat, Int.reduceNeg]) (by simp only [go_sem, Nat.reduceAdd, Nat.reduceMul, Nat.reduceSub, Nat.reduceEqDiff, Nat.reduceLT, Nat.reduceLeDiff, Nat.reduceBEq, reduceIte, reduceCtorEq, Int.reduceAdd, Int.reduceLT, Int.reduceLE, Int.reduceGT, Int.reduceGE, Int.reduceEq, Int.reduceNe, Int.reduceBEq, Int.reduceBNe, Int.reduceToNat, Int.reduceNeg]) rfl rfl ?_
          try simp only [go_sem, Nat.reduceAdd, Nat.reduceMul, Nat.reduceSub, Nat.reduceEqDiff, Nat.reduceLT, Nat.reduceLeDiff, Nat.reduceBEq, reduceIte, reduceCtorEq, Int.reduceAdd, Int.reduceLT, Int.reduceLE, Int.reduceGT, Int.reduceGE, Int.reduceEq, Int.reduceNe, Int.reduceBEq, Int.reduceBNe, Int.reduceToNat, Int.reduceNeg]
          (repeat (with_reducible refine And.intro (by first | omega | (simp_all; done) | grind) ?_)); refine AWp_cond _ rfl rfl (fun h => Bool.noConfusion h) (fun _ => ?_)
          try simp only [go_sem, Nat.reduceAdd, Nat.reduceMul, Nat.reduceSub, Nat.reduceEqDiff, Nat.reduceLT, Nat.reduceLeDiff, Nat.reduceBEq, reduceIte, reduceCtorEq, Int.reduceAdd, Int.reduceLT, Int.reduceLE, Int.reduceGT, Int.reduceGE, Int.reduceEq, Int.reduceNe, Int.reduceBEq, Int.reduceBNe, Int.reduceToNat, Int.reduceNeg]
          refine ⟨⟨a, c, i + 1, by omega, by omega, by omega, by omega⟩, ?_, by dsimp only; omega⟩
          simp only [Sonce, wrap_succ (show i < 9223372036854775807 by omega), go_sem, Nat.reduceAdd, Nat.reduceMul, Nat.reduceSub, Nat.reduceEqDiff, Nat.reduceLT, Nat.reduceLeDiff, Nat.reduceBEq, reduceIte, reduceCtorEq, Int.reduceAdd, Int.reduceLT, Int.reduceLE, Int.reduceGT, Int.reduceGE, Int.reduceEq, Int.reduceNe, Int.reduceBEq, Int.reduceBNe, Int.reduceToNat, Int.reduceNeg]
        · have hac : c = a := by omega
          have cff : qFirst (can a c) = (⟨0, 0, 0, 0, 0, 0, 0, [], []⟩, false) := by rw [hac]; exact can_first_no
          rw [cff] at cf
          simp only [can_enc] at cf
          have hd2 : decide (((c : Nat) : Int) < ((a : Nat) : Int)) = false := decide_eq_false (by omega)
          try simp only [Int.natCast_add, Int.cast_ofNat_Int] at hd2
          try simp only [go_sem, Nat.reduceAdd, Nat.reduceMul, Nat.reduceSub, Nat.reduceEqDiff, Nat.reduceLT, Nat.reduceLeDiff, Nat.reduceBEq, reduceIte, reduceCtorEq, Int.reduceAdd, Int.reduceLT, Int.reduceLE, Int.reduceGT, Int.reduceGE, Int.reduceEq, Int.reduceNe, Int.reduceBEq, Int.reduceBNe, Int.reduceToNat, Int.reduceNeg]
          (repeat (with_reducible refine And.intro (by first | omega | (simp_all; done) | grind) ?_)); refine callO_pure (cf) b_queue_First (fun h => by first | exact h | (simp only [h, Bool.and_self, Bool.and_true])) (fun _ => by first | exact ⟨matchA_refl, trivial⟩ | exact ⟨matchA_refl, matchA_refl, trivial⟩ | exact ⟨matchA_refl, matchA_refl, matchA_refl, trivial⟩ | simp only [encPk, encQ, go_sem, Nat.reduceAdd, Nat.reduceMul, Nat.reduceSub, Nat.reduceEqDiff, Nat.reduceLT, Nat.reduceLeDiff, Nat.reduceBEq, reduceIte, reduceCtorEq, Int.reduceAdd, Int.reduceLT, Int.reduceLE, Int.reduceGT, Int.reduceGE, Int.reduceEq, Int.reduceNe, Int.reduceBEq, Int.reduceBNe, Int.reduceToNat, Int.reduceNeg]) (by simp only [go_sem, Nat.reduceAdd, Nat.reduceMul, Nat.reduceSub, Nat.reduceEqDiff, Nat.reduceLT, Nat.reduceLeDiff, Nat.reduceBEq, reduceIte, reduceCtorEq, Int.reduceAdd, Int.reduceLT, Int.reduceLE, Int.reduceGT, Int.reduceGE, Int.reduceEq, Int.reduceNe, Int.reduceBEq, Int.reduceBNe, Int.reduceToNat, Int.reduceNeg]) rfl rfl ?_
          simp only [encPk, List.map_nil, hd2, go_sem, Nat.reduceAdd, Nat.reduceMul, Nat.reduceSub, Nat.reduceEqDiff, Nat.reduceLT, Nat.reduceLeDiff, Nat.reduceBEq, reduceIte, reduceCtorEq, Int.reduceAdd, Int.reduceLT, Int.reduceLE, Int.reduceGT, Int.reduceGE, Int.reduceEq, Int.reduceNe, Int.reduceBEq, Int.reduceBNe, Int.reduceToNat, Int.reduceNeg]
          (repeat (with_reducible refine And.intro (by first | omega | (simp_all; done) | grind) ?_)); refine callO_off (.bool false) rfl ?_
          try simp only [go_sem, Nat.reduceAdd, Nat.reduceMul, Nat.reduceSub, Nat.reduceEqDiff, Nat.reduceLT, Nat.reduceLeDiff, Nat.reduceBEq, reduceIte, reduceCtorEq, Int.reduceAdd, Int.reduceLT, Int.reduceLE, Int.reduceGT, Int.reduceGE, Int.reduceEq, Int.reduceNe, Int.reduceBEq, Int.reduceBNe, Int.reduceToNat, Int.reduceNeg]
          (repeat (with_reducible refine And.intro (by first | omega | (simp_all; done) | grind) ?_)); refine callO_off (.bool false) rfl ?_
          try simp only [go_sem, Nat.reduceAdd, Nat.reduceMul, Nat.reduceSub, Nat.reduceEqDiff, Nat.reduceLT, Nat.reduceLeDiff, Nat.reduceBEq, reduceIte, reduceCtorEq, Int.reduceAdd, Int.reduceLT, Int.reduceLE, Int.reduceGT, Int.reduceGE, Int.reduceEq, Int.reduceNe, Int.reduceBEq, Int.reduceBNe, Int.reduceToNat, Int.reduceNeg]
          (repeat (with_reducible refine And.intro (by first | omega | (simp_all; done) | grind) ?_)); refine callO_pure (cv) b_queue_Valid (fun h => by first | exact h | (simp only [h, Bool.and_self, Bool.and_true])) (fun _ => by first | exact ⟨matchA_refl, trivial⟩ | exact ⟨matchA_refl, matchA_refl, trivial⟩ | exact ⟨matchA_refl, matchA_refl, matchA_refl, trivial⟩ | simp only [encPk, encQ, go_sem, Nat.reduceAdd, Nat.reduceMul, Nat.reduceSub, Nat.reduceEqDiff, Nat.reduceLT, Nat.reduceLeDiff, Nat.reduceBEq, reduceIte, reduceCtorEq, Int.reduceAdd, Int.reduceLT, Int.reduceLE, Int.reduceGT, Int.reduceGE, Int.reduceEq, Int.reduceNe, Int.reduceBEq, Int.reduceBNe, Int.reduceToNat, Int.reduceNeg]) (by simp only [go_sem, Nat.reduceAdd, Nat.reduceMul, Nat.reduceSub, Nat.reduceEqDiff, Nat.reduceLT, Nat.reduceLeDiff, Nat.reduceBEq, reduceIte, reduceCtorEq, Int.reduceAdd, Int.reduceLT, Int.reduceLE, Int.reduceGT, Int.reduceGE, Int.reduceEq, Int.reduceNe, Int.reduceBEq, Int.reduceBNe, Int.reduceToNat, Int.reduceNeg]) rfl rfl ?_
          try simp only [go_sem, Nat.reduceAdd, Nat.reduceMul, Nat.reduceSub, Nat.reduceEqDiff, Nat.reduceLT, Nat.reduceLeDiff, Nat.reduceBEq, reduceIte, reduceCtorEq, Int.reduceAdd, Int.reduceLT, Int.reduceLE, Int.reduceGT, Int.reduceGE, Int.reduceEq, Int.reduceNe, Int.reduceBEq, Int.reduceBNe, Int.reduceToNat, Int.reduceNeg]
          (repeat (with_reducible refine And.intro (by first | omega | (simp_all; done) | grind) ?_)); refine AWp_cond _ rfl rfl (fun h => Bool.noConfusion h) (fun _ => ?_)
          try simp only [go_sem, Nat.reduceAdd, Nat.reduceMul, Nat.reduceSub, Nat.reduceEqDiff, Nat.reduceLT, Nat.reduceLeDiff, Nat.reduceBEq, reduceIte, reduceCtorEq, Int.reduceAdd, Int.reduceLT, Int.reduceLE, Int.reduceGT, Int.reduceGE, Int.reduceEq, Int.reduceNe, Int.reduceBEq, Int.reduceBNe, Int.reduceToNat, Int.reduceNeg]
          refine ⟨⟨a, c, i + 1, by omega, by omega, by omega, by omega⟩, ?_, by dsimp only; omega⟩
          simp only [Sonce, wrap_succ (show i < 9223372036854775807 by omega), go_sem, Nat.reduceAdd, Nat.reduceMul, Nat.reduceSub, Nat.reduceEqDiff, Nat.reduceLT, Nat.reduceLeDiff, Nat.reduceBEq, reduceIte, reduceCtorEq, Int.reduceAdd, Int.reduceLT, Int.reduceLE, Int.reduceGT, Int.reduceGE, Int.reduceEq, Int.reduceNe, Int.reduceBEq, Int.reduceBNe, Int.reduceToNat, Int.reduceNeg]
  · try simp only [go_sem, Nat.reduceAdd, Nat.reduceMul, Nat.reduceSub, Nat.reduceEqDiff, Nat.reduceLT, Nat.reduceLeDiff, Nat.reduceBEq, reduceIte, reduceCtorEq, Int.reduceAdd, Int.reduceLT, Int.reduceLE, Int.reduceGT, Int.reduceGE, Int.reduceEq, Int.reduceNe, Int.reduceBEq, Int.reduceBNe, Int.reduceToNat, Int.reduceNeg]
end Go.Proofs.Ythcpckcgjplhiaa
