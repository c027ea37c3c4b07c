/- Texts Zt, Zu, Ws. -/
import Derived.Test.YtinnaedmdoengaaGreatMkp
import Derived.Calls
import Derived.Orders
import Derived.Tactics
import Derived.Laws.AppendOwn
import Derived.Laws.Slices
import Derived.Laws.Closers25
import Derived.Laws.StructEq
import Derived.Laws.BytesString
import Derived.Laws.CopyRow
import Derived.MapKept
import Derived.Maps.RangeRun
import Derived.TacticsIn
import Derived.OrdersIn
import Derived.RangeFuncRecord
import Derived.RangeFuncLeaves
import Derived.IntWalk
import Derived.ProofKit
import Derived.OpenShut
import Derived.Carry
import Derived.Test.YtinnaedmdoengaaGreatProg
import Derived.KernelRfl
import Derived.OwnWalkIn
import Derived.TacticsInMore
import Derived.LoopIn
import Derived.WalkKit
import Derived.Lib.Strings
import Derived.Lib.Slices
import Derived.Lib.Walk
import Derived.Lib.Bytealg
import Derived.Shelf.SlSortCmp.WholeK
import Derived.Shelf.SlSortCmp.NoneTotal

namespace Go.Proofs.YtinnaedmdoengaaGreat
open Go.Abs
set_option linter.unusedSimpArgs false
set_option linter.unusedVariables false
noncomputable section
set_option maxRecDepth 100000
def x4h : List SOper := [
 ⟨some 1, .box 2 (.t 0), none⟩,
 ⟨some 2, .alloc 1 [(.d .nilsl), (.d (.int .i64 0)), (.d .nilsl)], none⟩]
def x4i : List SOper := [
 ⟨some 13, .faddr 2 (.t 1), none⟩,
 ⟨some 14, .load none (.t 13), none⟩,
 ⟨some 15, .build [.nilsl, (.int .i64 0), .nilsl] [(2, 1, (.t 14))], none⟩,
 ⟨some 3, .alloc 1 [(.d .nilsl), (.d (.int .i64 0)), (.d .nilsl)], none⟩,
 ⟨none, .store (some 3) (.t 3) (.t 15), none⟩]
def x4j : List SOper := [
 ⟨some 4, .mov (.k (.d .nilsl)), none⟩]
def x4k : List SOper := [
 ⟨some 5, .mov (.k (.d (.int .i64 0))), none⟩]
def x4l : List SOper := [
 ⟨some 16, .mov (.t 5), none⟩,
 ⟨some 17, .faddr 2 (.t 1), none⟩,
 ⟨some 18, .load none (.t 17), none⟩,
 ⟨some 19, .len (.t 18), none⟩,
 ⟨some 20, .bin .lss (.t 16) (.t 19), none⟩]
def x4m : List SOper := [
 ⟨some 23, .buildSlice false 3 0 [(.str []), (.bool false), .nilsl] [], none⟩,
 ⟨some 24, .mov (.t 4), none⟩,
 ⟨some 25, .append false 3 48 (.t 23) (.t 24), none⟩,
 ⟨some 26, .faddr 2 (.t 1), none⟩,
 ⟨some 27, .load none (.t 26), none⟩,
 ⟨some 28, .mov (.t 5), none⟩,
 ⟨some 29, .iaddr 2 (.t 27) (.t 28), none⟩,
 ⟨some 30, .faddr 0 (.t 29), none⟩,
 ⟨some 31, .load none (.t 30), none⟩,
 ⟨some 32, .faddr 2 (.t 1), none⟩,
 ⟨some 33, .load none (.t 32), none⟩,
 ⟨some 34, .mov (.t 5), none⟩,
 ⟨some 35, .iaddr 2 (.t 33) (.t 34), none⟩,
 ⟨some 36, .faddr 1 (.t 35), none⟩,
 ⟨some 37, .load none (.t 36), none⟩,
 ⟨some 38, .build [(.str []), (.bool false), .nilsl] [(0, 1, (.t 31)), (2, 1, (.t 37))], none⟩,
 ⟨some 39, .buildSlice false 3 1 [(.str []), (.bool false), .nilsl] [(0, 3, (.t 38))], none⟩,
 ⟨some 40, .append false 3 48 (.t 25) (.t 39), none⟩,
 ⟨some 6, .mov (.t 40), none⟩]
def x4n : List SOper := [
 ⟨some 42, .mov (.t 6), none⟩,
 ⟨some 43, .call (.k (.d (.func (.func 73) [] []))) [(.t 42)], none⟩,
 ⟨some 41, .mov (.t 43), none⟩,
 ⟨some 44, .extract 0 (.t 41), none⟩,
 ⟨some 45, .extract 1 (.t 41), none⟩,
 ⟨some 7, .mov (.t 44), none⟩,
 ⟨some 8, .mov (.t 45), none⟩]
def x4o : List SOper := [
 ⟨some 46, .mov (.t 8), none⟩,
 ⟨some 47, .bin .neq (.t 46) (.k (.d (.int .i64 0))), none⟩]
def x4p : List SOper := [
 ⟨some 49, .mov (.t 4), none⟩,
 ⟨some 50, .call (.k (.d (.func (.func 73) [] []))) [(.t 49)], none⟩,
 ⟨some 48, .mov (.t 50), none⟩,
 ⟨some 51, .extract 0 (.t 48), none⟩,
 ⟨some 52, .extract 1 (.t 48), none⟩,
 ⟨some 9, .mov (.t 51), none⟩,
 ⟨some 10, .mov (.t 52), none⟩]
def x4q : List SOper := [
 ⟨some 54, .faddr 0 (.t 3), none⟩,
 ⟨some 55, .load (some 2) (.t 54), none⟩,
 ⟨some 56, .mov (.t 9), none⟩,
 ⟨some 57, .call (.k (.d (.func (.func 74) [] []))) [(.t 55), (.t 56)], none⟩,
 ⟨some 53, .mov (.t 57), none⟩,
 ⟨some 58, .extract 0 (.t 53), none⟩,
 ⟨some 59, .extract 1 (.t 53), none⟩,
 ⟨some 60, .faddr 0 (.t 3), none⟩,
 ⟨none, .store (some 2) (.t 60) (.t 58), none⟩]
def xg0 : List SOper := [
 ⟨some 61, .mov (.t 6), none⟩,
 ⟨some 62, .mov (.t 6), none⟩,
 ⟨some 63, .len (.t 62), none⟩,
 ⟨some 64, .bin .sub (.t 63) (.k (.d (.int .i64 1))), none⟩,
 ⟨some 65, .slice 3 (.t 61) (some (.t 64)) none none, none⟩,
 ⟨some 6, .mov (.t 65), none⟩]
def xg1 : List SOper := [
 ⟨some 66, .mov (.t 6), none⟩,
 ⟨some 4, .mov (.t 66), none⟩]
def xg2 : List SOper := [
 ⟨some 21, .mov (.t 5), none⟩,
 ⟨some 22, .bin .add (.t 21) (.k (.d (.int .i64 1))), none⟩,
 ⟨some 5, .mov (.t 22), none⟩]
def q2c : SCode := (.seq (.seq (.region x4l 0 []) (.cond (.t 20) .skip (.exit 0))) (.seq (.block 1 (.seq (.region x4m 0 []) (.seq (.seq (.region x4n 0 []) (.seq (.region x4o 0 []) (.cond (.t 47) (.seq (.region x4p 0 []) (.seq (.region x4q 0 []) (.region xg0 0 []))) .skip))) (.region xg1 0 [])))) (.region xg2 0 [])))
theorem x4r : qg q2c.eq_1 := qh q2c.eq_1
def xg3 : List SOper := [
 ⟨some 67, .mov (.t 4), none⟩,
 ⟨some 68, .len (.t 67), none⟩,
 ⟨some 69, .bin .gtr (.t 68) (.k (.d (.int .i64 0))), none⟩]
def xg4 : List SOper := [
 ⟨some 71, .mov (.t 4), none⟩,
 ⟨some 72, .call (.k (.d (.func (.func 73) [] []))) [(.t 71)], none⟩,
 ⟨some 70, .mov (.t 72), none⟩,
 ⟨some 73, .extract 0 (.t 70), none⟩,
 ⟨some 74, .extract 1 (.t 70), none⟩,
 ⟨some 11, .mov (.t 73), none⟩,
 ⟨some 12, .mov (.t 74), none⟩]
def xg5 : List SOper := [
 ⟨some 76, .faddr 0 (.t 3), none⟩,
 ⟨some 77, .load (some 2) (.t 76), none⟩,
 ⟨some 78, .mov (.t 11), none⟩,
 ⟨some 79, .call (.k (.d (.func (.func 74) [] []))) [(.t 77), (.t 78)], none⟩,
 ⟨some 75, .mov (.t 79), none⟩,
 ⟨some 80, .extract 0 (.t 75), none⟩,
 ⟨some 81, .extract 1 (.t 75), none⟩,
 ⟨some 82, .faddr 0 (.t 3), none⟩,
 ⟨none, .store (some 2) (.t 82) (.t 80), none⟩]
def xg6 : List SOper := [
 ⟨some 83, .load (some 3) (.t 3), none⟩,
 ⟨some 84, .call (.k (.d (.func (.func 64) [] []))) [(.t 83)], none⟩,
 ⟨none, .store (some 3) (.t 2) (.t 84), none⟩]
def s66 : SCode := (.seq (.region x4h 2 []) (.seq (.region x4i 1 []) (.seq (.region x4j 0 []) (.seq (.seq (.region x4k 0 []) (.block 0 (.loop q2c))) (.seq (.seq (.region xg3 0 []) (.cond (.t 69) (.seq (.region xg4 0 []) (.region xg5 0 [])) .skip)) (.seq (.region xg6 0 []) .ret))))))
theorem e66 : qg s66.eq_1 := qh s66.eq_1
theorem zfb : qa x4h.eq_1 := qc
theorem zfc : qa x4i.eq_1 := qc
theorem zfd : qa x4j.eq_1 := qc
theorem zfe : qa x4k.eq_1 := qc
theorem zff : qa x4l.eq_1 := qc
theorem zfg : qa x4m.eq_1 := qc
theorem zfh : qa x4n.eq_1 := qc
theorem zfi : qa x4o.eq_1 := qc
theorem zfj : qa x4p.eq_1 := qc
theorem zfk : qa x4q.eq_1 := qc
theorem x4s : qa xg0.eq_1 := qc
theorem x4t : qa xg1.eq_1 := qc
theorem x4u : qa xg2.eq_1 := qc
theorem x4v : qa xg3.eq_1 := qc
theorem x4w : qa xg4.eq_1 := qc
theorem x4x : qa xg5.eq_1 := qc
theorem x4y : qa xg6.eq_1 := qc
attribute [go_sem] zfb zfc zfd zfe zff zfg zfh zfi zfj zfk x4s x4t x4u x4r x4v x4w x4x x4y e66
theorem F66 : FnIs Tryz.prog 66 Tryz.f66 [] news s66 [.cell 2 (some 3)] 85 := zc follows Tryz.func66
def x4z : List SOper := [
 ⟨some 2, .mov (.k (.d .nilptr)), none⟩]
def x40 : List SOper := [
 ⟨some 3, .mov (.t 0), none⟩,
 ⟨some 4, .eqnil false .ptr (.t 3), none⟩]
def x41 : List SOper := [
 ⟨some 2, .mov (.k (.d .nilptr)), none⟩]
def x42 : List SOper := [
 ⟨some 5, .mov (.t 0), none⟩,
 ⟨some 6, .call (.k (.d (.func (.func 22) [] []))) [(.t 5)], none⟩,
 ⟨some 7, .mov (.t 0), none⟩,
 ⟨some 8, .nilCheck (.t 7), none⟩,
 ⟨some 9, .faddr 2 (.t 8), none⟩,
 ⟨some 10, .load none (.t 9), none⟩,
 ⟨some 11, .call (.k (.d (.func (.func 51) [] []))) [(.t 10)], none⟩,
 ⟨some 12, .build [.nilsl, (.int .i64 0), .nilmap] [(0, 2, (.t 6)), (2, 1, (.t 11))], none⟩,
 ⟨some 13, .box 1 (.t 12), none⟩,
 ⟨some 2, .mov (.t 13), none⟩]
def s24 : SCode := (.seq (.region x4z 0 []) (.seq (.seq (.region x40 0 []) (.cond (.t 4) (.seq (.region x41 0 []) .ret) .skip)) (.seq (.region x42 2 [(1, 5)]) .ret)))
theorem e24 : qg s24.eq_1 := qh s24.eq_1
theorem zfl : qa x4z.eq_1 := qc
theorem zfm : qa x40.eq_1 := qc
theorem zfn : qa x41.eq_1 := qc
theorem zfo : qa x42.eq_1 := qc
attribute [go_sem] zfl zfm zfn zfo e24
theorem F24 : FnIs Tryz.prog 24 Tryz.f24 [] news s24 [.tmp 2] 14 := zc follows Tryz.func24
def x43 : List SOper := [
 ⟨some 4, .box 3 (.t 1), none⟩,
 ⟨some 5, .box 2 (.t 2), none⟩,
 ⟨some 6, .mov (.k (.d .nilptr)), none⟩,
 ⟨some 7, .alloc 1 [(.d .nilsl), (.d (.int .i64 0)), (.d .nilsl)], none⟩,
 ⟨some 8, .mov (.k (.d (.bool false))), none⟩]
def x44 : List SOper := [
 ⟨some 16, .faddr 0 (.t 5), none⟩,
 ⟨some 17, .load none (.t 16), none⟩]
def x45 : List SOper := [
 ⟨some 19, .bin .eql (.t 17) (.k (.d (.int .i64 0))), none⟩,
 ⟨some 18, .mov (.t 19), none⟩]
def x46 : List SOper := [
 ⟨some 20, .mov (.t 0), none⟩,
 ⟨some 21, .faddr 1 (.t 5), none⟩,
 ⟨some 22, .load none (.t 21), none⟩,
 ⟨some 23, .call (.k (.d (.func (.func 31) [] []))) [(.t 22)], none⟩,
 ⟨some 24, .call (.k (.d (.func (.func 14) [] []))) [(.t 20), (.t 23)], none⟩,
 ⟨some 9, .mov (.t 24), none⟩]
def x47 : List SOper := [
 ⟨some 26, .load (some 3) (.t 4), none⟩,
 ⟨some 27, .faddr 1 (.t 5), none⟩,
 ⟨some 28, .load none (.t 27), none⟩,
 ⟨some 29, .call (.k (.d (.func (.func 32) [] []))) [(.t 26), (.t 28)], none⟩,
 ⟨some 25, .mov (.t 29), none⟩,
 ⟨some 30, .extract 0 (.t 25), none⟩,
 ⟨some 31, .extract 1 (.t 25), none⟩,
 ⟨some 10, .alloc 1 [(.d .nilsl), (.d (.int .i64 0)), (.d .nilsl)], none⟩,
 ⟨none, .store (some 3) (.t 10) (.t 30), none⟩,
 ⟨some 11, .mov (.t 31), none⟩]
def x48 : List SOper := [
 ⟨some 32, .mov (.t 0), none⟩,
 ⟨some 33, .load (some 3) (.t 10), none⟩,
 ⟨some 34, .mov (.t 9), none⟩,
 ⟨some 35, .mov (.t 11), none⟩,
 ⟨some 36, .bin .eql (.t 34) (.t 35), none⟩,
 ⟨some 6, .mov (.t 32), none⟩,
 ⟨none, .store (some 3) (.t 7) (.t 33), none⟩,
 ⟨some 8, .mov (.t 36), none⟩]
def x49 : List SOper := [
 ⟨some 38, .bin .eql (.t 17) (.k (.d (.int .i64 1))), none⟩,
 ⟨some 37, .mov (.t 38), none⟩]
def x5a : List SOper := [
 ⟨some 39, .mov (.t 0), none⟩,
 ⟨some 40, .load (some 3) (.t 4), none⟩,
 ⟨some 41, .call (.k (.d (.func (.func 64) [] []))) [(.t 40)], none⟩,
 ⟨some 42, .mov (.t 0), none⟩,
 ⟨some 43, .call (.k (.d (.func (.func 65) [] []))) [(.t 42)], none⟩,
 ⟨some 44, .bin .eql (.t 43) (.k (.d (.int .i64 0))), none⟩,
 ⟨some 6, .mov (.t 39), none⟩,
 ⟨none, .store (some 3) (.t 7) (.t 41), none⟩,
 ⟨some 8, .mov (.t 44), none⟩]
def x5b : List SOper := [
 ⟨some 46, .bin .eql (.t 17) (.k (.d (.int .i64 2))), none⟩,
 ⟨some 45, .mov (.t 46), none⟩]
def x5c : List SOper := [
 ⟨some 47, .mov (.t 0), none⟩,
 ⟨some 48, .load (some 3) (.t 4), none⟩,
 ⟨some 49, .call (.k (.d (.func (.func 66) [] []))) [(.t 48)], none⟩,
 ⟨some 50, .mov (.t 0), none⟩,
 ⟨some 51, .call (.k (.d (.func (.func 67) [] []))) [(.t 50)], none⟩,
 ⟨some 52, .bin .eql (.t 51) (.k (.d (.int .i64 0))), none⟩,
 ⟨some 6, .mov (.t 47), none⟩,
 ⟨none, .store (some 3) (.t 7) (.t 49), none⟩,
 ⟨some 8, .mov (.t 52), none⟩]
def xg7 : List SOper := [
 ⟨some 54, .mov (.t 0), none⟩,
 ⟨some 55, .call (.k (.d (.func (.func 22) [] []))) [(.t 54)], none⟩,
 ⟨some 56, .field none 0 (.t 55), none⟩,
 ⟨some 57, .call (.k (.d (.func (.func 18) [] []))) [(.t 56)], none⟩,
 ⟨some 53, .mov (.t 57), none⟩,
 ⟨some 58, .extract 0 (.t 53), none⟩,
 ⟨some 59, .extract 1 (.t 53), none⟩,
 ⟨some 12, .mov (.t 58), none⟩,
 ⟨some 13, .mov (.t 59), none⟩]
def xg8 : List SOper := [
 ⟨some 61, .faddr 0 (.t 4), none⟩,
 ⟨some 62, .faddr 0 (.t 61), none⟩,
 ⟨some 63, .load none (.t 62), none⟩,
 ⟨some 64, .call (.k (.d (.func (.func 19) [] []))) [(.t 63)], none⟩,
 ⟨some 60, .mov (.t 64), none⟩,
 ⟨some 65, .extract 0 (.t 60), none⟩,
 ⟨some 66, .extract 1 (.t 60), none⟩,
 ⟨some 14, .alloc 1 [(.d .nilsl), (.d (.int .i64 0)), (.d .nilsl)], none⟩,
 ⟨none, .store (some 3) (.t 14) (.t 65), none⟩,
 ⟨some 15, .mov (.t 66), none⟩]
def xg9 : List SOper := [
 ⟨some 67, .mov (.t 12), none⟩,
 ⟨some 68, .load (some 3) (.t 14), none⟩,
 ⟨some 69, .mov (.t 13), none⟩,
 ⟨some 70, .mov (.t 15), none⟩,
 ⟨some 71, .bin .eql (.t 69) (.t 70), none⟩,
 ⟨some 6, .mov (.t 67), none⟩,
 ⟨none, .store (some 3) (.t 7) (.t 68), none⟩,
 ⟨some 8, .mov (.t 71), none⟩]
def s25 : SCode := (.seq (.region x43 3 []) (.seq (.seq (.region x44 0 []) (.block 0 (.seq (.region x45 0 []) (.cond (.t 18) (.seq (.region x46 1 []) (.seq (.region x47 1 []) (.seq (.region x48 0 []) .ret))) (.seq (.region x49 0 []) (.cond (.t 37) (.seq (.region x5a 0 []) .ret) (.seq (.region x5b 0 []) (.cond (.t 45) (.seq (.region x5c 0 []) .ret) .skip)))))))) (.seq (.region xg7 2 []) (.seq (.region xg8 1 []) (.seq (.region xg9 0 []) .ret)))))
theorem e25 : qg s25.eq_1 := qh s25.eq_1
theorem zfp : qa x43.eq_1 := qc
theorem zfq : qa x44.eq_1 := qc
theorem zfr : qa x45.eq_1 := qc
theorem zfs : qa x46.eq_1 := qc
theorem zft : qa x47.eq_1 := qc
theorem zfu : qa x48.eq_1 := qc
theorem zfv : qa x49.eq_1 := qc
theorem zfw : qa x5a.eq_1 := qc
theorem zfx : qa x5b.eq_1 := qc
theorem zfy : qa x5c.eq_1 := qc
theorem x5d : qa xg7.eq_1 := qc
theorem x5e : qa xg8.eq_1 := qc
theorem x5f : qa xg9.eq_1 := qc
attribute [go_sem] zfp zfq zfr zfs zft zfu zfv zfw zfx zfy x5d x5e x5f e25
theorem F25 : FnIs Tryz.prog 25 Tryz.f25 [] news s25 [.tmp 6, .cell 7 (some 3), .tmp 8] 72 := zc follows Tryz.func25
end
theorem qua (s : Sto) (hf : s.file.length ≤ 1000000000) : qo Tryz.prog 24 [.d (.ptr 0 0)] [stoO s 1, mapO s.m] (.d (.ptr 3 0)) [stoO s 1, mapO s.m, mapO s.m, stoO s 2] := by
 have hlog := qpp s hf
 have hmc := qpl (s.m.l.map yk) s.m.c
 simp only [stoO, mapO] at hlog
 refine F24.go ?_
 try (refine ev2 @stoO.eq_1 @mapO.eq_1 ?_; try exact True.intro)
 (repeat (with_reducible refine ob ?_)); refine no_ ?_
 try (refine ev ?_; try exact True.intro)
 refine zg7 [0, 1] F22 hlog ?_ (by try (refine ev ?_; try exact True.intro))
 try (refine ev1 @zt.eq_1 ?_; try exact True.intro)
 refine clO [1, 2] F51 hmc ?_
 try (refine ev1 @zt.eq_1 ?_; try exact True.intro)
theorem qub {m : Cont} (h : m.Good) : (qc5 (qy m)).length ≤ 401 * 70000 := by
 have hel : (qy m).length ≤ 400 := by rw [yn]; exact h.few
 have h0 := (qt1 (qy m) (qnk h) (qy m).length (Nat.le_refl _)).file
 have h1 : qc5 (qy m) = v7 (cAt (qy m) (qy m).length).1 (cAt (qy m) (qy m).length).2 := by rw [qc5, cAt, List.take_length]
 have h2 := qgo (cAt (qy m) (qy m).length).1 (cAt (qy m) (qy m).length).2
 have h3 := Nat.mul_le_mul_right 70000 hel
 rw [h1]; omega
theorem x5g (ops : List OpS) (e : En) : ops.map qk ++ [[.str e.1, .bool false, .sl 1 (qd e.2)]] = (ops ++ [cOp e]).map qk := by simp [cOp, qk]
def q2d (s : Sto) (l : List En) (i : Nat) (x : List UInt8 × List OpS) : St :=
 ⟨[(1, true, .d (.ptr 0 0)), (2, true, .d (.ptr 1 0)), (3, true, .d (.ptr 2 0)), (4, true, .d (.sl 3 (x.2.map qk))), (5, true, .d (.int .i64 (i : Nat)))],
  [.row [.d (.sl 1 (qd s.file)), .d (.int .i64 s.synced), .d (.sl 2 (l.map qn))], .row [.d .nilsl, .d (.int .i64 0), .d .nilsl], .row [.d (.sl 1 (qd x.1)), .d (.int .i64 0), .d (.sl 2 (l.map qn))]], [], 1⟩
set_option maxRecDepth 10000 in
theorem qqo (s : Sto) (hs : s.m.Good) : qo Tryz.prog 66 [.d (.agg (stR s))] [] (.d (.agg (stR (vz s)))) [] := by
 have hkv := qnk hs
 have hel : (qy s.m).length ≤ 400 := by rw [yn]; exact hs.few
 have htx := q1v (qy s.m) hkv
 have his := qt1 (qy s.m) hkv
 have hsy := qqm ⟨qc5 (qy s.m), 0, s.m⟩ (Nat.le_trans (qub hs) (by omega))
 have hfin : qc5 (qy s.m) = v7 (cAt (qy s.m) (qy s.m).length).1 (cAt (qy s.m) (qy s.m).length).2 := by rw [qc5, cAt, List.take_length]
 have hcs : stR (vz s) = v6 (qc5 (qy s.m)) ((qc5 (qy s.m)).length : Nat) (qy s.m) := rfl
 have hcs2 : stR (qfb ⟨qc5 (qy s.m), 0, s.m⟩) = v6 (qc5 (qy s.m)) ((qc5 (qy s.m)).length : Nat) (qy s.m) := rfl
 rw [hcs2] at hsy
 rw [hcs]
 simp only [stR, v6] at hsy ⊢
 generalize qy s.m = l at *
 refine F66.go ?_
 try (refine ev ?_; try exact True.intro)
 refine xc (fun i : { i : Nat // i ≤ l.length } => q2d s l i.val (cAt l i.val)) (fun i => l.length - i.val) ⟨0, Nat.zero_le _⟩ ?_ (fun i => ?_)
 ·try (refine ev7 @q2d.eq_1 @cAt.eq_1 @List.take_zero.{0} @List.foldl_nil.{0,0} @List.map_nil.{0,0} @Int.ofNat_zero @qu ?_; try exact True.intro)
 obtain ⟨i, hi⟩ := i
 have hai := his i hi
 obtain ⟨ts, hti⟩ := htx i hi
 have hch : Chain (cAt l i).1 (jh (cAt l i).1) := by rw [hti.file]; exact qlx _
 have hfl : (cAt l i).1.length ≤ 100000000 := by have := hai.file; omega
 have hop := hai.few
 try (refine ev1 @q2d.eq_1 ?_; try exact True.intro)
 refine zk _ (fun hc => ?_) (fun hc => ?_)
 ·have hil : i < l.length := by simpa using hc
  have hsu := qhw l hil
  have hon := zc5 (hkv _ (List.getElem_mem hil))
  generalize hx : cAt l i = x at *
  try (refine ev2 (xi qn l hil) @qn.eq_1 ?_; try exact True.intro)
  (repeat (with_reducible refine ob ?_))
  try (refine ev1 @x5g ?_; try exact True.intro)
  (repeat (with_reducible refine ob ?_)); first | refine cl F73 (jc (x.2 ++ [cOp l[i]]) (by simp; omega)) ?_ | refine clF F73 (jc (x.2 ++ [cOp l[i]]) (by simp; omega)) (fun _ => by (refine ev3 @qk.eq_1 @qn.eq_1 @qj.eq_1 ?_; try exact True.intro)) ?_
  try (refine ev ?_; try exact True.intro)
  refine zk _ (fun hd => ?_) (fun hd => ?_)
  ·have hd2 : (ql (x.2 ++ [cOp l[i]])).2 ≠ 0 := by simpa using hd
   have hne : (ql x.2).2 = 0 := by
    rcases hti.now with h | h
    ·rw [h] at hd2; exact (hd2 hon).elim
    ·exact h
   have hst : qcd x l[i] = (jz x.1 (ql x.2).1, [cOp l[i]]) := by rw [qcd, if_pos hd2, v7, if_pos hne]
   try (refine ev ?_; try exact True.intro)
   (repeat (with_reducible refine ob ?_)); first | refine cl F73 (jc x.2 (by omega)) ?_ | refine clF F73 (jc x.2 (by omega)) (fun _ => by (refine ev3 @qk.eq_1 @qn.eq_1 @qj.eq_1 ?_; try exact True.intro)) ?_
   try (refine ev ?_; try exact True.intro)
   (repeat (with_reducible refine ob ?_)); first | refine cl F74 (qal x.1 (ql x.2).1 0 hch hfl (x9 _)) ?_ | refine clF F74 (qal x.1 (ql x.2).1 0 hch hfl (x9 _)) (fun _ => by (refine ev3 @qk.eq_1 @qn.eq_1 @qj.eq_1 ?_; try exact True.intro)) ?_
   have w1 : IntKind.i64.wrap ((x.2.length : Int) + 1 - 1) = (x.2.length : Int) := by rw [xl (by unfold I64; omega)]; omega
   have e1 : ((x.2 ++ [cOp l[i]]).map qk).drop x.2.length = [cOp l[i]].map qk := by rw [← List.map_drop, List.drop_left]
   have e3 : x.2.length + 1 - x.2.length = 1 := by omega
   try (refine ev4 @zt.eq_1 @w1 @e1 @e3 ?_; try exact True.intro)
   refine ⟨by omega, ⟨i + 1, hil⟩, ?_, by dsimp only; omega⟩
   try (refine ev5 @q2d.eq_1 @hsu @hst @e3 (qt (show i < 9223372036854775807 by omega)) ?_; try exact True.intro)
  ·have hst : qcd x l[i] = (x.1, x.2 ++ [cOp l[i]]) := by rw [qcd, if_neg (by simpa using hd)]
   try (refine ev ?_; try exact True.intro)
   refine ⟨⟨i + 1, hil⟩, ?_, by dsimp only; omega⟩
   try (refine ev4 @q2d.eq_1 @hsu @hst (qt (show i < 9223372036854775807 by omega)) ?_; try exact True.intro)
 ·have hie : i = l.length := by
   have : l.length ≤ i := by simpa using hc
   omega
  subst hie
  generalize hx : cAt l l.length = x at *
  try (refine ev ?_; try exact True.intro)
  refine zk _ (fun hd => ?_) (fun hd => ?_)
  ·have hne : (ql x.2).2 = 0 := by
    rcases hti.now with h | h
    ·rw [h] at hd; simp at hd
    ·exact h
   rw [v7, if_pos hne] at hfin
   try (refine ev ?_; try exact True.intro)
   (repeat (with_reducible refine ob ?_)); first | refine cl F73 (jc x.2 (by omega)) ?_ | refine clF F73 (jc x.2 (by omega)) (fun _ => by (refine ev3 @qk.eq_1 @qn.eq_1 @qj.eq_1 ?_; try exact True.intro)) ?_
   try (refine ev ?_; try exact True.intro)
   (repeat (with_reducible refine ob ?_)); first | refine cl F74 (qal x.1 (ql x.2).1 0 hch hfl (x9 _)) ?_ | refine clF F74 (qal x.1 (ql x.2).1 0 hch hfl (x9 _)) (fun _ => by (refine ev3 @qk.eq_1 @qn.eq_1 @qj.eq_1 ?_; try exact True.intro)) ?_
   rw [← hfin]
   try (refine ev1 @zt.eq_1 ?_; try exact True.intro)
   (repeat (with_reducible refine ob ?_)); first | refine cl F64 (hsy) ?_ | refine clF F64 (hsy) (fun _ => by (refine ev3 @qk.eq_1 @qn.eq_1 @qj.eq_1 ?_; try exact True.intro)) ?_
   try (refine ev ?_; try exact True.intro)
  ·have h0 : x.2 = [] := by simpa using hd
   rw [h0, v7, if_neg (by simp [ql])] at hfin
   try (refine ev ?_; try exact True.intro)
   rw [← hfin]
   (repeat (with_reducible refine ob ?_)); first | refine cl F64 (hsy) ?_ | refine clF F64 (hsy) (fun _ => by (refine ev3 @qk.eq_1 @qn.eq_1 @qj.eq_1 ?_; try exact True.intro)) ?_
   try (refine ev ?_; try exact True.intro)
theorem doY (s : Sto) (x : StepS) (hs : s.m.Good) (hf : s.file.length ≤ 100000000) (hc : Chain s.file (jh s.file)) (hk : x.kind = 0) (hl : x.ops.length ≤ 100000) (hv : ∀ o ∈ x.ops, o.val.length ≤ 1000000) (hy : (xf s x.ops).2 = 0) :
  qo Tryz.prog 25 [.d (.ptr 0 0), .d (.agg (stR s)), .d (.agg (qj x))] [stoO s 1, mapO s.m] (.tup [.d (.ptr 0 0), .d (.agg (stR (xf s x.ops).1)), .d (.bool true)]) [stoO (xf s x.ops).1 5, mapO s.m, .none, .none, .none, mapO (xf s x.ops).1.m] := by
 have k1 := qgd (s := s) (l := x.ops) hl hf hy
 have k2 := qjz s x.ops hs hl hv hc hf
 rw [hy] at k2
 simp only [stoO, mapO] at k1
 simp only [stR, v6] at k2
 generalize (xf s x.ops).1 = s' at k1 k2 ⊢
 refine F25.goT ?_
 try (refine ev6 @stoO.eq_1 @mapO.eq_1 @stR.eq_1 @v6.eq_1 @qj.eq_1 @hk ?_; try exact True.intro)
 (repeat (with_reducible refine ob ?_)); refine qct ?_
 try (refine ev ?_; try exact True.intro)
 (repeat (with_reducible refine ob ?_)); first | refine cl F31 (q45 x.ops hl hv) ?_ | refine clF F31 (q45 x.ops hl hv) (fun _ => by (refine ev3 @qk.eq_1 @qn.eq_1 @qj.eq_1 ?_; try exact True.intro)) ?_
 try (refine ev ?_; try exact True.intro)
 refine clO [0, 1, 5] F14 k1 ?_
 try (refine ev ?_; try exact True.intro)
 (repeat (with_reducible refine ob ?_)); first | refine cl F32 (k2) ?_ | refine clF F32 (k2) (fun _ => by (refine ev3 @qk.eq_1 @qn.eq_1 @qj.eq_1 ?_; try exact True.intro)) ?_
 try (refine ev ?_; try exact True.intro)
theorem doN (s : Sto) (x : StepS) (hs : s.m.Good) (hf : s.file.length ≤ 100000000) (hc : Chain s.file (jh s.file)) (hk : x.kind = 0) (hl : x.ops.length ≤ 100000) (hv : ∀ o ∈ x.ops, o.val.length ≤ 1000000) (hy : (xf s x.ops).2 ≠ 0) :
  qo Tryz.prog 25 [.d (.ptr 0 0), .d (.agg (stR s)), .d (.agg (qj x))] [stoO s 1, mapO s.m] (.tup [.d (.ptr 0 0), .d (.agg (stR s)), .d (.bool true)]) [stoO s 1, mapO s.m] := by
 have k1 := qzb (s := s) (l := x.ops) hl hf hy
 have k2 := qjz s x.ops hs hl hv hc hf
 have hs1 : (xf s x.ops).1 = s := by
  rcases qb5 s x.ops with ⟨_, c2⟩ | ⟨c1, _⟩
  ·exact c2
  ·exact (hy c1).elim
 rw [hs1] at k2
 simp only [stoO, mapO] at k1
 simp only [stR, v6] at k2
 generalize (xf s x.ops).2 = e at k1 k2
 refine F25.goT ?_
 try (refine ev6 @stoO.eq_1 @mapO.eq_1 @stR.eq_1 @v6.eq_1 @qj.eq_1 @hk ?_; try exact True.intro)
 (repeat (with_reducible refine ob ?_)); refine qct ?_
 try (refine ev ?_; try exact True.intro)
 (repeat (with_reducible refine ob ?_)); first | refine cl F31 (q45 x.ops hl hv) ?_ | refine clF F31 (q45 x.ops hl hv) (fun _ => by (refine ev3 @qk.eq_1 @qn.eq_1 @qj.eq_1 ?_; try exact True.intro)) ?_
 try (refine ev ?_; try exact True.intro)
 refine clO [0, 1, 5] F14 k1 ?_
 try (refine ev ?_; try exact True.intro)
 (repeat (with_reducible refine ob ?_)); first | refine cl F32 (k2) ?_ | refine clF F32 (k2) (fun _ => by (refine ev3 @qk.eq_1 @qn.eq_1 @qj.eq_1 ?_; try exact True.intro)) ?_
 try (refine ev ?_; try exact True.intro)
theorem doS (s : Sto) (x : StepS) (hf : s.file.length ≤ 100000000) (hk : x.kind = 1) :
  qo Tryz.prog 25 [.d (.ptr 0 0), .d (.agg (stR s)), .d (.agg (qj x))] [stoO s 1, mapO s.m] (.tup [.d (.ptr 0 0), .d (.agg (stR (qfb s))), .d (.bool true)]) [stoO (qfb s) 1, mapO s.m] := by
 have k1 := xiq s (by omega)
 have k2 := qqm s (by omega)
 have e1 : (qfb s).m = s.m := rfl
 simp only [stoO, mapO] at k1
 simp only [stR, v6, e1] at k2
 refine F25.goT ?_
 try (refine ev7 @stoO.eq_1 @mapO.eq_1 @stR.eq_1 @v6.eq_1 @qj.eq_1 @hk @e1 ?_; try exact True.intro)
 (repeat (with_reducible refine ob ?_)); refine no_ ?_
 try (refine ev ?_; try exact True.intro)
 (repeat (with_reducible refine ob ?_)); refine qct ?_
 try (refine ev ?_; try exact True.intro)
 (repeat (with_reducible refine ob ?_)); first | refine cl F64 (k2) ?_ | refine clF F64 (k2) (fun _ => by (refine ev3 @qk.eq_1 @qn.eq_1 @qj.eq_1 ?_; try exact True.intro)) ?_
 try (refine ev ?_; try exact True.intro)
 refine clO [0, 1] F65 k1 ?_
 try (refine ev ?_; try exact True.intro)
theorem doC (s : Sto) (x : StepS) (hs : s.m.Good) (hk : x.kind = 2) :
  qo Tryz.prog 25 [.d (.ptr 0 0), .d (.agg (stR s)), .d (.agg (qj x))] [stoO s 1, mapO s.m] (.tup [.d (.ptr 0 0), .d (.agg (stR (vz s))), .d (.bool true)]) [stoO (vz s) 1, mapO s.m] := by
 have k1 := qwk s hs
 have k2 := qqo s hs
 have e1 : (vz s).m = s.m := rfl
 simp only [stoO, mapO] at k1
 simp only [stR, v6, e1] at k2
 refine F25.goT ?_
 try (refine ev7 @stoO.eq_1 @mapO.eq_1 @stR.eq_1 @v6.eq_1 @qj.eq_1 @hk @e1 ?_; try exact True.intro)
 (repeat (with_reducible refine ob ?_)); refine no_ ?_
 try (refine ev ?_; try exact True.intro)
 (repeat (with_reducible refine ob ?_)); refine no_ ?_
 try (refine ev ?_; try exact True.intro)
 (repeat (with_reducible refine ob ?_)); refine qct ?_
 try (refine ev ?_; try exact True.intro)
 (repeat (with_reducible refine ob ?_)); first | refine cl F66 (k2) ?_ | refine clF F66 (k2) (fun _ => by (refine ev3 @qk.eq_1 @qn.eq_1 @qj.eq_1 ?_; try exact True.intro)) ?_
 try (refine ev ?_; try exact True.intro)
 refine clO [0, 1] zg1 k1 ?_
 try (refine ev ?_; try exact True.intro)
theorem doO (s s' : Sto) (x : StepS) (hf : s.file.length ≤ 100000000) (h0 : x.kind ≠ 0) (h1 : x.kind ≠ 1) (h2 : x.kind ≠ 2) (ho : qbp s.file = some s') (hr : qa5 [] (jd s.file) = some (qy s'.m)) :
  qo Tryz.prog 25 [.d (.ptr 0 0), .d (.agg (stR s)), .d (.agg (qj x))] [stoO s 1, mapO s.m] (.tup [.d (.ptr 6 0), .d (.agg (stR s')), .d (.bool true)]) [stoO s 1, mapO s.m, .none, .none, .none, mapO s'.m, stoO s' 5] := by
 obtain ⟨g1, g2, g3⟩ := qgm ho
 have k1 := qtz (by omega) ho
 have k2 := qpp s (by omega)
 have k3 := qjx s.file (by omega)
 have hV : qbq s.file = v6 s'.file s'.synced (qy s'.m) := by rw [qbq, hr, g2, g3]
 have hE : qbr s.file = 0 := by rw [qbr, hr]
 rw [hV, hE] at k3
 simp only [stoO, mapO] at k1 k2
 simp only [v6] at k3
 have d0 : (x.kind == 0) = false := by simpa using h0
 have d1 : (x.kind == 1) = false := by simpa using h1
 have d2 : (x.kind == 2) = false := by simpa using h2
 refine F25.goT ?_
 try (refine ev6 @stoO.eq_1 @mapO.eq_1 @stR.eq_1 @v6.eq_1 @qj.eq_1 @d0 ?_; try exact True.intro)
 (repeat (with_reducible refine ob ?_)); refine no_ ?_
 try (refine ev1 @d1 ?_; try exact True.intro)
 (repeat (with_reducible refine ob ?_)); refine no_ ?_
 try (refine ev1 @d2 ?_; try exact True.intro)
 (repeat (with_reducible refine ob ?_)); refine no_ ?_
 try (refine ev ?_; try exact True.intro)
 refine clO [0, 1] F22 k2 ?_
 try (refine ev1 @zt.eq_1 ?_; try exact True.intro)
 refine clO [5, 6] F18 k1 ?_
 try (refine ev ?_; try exact True.intro)
 (repeat (with_reducible refine ob ?_)); first | refine cl F19 (k3) ?_ | refine clF F19 (k3) (fun _ => by (refine ev3 @qk.eq_1 @qn.eq_1 @qj.eq_1 ?_; try exact True.intro)) ?_
 try (refine ev ?_; try exact True.intro)
end Go.Proofs.YtinnaedmdoengaaGreat
namespace Go.Proofs.YtinnaedmdoengaaGreat
open Go.Abs
set_option linter.unusedSimpArgs false
set_option linter.unusedVariables false
noncomputable section
set_option maxRecDepth 100000
def x5h : List SOper := [
 ⟨some 4, .box 1 (.t 1), none⟩,
 ⟨some 6, .mov (.k (.d (.bool false))), none⟩]
def x5i : List SOper := [
 ⟨some 22, .call (.k (.d (.func (.func 17) [] []))) [], none⟩,
 ⟨some 23, .not (.t 22), none⟩]
def x5j : List SOper := [
 ⟨some 6, .mov (.k (.d (.bool false))), none⟩]
def x5k : List SOper := [
 ⟨some 24, .iaddrA 2 1 (.t 4) (.k (.d (.int .i64 0))), none⟩,
 ⟨some 25, .load none (.t 24), none⟩,
 ⟨some 26, .iaddrA 2 1 (.t 4) (.k (.d (.int .i64 1))), none⟩,
 ⟨some 27, .load none (.t 26), none⟩,
 ⟨some 7, .mov (.t 25), none⟩,
 ⟨some 8, .mov (.t 27), none⟩]
def x5l : List SOper := [
 ⟨some 28, .mov (.t 0), none⟩,
 ⟨some 29, .call (.k (.d (.func (.func 23) [] []))) [(.t 28)], none⟩,
 ⟨some 30, .not (.t 29), none⟩,
 ⟨some 31, .mov (.t 30), none⟩,
 ⟨some 32, .mov (.t 7), some (31, false)⟩,
 ⟨some 33, .lenS (.t 32), some (31, false)⟩,
 ⟨some 34, .bin .gtr (.t 33) (.k (.d (.int .i64 100))), some (31, false)⟩,
 ⟨some 35, .pick (.t 31) (.k (.d (.bool true))) (.t 34), none⟩,
 ⟨some 36, .mov (.t 35), none⟩,
 ⟨some 37, .mov (.t 8), some (36, false)⟩,
 ⟨some 38, .lenS (.t 37), some (36, false)⟩,
 ⟨some 39, .bin .gtr (.t 38) (.k (.d (.int .i64 100))), some (36, false)⟩,
 ⟨some 40, .pick (.t 36) (.k (.d (.bool true))) (.t 39), none⟩]
def x5m : List SOper := [
 ⟨some 6, .mov (.k (.d (.bool true))), none⟩]
def x5n : List SOper := [
 ⟨some 41, .call (.k (.d (.func (.func 10) [] []))) [], none⟩,
 ⟨some 42, .build [.nilsl, (.int .i64 0), .nilsl] [], none⟩,
 ⟨some 10, .alloc 1 [(.d .nilsl), (.d (.int .i64 0)), (.d .nilsl)], none⟩,
 ⟨some 9, .mov (.t 41), none⟩,
 ⟨none, .store (some 3) (.t 10) (.t 42), none⟩]
def x5o : List SOper := [
 ⟨some 43, .mov (.t 9), none⟩,
 ⟨some 44, .call (.k (.d (.func (.func 24) [] []))) [(.t 43)], none⟩,
 ⟨some 45, .load (some 3) (.t 10), none⟩,
 ⟨some 12, .alloc 1 [(.d .nilsl), (.d (.int .i64 0)), (.d .nilsl)], none⟩,
 ⟨some 11, .mov (.t 44), none⟩,
 ⟨none, .store (some 3) (.t 12) (.t 45), none⟩]
def x5p : List SOper := [
 ⟨some 13, .mov (.k (.d (.int .i64 0))), none⟩]
def x5q : List SOper := [
 ⟨some 46, .mov (.t 13), none⟩,
 ⟨some 47, .mov (.t 0), none⟩,
 ⟨some 48, .len (.t 47), none⟩,
 ⟨some 49, .bin .lss (.t 46) (.t 48), none⟩]
def xha : List SOper := [
 ⟨some 53, .mov (.t 9), none⟩,
 ⟨some 54, .load (some 3) (.t 10), none⟩,
 ⟨some 55, .mov (.t 0), none⟩,
 ⟨some 56, .mov (.t 13), none⟩,
 ⟨some 57, .iaddr 2 (.t 55) (.t 56), none⟩,
 ⟨some 58, .load (some 2) (.t 57), none⟩,
 ⟨some 59, .call (.k (.d (.func (.func 25) [] []))) [(.t 53), (.t 54), (.t 58)], none⟩,
 ⟨some 52, .mov (.t 59), none⟩,
 ⟨some 60, .extract 0 (.t 52), none⟩,
 ⟨some 61, .extract 1 (.t 52), none⟩,
 ⟨some 62, .extract 2 (.t 52), none⟩,
 ⟨some 15, .alloc 1 [(.d .nilsl), (.d (.int .i64 0)), (.d .nilsl)], none⟩,
 ⟨some 14, .mov (.t 60), none⟩,
 ⟨none, .store (some 3) (.t 15) (.t 61), none⟩,
 ⟨some 16, .mov (.t 62), none⟩]
def xhb : List SOper := [
 ⟨some 63, .mov (.t 14), none⟩,
 ⟨some 64, .load (some 3) (.t 15), none⟩,
 ⟨some 9, .mov (.t 63), none⟩,
 ⟨none, .store (some 3) (.t 10) (.t 64), none⟩]
def xhc : List SOper := [
 ⟨some 65, .mov (.t 9), none⟩,
 ⟨some 66, .call (.k (.d (.func (.func 22) [] []))) [(.t 65)], none⟩,
 ⟨some 17, .alloc 1 [(.d .nilsl), (.d (.int .i64 0))], none⟩,
 ⟨none, .store (some 2) (.t 17) (.t 66), none⟩]
def xhd : List SOper := [
 ⟨some 68, .mov (.t 9), none⟩,
 ⟨some 69, .mov (.t 7), none⟩,
 ⟨some 70, .call (.k (.d (.func (.func 26) [] []))) [(.t 68), (.t 69)], none⟩,
 ⟨some 67, .mov (.t 70), none⟩,
 ⟨some 71, .extract 0 (.t 67), none⟩,
 ⟨some 72, .extract 1 (.t 67), none⟩,
 ⟨some 18, .mov (.t 71), none⟩,
 ⟨some 19, .mov (.t 72), none⟩]
def xhe : List SOper := [
 ⟨some 74, .load (some 3) (.t 10), none⟩,
 ⟨some 75, .mov (.t 7), none⟩,
 ⟨some 76, .call (.k (.d (.func (.func 27) [] []))) [(.t 74), (.t 75)], none⟩,
 ⟨some 73, .mov (.t 76), none⟩,
 ⟨some 77, .extract 0 (.t 73), none⟩,
 ⟨some 78, .extract 1 (.t 73), none⟩,
 ⟨some 20, .mov (.t 77), none⟩,
 ⟨some 21, .mov (.t 78), none⟩]
def xhf : List SOper := [
 ⟨some 79, .mov (.t 16), none⟩,
 ⟨some 80, .not (.t 79), none⟩,
 ⟨some 81, .mov (.t 80), none⟩,
 ⟨some 82, .faddr 0 (.t 17), some (81, false)⟩,
 ⟨some 83, .load none (.t 82), some (81, false)⟩,
 ⟨some 84, .b2s (.t 83), some (81, false)⟩,
 ⟨some 85, .faddr 0 (.t 10), some (81, false)⟩,
 ⟨some 86, .faddr 0 (.t 85), some (81, false)⟩,
 ⟨some 87, .load none (.t 86), some (81, false)⟩,
 ⟨some 88, .b2s (.t 87), some (81, false)⟩,
 ⟨some 89, .bin .neq (.t 84) (.t 88), some (81, false)⟩,
 ⟨some 90, .pick (.t 81) (.k (.d (.bool true))) (.t 89), none⟩,
 ⟨some 91, .mov (.t 90), none⟩,
 ⟨some 92, .faddr 1 (.t 17), some (91, false)⟩,
 ⟨some 93, .load none (.t 92), some (91, false)⟩,
 ⟨some 94, .faddr 0 (.t 10), some (91, false)⟩,
 ⟨some 95, .faddr 1 (.t 94), some (91, false)⟩,
 ⟨some 96, .load none (.t 95), some (91, false)⟩,
 ⟨some 97, .bin .neq (.t 93) (.t 96), some (91, false)⟩,
 ⟨some 98, .pick (.t 91) (.k (.d (.bool true))) (.t 97), none⟩,
 ⟨some 99, .mov (.t 98), none⟩,
 ⟨some 100, .mov (.t 18), some (99, false)⟩,
 ⟨some 101, .b2s (.t 100), some (99, false)⟩,
 ⟨some 102, .mov (.t 20), some (99, false)⟩,
 ⟨some 103, .b2s (.t 102), some (99, false)⟩,
 ⟨some 104, .bin .neq (.t 101) (.t 103), some (99, false)⟩,
 ⟨some 105, .pick (.t 99) (.k (.d (.bool true))) (.t 104), none⟩,
 ⟨some 106, .mov (.t 105), none⟩,
 ⟨some 107, .mov (.t 19), some (106, false)⟩,
 ⟨some 108, .mov (.t 21), some (106, false)⟩,
 ⟨some 109, .eqb true (.t 107) (.t 108), some (106, false)⟩,
 ⟨some 110, .pick (.t 106) (.k (.d (.bool true))) (.t 109), none⟩,
 ⟨some 111, .mov (.t 110), none⟩,
 ⟨some 112, .mov (.t 9), some (111, false)⟩,
 ⟨some 113, .mov (.t 8), some (111, false)⟩,
 ⟨some 114, .call (.k (.d (.func (.func 21) [] []))) [(.t 112), (.t 113)], some (111, false)⟩,
 ⟨some 115, .load (some 3) (.t 10), some (111, false)⟩,
 ⟨some 116, .mov (.t 8), some (111, false)⟩,
 ⟨some 117, .call (.k (.d (.func (.func 28) [] []))) [(.t 115), (.t 116)], some (111, false)⟩,
 ⟨some 118, .call (.k (.d (.func (.func 20) [] []))) [(.t 114), (.t 117)], some (111, false)⟩,
 ⟨some 119, .not (.t 118), some (111, false)⟩,
 ⟨some 120, .pick (.t 111) (.k (.d (.bool true))) (.t 119), none⟩]
def xhg : List SOper := [
 ⟨some 6, .mov (.k (.d (.bool false))), none⟩]
def xhh : List SOper := [
 ⟨some 121, .mov (.t 13), none⟩,
 ⟨some 122, .mov (.t 2), none⟩,
 ⟨some 123, .conv .i64 (.t 122), none⟩,
 ⟨some 124, .bin .rem (.t 123) (.k (.d (.int .i64 15))), none⟩,
 ⟨some 125, .bin .eql (.t 121) (.t 124), none⟩]
def xhi : List SOper := [
 ⟨some 126, .mov (.t 9), none⟩,
 ⟨some 127, .call (.k (.d (.func (.func 24) [] []))) [(.t 126)], none⟩,
 ⟨some 128, .load (some 3) (.t 10), none⟩,
 ⟨some 11, .mov (.t 127), none⟩,
 ⟨none, .store (some 3) (.t 12) (.t 128), none⟩]
def xhj : List SOper := [
 ⟨some 50, .mov (.t 13), none⟩,
 ⟨some 51, .bin .add (.t 50) (.k (.d (.int .i64 1))), none⟩,
 ⟨some 13, .mov (.t 51), none⟩]
def q2e : SCode := (.seq (.seq (.region x5q 0 []) (.cond (.t 49) .skip (.exit 0))) (.seq (.block 1 (.seq (.region xha 6 [(1, 11), (5, 11), (6, 11)]) (.seq (.pause (.region xhb 0 [])) (.seq (.region xhc 1 []) (.seq (.region xhd 0 []) (.seq (.region xhe 0 []) (.seq (.seq (.region xhf 0 [(35, 36)]) (.cond (.t 120) (.seq (.region xhg 0 []) .ret) .skip)) (.seq (.region xhh 0 []) (.cond (.t 125) (.region xhi 2 [(1, 2)]) .skip))))))))) (.pause (.region xhj 0 []))))
theorem x5r : qg q2e.eq_1 := qh q2e.eq_1
def xhk : List SOper := [
 ⟨some 129, .mov (.t 11), none⟩,
 ⟨some 130, .call (.k (.d (.func (.func 21) [] []))) [(.t 129), (.k (.d (.str [])))], none⟩,
 ⟨some 131, .faddr 2 (.t 12), none⟩,
 ⟨some 132, .load none (.t 131), none⟩,
 ⟨some 133, .call (.k (.d (.func (.func 20) [] []))) [(.t 130), (.t 132)], none⟩,
 ⟨some 134, .mov (.t 133), none⟩,
 ⟨some 135, .mov (.t 11), some (134, true)⟩,
 ⟨some 136, .call (.k (.d (.func (.func 22) [] []))) [(.t 135)], some (134, true)⟩,
 ⟨some 137, .field none 0 (.t 136), some (134, true)⟩,
 ⟨some 138, .b2s (.t 137), some (134, true)⟩,
 ⟨some 139, .faddr 0 (.t 12), some (134, true)⟩,
 ⟨some 140, .faddr 0 (.t 139), some (134, true)⟩,
 ⟨some 141, .load none (.t 140), some (134, true)⟩,
 ⟨some 142, .b2s (.t 141), some (134, true)⟩,
 ⟨some 143, .bin .eql (.t 138) (.t 142), some (134, true)⟩,
 ⟨some 144, .pick (.t 134) (.t 143) (.k (.d (.bool false))), none⟩,
 ⟨some 6, .mov (.t 144), none⟩]
def s5m : SCode := (.seq (.region x5h 1 []) (.seq (.seq (.region x5i 0 []) (.cond (.t 23) (.seq (.region x5j 0 []) .ret) .skip)) (.seq (.region x5k 0 []) (.seq (.seq (.region x5l 0 []) (.cond (.t 40) (.seq (.region x5m 0 []) .ret) .skip)) (.seq (.region x5n 3 []) (.seq (.region x5o 3 [(1, 2), (1, 3), (2, 3)]) (.seq (.seq (.pause (.region x5p 0 [])) (.block 0 (.loop q2e))) (.seq (.region xhk 0 [(1, 3), (7, 12), (7, 13)]) .ret))))))))
theorem e5m : qg s5m.eq_1 := qh s5m.eq_1
theorem zfz : qa x5h.eq_1 := qc
theorem zf0 : qa x5i.eq_1 := qc
theorem zf1 : qa x5j.eq_1 := qc
theorem zf2 : qa x5k.eq_1 := qc
theorem zf3 : qa x5l.eq_1 := qc
theorem zf4 : qa x5m.eq_1 := qc
theorem zf5 : qa x5n.eq_1 := qc
theorem zf6 : qa x5o.eq_1 := qc
theorem zf7 : qa x5p.eq_1 := qc
theorem zf8 : qa x5q.eq_1 := qc
theorem x5s : qa xha.eq_1 := qc
theorem x5t : qa xhb.eq_1 := qc
theorem x5u : qa xhc.eq_1 := qc
theorem x5v : qa xhd.eq_1 := qc
theorem x5w : qa xhe.eq_1 := qc
theorem x5x : qa xhf.eq_1 := qc
theorem x5y : qa xhg.eq_1 := qc
theorem x5z : qa xhh.eq_1 := qc
theorem x50 : qa xhi.eq_1 := qc
theorem x51 : qa xhj.eq_1 := qc
theorem x52 : qa xhk.eq_1 := qc
attribute [go_sem] zfz zf0 zf1 zf2 zf3 zf4 zf5 zf6 zf7 zf8 x5s x5t x5u x5v x5w x5x x5y x5z x50 x51 x5r x52 e5m
theorem F5m : FnIs Tryz.prog 5 Tryz.f5 [] news s5m [.tmp 6] 145 := zc follows Tryz.func5
end
def Sscr (l : List StepS) (a b : List UInt8) (n : Nat) (i : Nat) (s c : Sto) : St :=
 ⟨[(0, true, .d (.sl 2 (l.map qj))), (2, true, .d (.int .u8 (n : Nat))), (6, true, .d (.bool false)), (7, true, .d (.str a)), (8, true, .d (.str b)), (9, true, .d (.ptr 1 0)), (10, true, .d (.ptr 2 0)), (11, true, .d (.ptr 4 0)), (12, true, .d (.ptr 5 0)), (13, true, .d (.int .i64 (i : Nat)))],
  [.map (s.m.l.map yk) s.m.c, .row [.d (.sl 1 (qd s.file)), .d (.int .i64 s.synced), .d (.map 0)], .row [.d (.sl 1 (qd s.file)), .d (.int .i64 s.synced), .d (.sl 2 ((qy s.m).map qn))],
  .map (c.m.l.map yk) c.m.c, .row [.d (.sl 1 (qd c.file)), .d (.int .i64 c.synced), .d (.map 3)], .row [.d (.sl 1 (qd c.file)), .d (.int .i64 c.synced), .d (.sl 2 ((qy c.m).map qn))]], [], 1⟩
def Smid (l : List StepS) (a b : List UInt8) (n : Nat) (i : Nat) (s0 s c : Sto) : St :=
 ⟨[(0, true, .d (.sl 2 (l.map qj))), (2, true, .d (.int .u8 (n : Nat))), (6, true, .d (.bool false)), (7, true, .d (.str a)), (8, true, .d (.str b)), (10, true, .d (.ptr 2 0)), (11, true, .d (.ptr 4 0)), (12, true, .d (.ptr 5 0)), (13, true, .d (.int .i64 (i : Nat))), (14, true, .d (.ptr 1 0)), (15, true, .d (.ptr 6 0)), (16, true, .d (.bool true))],
  [.map (s.m.l.map yk) s.m.c, .row [.d (.sl 1 (qd s.file)), .d (.int .i64 s.synced), .d (.map 0)], .row [.d (.sl 1 (qd s0.file)), .d (.int .i64 s0.synced), .d (.sl 2 ((qy s0.m).map qn))],
  .map (c.m.l.map yk) c.m.c, .row [.d (.sl 1 (qd c.file)), .d (.int .i64 c.synced), .d (.map 3)], .row [.d (.sl 1 (qd c.file)), .d (.int .i64 c.synced), .d (.sl 2 ((qy c.m).map qn))],
  .row [.d (.sl 1 (qd s.file)), .d (.int .i64 s.synced), .d (.sl 2 ((qy s.m).map qn))]], [], 1⟩
def wn (s : Sto) : AObj := .row [.d (.sl 1 (qd s.file)), .d (.int .i64 s.synced), .d (.sl 2 ((qy s.m).map qn))]
theorem via {P : Program} {k0 : Nat} {a : SCode} {Q : SExit → St → Prop} {α : Type} (p : α → Prop) (S : α → St) {G : Prop} (hG : (∀ x, p x → AWp P k0 a Q (S x)) → G) (h : ∀ x, p x → AWp P k0 a Q (S x)) : G := hG h
def Scr (n : Nat) (s : Sto) : Prop := s.Ok n ∧ ∃ ts, Bk s ts
set_option maxRecDepth 10000 in
set_option maxHeartbeats 2000000 in
theorem qkn (l : List StepS) (a b : List UInt8) (n : Nat) (hn : n < 256) (hl : l.length ≤ maxLen) (hx : ∀ x ∈ l, x.ops.length ≤ maxLen) :
  qo Tryz.prog 5 [.d (.sl 2 (l.map qj)), .d (.agg [.str a, .str b]), .d (.int .u8 (n : Nat))] [] (.d (.bool true)) [] := by
 refine F5m.go ?_
 try (refine ev ?_; try exact True.intro)
 (repeat (with_reducible refine ob ?_)); first | refine cl F17 (qdk) ?_ | refine clF F17 (qdk) (fun _ => by (refine ev3 @qk.eq_1 @qn.eq_1 @qj.eq_1 ?_; try exact True.intro)) ?_
 try (refine ev ?_; try exact True.intro)
 (repeat (with_reducible refine ob ?_)); refine no_ ?_
 try (refine ev ?_; try exact True.intro)
 (repeat (with_reducible refine ob ?_)); first | refine cl F23 (qzn l hl hx) ?_ | refine clF F23 (qzn l hl hx) (fun _ => by (refine ev3 @qk.eq_1 @qn.eq_1 @qj.eq_1 ?_; try exact True.intro)) ?_
 try (refine ev ?_; try exact True.intro)
 refine ⟨by simp, fun h => by rw [h]; rfl, ?_⟩
 (repeat (with_reducible refine ob ?_)); refine zk _ (fun h => ?_) (fun h => ?_)
 ·try (refine ev ?_; try exact True.intro)
 simp only [Bool.or_eq_false_iff, Bool.not_eq_false', decide_eq_false_iff_not] at h
 obtain ⟨⟨hfw, ha⟩, hb⟩ := h
 obtain ⟨h15, hfew⟩ := qzo hfw
 have k0 := qse
 have kc := qua newS (by decide)
 simp only [stoO, mapO] at k0 kc
 try (refine ev ?_; try exact True.intro)
 refine clO [1, 2] F10 k0 ?_
 try (refine ev ?_; try exact True.intro)
 refine clO [2, 1, 4, 5] F24 kc ?_
 try (refine ev ?_; try exact True.intro)
 refine qi3 [6, 0, 1, 2, 3, 4, 5] [mapO newS.m, stoO newS 0, .row [.d .nilsl, .d (.int .i64 0), .d .nilsl], mapO newS.m, stoO newS 3, .row [.d .nilsl, .d (.int .i64 0), .d .nilsl], .row [.d (.str a), .d (.str b)]] ?_ (by try (refine ev2 @mapO.eq_1 @stoO.eq_1 ?_; try exact True.intro)) (hp := rfl)
 refine pu ?_
 try (refine ev2 @mapO.eq_1 @stoO.eq_1 ?_; try exact True.intro)
 refine xc (fun x : { x : Nat × Sto × Sto // x.1 ≤ l.length ∧ Scr (401 + x.1) x.2.1 ∧ Scr 1000 x.2.2 } => Sscr l a b n x.val.1 x.val.2.1 x.val.2.2) (fun x => l.length - x.val.1) ⟨(0, newS, newS), Nat.zero_le _, ⟨qm0 _, [], q1k⟩, ⟨qm0 _, [], q1k⟩⟩ ?_ (fun x => ?_)
 ·have e1 : qy newS.m = [] := yu
  have e2 : newS.file = [] := rfl
  have e3 : newS.synced = 0 := rfl
  try (refine ev7 @Sscr.eq_1 @e1 @e2 @e3 @Int.ofNat_zero @List.map_nil.{0,0} @qu ?_; try exact True.intro)
 obtain ⟨⟨i, s, c⟩, hi, hs, hc⟩ := x
 simp only at hi hs hc
 obtain ⟨hok, ts, hbk⟩ := hs
 try (refine ev1 @Sscr.eq_1 ?_; try exact True.intro)
 refine zk _ (fun hd => ?_) (fun hd => ?_)
 ·have hil : i < l.length := by simpa using hd
  obtain ⟨q1, q2⟩ := q47 (hfew _ (List.getElem_mem hil))
  have hv : ∀ o ∈ l[i].ops, o.val.length ≤ 1000000 := fun o ho => by have := (q2 o ho).2; omega
  have hfl := hok.file
  have hfb : s.file.length ≤ 100000000 := by omega
  have hch : Chain s.file (jh s.file) := by rw [hbk.file]; exact qlx _
  apply via (P := Tryz.prog) (k0 := 0) (fun s' => Scr (401 + (i + 1)) s') (fun s' => Smid l a b n i s s' c)
  case hG =>
   intro K
   try (refine ev2 (xi qj l hil) @qj.eq_1 ?_; try exact True.intro)
   (repeat (with_reducible refine ob ?_))
   by_cases h0 : l[i].kind = 0
   ·by_cases hy : (xf s l[i].ops).2 = 0
    ·have k1 := doY s l[i] hok.good hfb hch h0 (by omega) hv hy
     have hs2 : Scr (401 + (i + 1)) (xf s l[i].ops).1 := ⟨qeb hok _, _, q1l hbk hok.good hy⟩
     generalize (xf s l[i].ops).1 = s' at k1 hs2
     simp only [stoO, mapO, stR, v6, qj] at k1
     refine clO [1, 0, 6, 7, 8, 9] F25 k1 ?_
     try (refine ev ?_; try exact True.intro)
     refine qi3 [7, 1, 2, 3, 4, 5, 8, 9, 10, 0, 11, 6] [mapO s'.m, stoO s' 0, wn s, mapO c.m, stoO c 3, wn c, wn s', mapO s.m, .none, .none, .none, .none] ?_ (by try (refine ev3 @mapO.eq_1 @stoO.eq_1 @wn.eq_1 ?_; try exact True.intro)) (hp := rfl)
     refine qi4 (st1 := Smid l a b n i s s' c) ?_ (K _ hs2)
     try (refine ev4 @Smid.eq_1 @mapO.eq_1 @stoO.eq_1 @wn.eq_1 ?_; try exact True.intro)
    ·have k1 := doN s l[i] hok.good hfb hch h0 (by omega) hv hy
     have hs2 : Scr (401 + (i + 1)) s := ⟨hok.mono (Nat.le_succ _), ts, hbk⟩
     simp only [stoO, mapO, stR, v6, qj] at k1
     refine clO [1, 0] F25 k1 ?_
     try (refine ev ?_; try exact True.intro)
     refine qi3 [0, 1, 2, 3, 4, 5, 11, 7, 8, 9, 10, 6] [mapO s.m, stoO s 0, wn s, mapO c.m, stoO c 3, wn c, wn s, .none, .none, .none, .none, .none] ?_ (by try (refine ev3 @mapO.eq_1 @stoO.eq_1 @wn.eq_1 ?_; try exact True.intro)) (hp := rfl)
     refine qi4 (st1 := Smid l a b n i s s c) ?_ (K _ hs2)
     try (refine ev4 @Smid.eq_1 @mapO.eq_1 @stoO.eq_1 @wn.eq_1 ?_; try exact True.intro)
   ·by_cases h1 : l[i].kind = 1
    ·have k1 := doS s l[i] hfb h1
     have hs2 : Scr (401 + (i + 1)) (qfb s) := ⟨⟨hok.good, Nat.le_trans hok.file (Nat.mul_le_mul_right 70000 (Nat.le_succ _))⟩, ts, xj8 hbk⟩
     have e1 : (qfb s).m = s.m := rfl
     simp only [stoO, mapO, stR, v6, qj] at k1
     refine clO [1, 0] F25 k1 ?_
     try (refine ev ?_; try exact True.intro)
     refine qi3 [0, 1, 2, 3, 4, 5, 11, 7, 8, 9, 10, 6] [mapO s.m, stoO (qfb s) 0, wn s, mapO c.m, stoO c 3, wn c, wn (qfb s), .none, .none, .none, .none, .none] ?_ (by try (refine ev3 @mapO.eq_1 @stoO.eq_1 @wn.eq_1 ?_; try exact True.intro)) (hp := rfl)
     refine qi4 (st1 := Smid l a b n i s (qfb s) c) ?_ (K _ hs2)
     try (refine ev5 @Smid.eq_1 @mapO.eq_1 @stoO.eq_1 @wn.eq_1 @e1 ?_; try exact True.intro)
    ·by_cases h2 : l[i].kind = 2
     ·have k1 := doC s l[i] hok.good h2
      obtain ⟨cs, hcb, _⟩ := qwl hok.good
      have hs2 : Scr (401 + (i + 1)) (vz s) := ⟨⟨hok.good, Nat.le_trans (qub hok.good) (Nat.mul_le_mul_right 70000 (Nat.le_add_right 401 (i + 1)))⟩, cs, hcb⟩
      have e1 : (vz s).m = s.m := rfl
      simp only [stoO, mapO, stR, v6, qj] at k1
      refine clO [1, 0] F25 k1 ?_
      try (refine ev ?_; try exact True.intro)
      refine qi3 [0, 1, 2, 3, 4, 5, 11, 7, 8, 9, 10, 6] [mapO s.m, stoO (vz s) 0, wn s, mapO c.m, stoO c 3, wn c, wn (vz s), .none, .none, .none, .none, .none] ?_ (by try (refine ev3 @mapO.eq_1 @stoO.eq_1 @wn.eq_1 ?_; try exact True.intro)) (hp := rfl)
      refine qi4 (st1 := Smid l a b n i s (vz s) c) ?_ (K _ hs2)
      try (refine ev5 @Smid.eq_1 @mapO.eq_1 @stoO.eq_1 @wn.eq_1 @e1 ?_; try exact True.intro)
     ·obtain ⟨j, s', p1, p2, p3, p4, p5, p6, p7⟩ := q1m hbk s.file.length
      rw [List.take_length] at p2
      have hj : j = ts.length := by
       have := p7 ts.length (Nat.le_refl _) (by rw [List.take_length, ← hbk.file]; exact Nat.le_refl _)
       omega
      rw [hj, List.take_length] at p3 p5
      obtain ⟨g1, g2, g3⟩ := qgm p2
      have hrel := qfq (jd s.file) (m := y5) qcc.ok (Nat.zero_le _)
      rw [yu] at hrel
      have hm : qgl y5 (jd s.file) = some s'.m := by
       have h := p2
       unfold qbp at h
       rw [Option.map_eq_some_iff] at h
       obtain ⟨m, hm, rfl⟩ := h
       exact hm
      rw [hm] at hrel
      have k1 := doO s s' l[i] hfb h0 h1 h2 p2 hrel.symm
      have hs2 : Scr (401 + (i + 1)) s' := ⟨⟨g1, Nat.le_trans (by rw [p5, hbk.file]; exact Nat.le_refl _) (Nat.le_trans hok.file (Nat.mul_le_mul_right 70000 (Nat.le_succ _)))⟩, ts, ⟨p5, hbk.enc, p3⟩⟩
      simp only [stoO, mapO, stR, v6, qj] at k1
      refine clO [1, 0, 6, 7, 8, 9, 10] F25 k1 ?_
      try (refine ev ?_; try exact True.intro)
      refine qi3 [7, 9, 2, 3, 4, 5, 8, 10, 11, 0, 1, 6] [mapO s'.m, stoO s' 0, wn s, mapO c.m, stoO c 3, wn c, wn s', mapO s.m, .none, stoO s 7, .none, .none] ?_ (by try (refine ev3 @mapO.eq_1 @stoO.eq_1 @wn.eq_1 ?_; try exact True.intro)) (hp := rfl)
      refine qi4 (st1 := Smid l a b n i s s' c) ?_ (K _ hs2)
      try (refine ev4 @Smid.eq_1 @mapO.eq_1 @stoO.eq_1 @wn.eq_1 ?_; try exact True.intro)
  case h =>
   intro s' hs2
   obtain ⟨hok2, ts2, hbk2⟩ := hs2
   have hf2 := hok2.file
   have k1 := qpp s' (by omega)
   have k2 := xqx s' a (fun x hx => by have := (hok2.good.small x hx).2.2; omega)
   have hel : (qy s'.m).length ≤ 400 := by rw [yn]; exact hok2.good.few
   have k3 := q5w s'.file s'.synced (qy s'.m) a (by omega)
   rw [q43 hok2.good.ok] at k3
   have k4 := qdj s' b _ hok2
   have k5 := q2b s'.file s'.synced (qy s'.m) b (by omega) (by omega) (fun e he => by have := (qnk hok2.good e he).2.1; simp only at this; omega)
   rw [← qzf hok2.good.ok] at k5
   have hsl := qjl s'.m b
   have hfw2 := hok2.good.few
   have k6 := qjy (yl s'.m b) (yl s'.m b) (by omega) (by omega)
   rw [beq_self_eq_true] at k6
   have k7 := qua s' (by omega)
   simp only [stoO, mapO] at k1 k2 k4 k7
   simp only [v6] at k3 k5
   try (refine ev1 @Smid.eq_1 ?_; try exact True.intro)
   refine clO [1, 0] F22 k1 ?_
   try (refine ev1 @zt.eq_1 ?_; try exact True.intro)
   refine clO [1, 0] F26 k2 ?_
   try (refine ev ?_; try exact True.intro)
   (repeat (with_reducible refine ob ?_)); first | refine cl F27 (k3) ?_ | refine clF F27 (k3) (fun _ => by (refine ev3 @qk.eq_1 @qn.eq_1 @qj.eq_1 ?_; try exact True.intro)) ?_
   try (refine ev ?_; try exact True.intro)
   refine clO [1, 0] F21 k4 ?_
   try (refine ev ?_; try exact True.intro)
   (repeat (with_reducible refine ob ?_)); first | refine cl F28 (k5) ?_ | refine clF F28 (k5) (fun _ => by (refine ev3 @qk.eq_1 @qn.eq_1 @qj.eq_1 ?_; try exact True.intro)) ?_
   try (refine ev ?_; try exact True.intro)
   (repeat (with_reducible refine ob ?_)); first | refine cl F20 (k6) ?_ | refine clF F20 (k6) (fun _ => by (refine ev3 @qk.eq_1 @qn.eq_1 @qj.eq_1 ?_; try exact True.intro)) ?_
   try (refine ev ?_; try exact True.intro)
   (repeat (with_reducible refine ob ?_)); refine no_ ?_
   have w1 : IntKind.i64.wrap (n : Int) = (n : Int) := xl (by unfold I64; omega)
   try (refine ev1 @w1 ?_; try exact True.intro)
   have hs3 : Scr 1000 s' := ⟨hok2.mono (by omega), ts2, hbk2⟩
   refine zk _ (fun he => ?_) (fun he => ?_)
   ·try (refine ev ?_; try exact True.intro)
    refine clO [1, 0, 8, 9] F24 k7 ?_
    try (refine ev ?_; try exact True.intro)
    refine qi3 [0, 1, 2, 8, 9, 5, 6, 7, 3, 4] [mapO s'.m, stoO s' 0, wn s', mapO s'.m, stoO s' 3, wn s', wn s', .row [.d (.sl 1 (qd s'.file)), .d (.int .i64 s'.synced)], mapO c.m, stoO c 8] ?_ (by try (refine ev3 @mapO.eq_1 @stoO.eq_1 @wn.eq_1 ?_; try exact True.intro)) (hp := rfl)
    refine pu ?_
    try (refine ev3 @mapO.eq_1 @stoO.eq_1 @wn.eq_1 ?_; try exact True.intro)
    refine ⟨⟨(i + 1, s', s'), hil, ⟨hok2, ts2, hbk2⟩, hs3⟩, ?_, by dsimp only; omega⟩
    try (refine ev2 @Sscr.eq_1 (qt (show i < 9223372036854775807 by omega)) ?_; try exact True.intro)
   ·try (refine ev ?_; try exact True.intro)
    refine pu ?_
    try (refine ev ?_; try exact True.intro)
    refine ⟨⟨(i + 1, s', c), hil, ⟨hok2, ts2, hbk2⟩, hc⟩, ?_, by dsimp only; omega⟩
    try (refine ev2 @Sscr.eq_1 (qt (show i < 9223372036854775807 by omega)) ?_; try exact True.intro)
 ·obtain ⟨hokc, tsc, hbkc⟩ := hc
  have hfc := hokc.file
  have k1 := qdj c [] _ hokc
  change qo _ _ _ _ (.d (.sl 2 ((qy c.m).map qn))) _ at k1
  have hel : (qy c.m).length ≤ 400 := by rw [yn]; exact hokc.good.few
  have k2 := qjy (qy c.m) (qy c.m) (by omega) (by omega)
  rw [beq_self_eq_true] at k2
  have k3 := qpp c (by omega)
  simp only [stoO, mapO] at k1 k3
  try (refine ev ?_; try exact True.intro)
  refine clO [4, 3] F21 k1 ?_
  try (refine ev ?_; try exact True.intro)
  (repeat (with_reducible refine ob ?_)); first | refine cl F20 (k2) ?_ | refine clF F20 (k2) (fun _ => by (refine ev3 @qk.eq_1 @qn.eq_1 @qj.eq_1 ?_; try exact True.intro)) ?_
  try (refine ev ?_; try exact True.intro)
  refine clO [4, 3] F22 k3 ?_
  try (refine ev1 @zt.eq_1 ?_; try exact True.intro)
  trace_state
end Go.Proofs.YtinnaedmdoengaaGreat
namespace Go.Proofs.YtinnaedmdoengaaGreat
open Go.Abs
set_option linter.unusedSimpArgs false
set_option maxRecDepth 100000
theorem qnm {α : Type} {enc : α → List D} {Q : α → Prop} : ∀ {rows : List (List D)}, (∀ r ∈ rows, ∃ x, r = enc x ∧ Q x) → ∃ l : List α, rows = l.map enc ∧ ∀ x ∈ l, Q x
 | [], _ => ⟨[], rfl, by simp⟩
 | r :: rows, h => by
  obtain ⟨x, rfl, hx⟩ := h r (by simp)
  obtain ⟨l, rfl, hl⟩ := qnm (enc := enc) (Q := Q) (rows := rows) (fun r hr => h r (by simp [hr]))
  exact ⟨x :: l, rfl, by simpa using ⟨hx, hl⟩⟩
theorem x53 {n : Int} (h : (Lit.int .i64 n).wf = true) : I64 n := by
 have h1 : IntKind.i64.min = -9223372036854775808 := by decide
 have h2 : IntKind.i64.max = 9223372036854775807 := by decide
 simp only [Lit.wf, Bool.and_eq_true, decide_eq_true_eq, h1, h2] at h
 exact h
theorem zf9 {n : Int} (h : (Lit.int .u8 n).wf = true) : 0 ≤ n ∧ n ≤ 255 := by
 have h1 : IntKind.u8.min = 0 := by decide
 have h2 : IntKind.u8.max = 255 := by decide
 simp only [Lit.wf, Bool.and_eq_true, decide_eq_true_eq, h1, h2] at h
 exact h
theorem x54 {n : Nat} {ds : List D} (h : Shp Tryz.prog (n + 1) 3 ds) : ∃ x, ds = [.int .i64 x] ∧ I64 x := by
 simp only [Shp, Tryz.underlying3] at h
 obtain ⟨x, rfl, h⟩ := h
 exact ⟨x, rfl, x53 h⟩
theorem x55 {n : Nat} {ds : List D} (h : Shp Tryz.prog (n + 1) 5 ds) : ∃ x : Nat, ds = [.int .u8 (x : Nat)] ∧ x < 256 := by
 simp only [Shp, Tryz.underlying5] at h
 obtain ⟨x, rfl, h⟩ := h
 have := zf9 h
 refine ⟨x.toNat, ?_, by omega⟩
 rw [Int.toNat_of_nonneg this.1]
theorem xko {n : Nat} {ds : List D} (h : Shp Tryz.prog (n + 1) 5 ds) : ∃ c : UInt8, ds = [jp c] ∧ True := by
 obtain ⟨x, rfl, hx⟩ := x55 h
 refine ⟨UInt8.ofNat x, ?_, trivial⟩
 simp [jp, UInt8.toNat_ofNat]
 omega
theorem qqp (s : List UInt8) : s.map (fun c => [jp c]) = qd s := by
 induction s with
 | nil => rfl
 | cons c s ih => rw [List.map_cons, ih]; rfl
theorem q5x : Tryz.prog.cellsOf 5 = 1 := by kernel_rfl
theorem q5y {n : Nat} {ds : List D} (h : Shp Tryz.prog (n + 2) 42 ds) : ∃ s : List UInt8, ds = [.sl 1 (qd s)] ∧ s.length ≤ maxLen := by
 rw [Shp] at h
 simp only [Tryz.underlying42] at h
 obtain ⟨r, rfl, l, h⟩ := h
 obtain ⟨s, rfl, _⟩ := qnm fun r hr => xko (h r hr)
 exact ⟨s, by rw [q5x, qqp], by simpa using l⟩
theorem q2f {n : Nat} {ds : List D} (h : Shp Tryz.prog (n + 1) 9 ds) : ∃ s : List UInt8, ds = [.str s] ∧ s.length ≤ maxLen := by
 simp only [Shp, Tryz.underlying9] at h
 exact h
theorem xkp {n : Nat} {ds : List D} (h : Shp Tryz.prog (n + 3) 76 ds) : ∃ o : OpS, ds = qk o ∧ o.key.length ≤ maxLen ∧ o.val.length ≤ maxLen := by
 rw [Shp] at h
 simp only [Tryz.underlying76, qx5] at h
 obtain ⟨_, _, rfl, h1, _, _, rfl, h2, _, _, rfl, h3, rfl⟩ := h
 obtain ⟨a1, rfl, l1⟩ := q2f h1
 simp only [Shp, Tryz.underlying4] at h2
 obtain ⟨a2, rfl⟩ := h2
 obtain ⟨a3, rfl, l3⟩ := q5y h3
 exact ⟨⟨a1, a2, a3⟩, rfl, l1, l3⟩
theorem qwp : Tryz.prog.cellsOf 76 = 3 := by kernel_rfl
theorem x56 {n : Nat} {ds : List D} (h : Shp Tryz.prog (n + 4) 62 ds) : ∃ l : List OpS, ds = [.sl 3 (l.map qk)] ∧ l.length ≤ maxLen := by
 rw [Shp] at h
 simp only [Tryz.underlying62] at h
 obtain ⟨r, rfl, l, h⟩ := h
 obtain ⟨s, rfl, _⟩ := qnm fun r hr => xkp (h r hr)
 exact ⟨s, by rw [qwp], by simpa using l⟩
theorem q2g {n : Nat} {ds : List D} (h : Shp Tryz.prog (n + 5) 64 ds) : ∃ x : StepS, ds = qj x ∧ x.ops.length ≤ maxLen := by
 rw [Shp] at h
 simp only [Tryz.underlying64, qx5] at h
 obtain ⟨_, _, rfl, h1, _, _, rfl, h2, rfl⟩ := h
 obtain ⟨a1, rfl, _⟩ := x54 h1
 obtain ⟨a2, rfl, l2⟩ := x56 h2
 exact ⟨⟨a1, a2⟩, rfl, l2⟩
theorem qqq : Tryz.prog.cellsOf 64 = 2 := by kernel_rfl
theorem q5z {n : Nat} {ds : List D} (h : Shp Tryz.prog (n + 6) 57 ds) : ∃ l : List StepS, ds = [.sl 2 (l.map qj)] ∧ l.length ≤ maxLen ∧ ∀ x ∈ l, x.ops.length ≤ maxLen := by
 rw [Shp] at h
 simp only [Tryz.underlying57] at h
 obtain ⟨r, rfl, l, h⟩ := h
 obtain ⟨s, rfl, hs⟩ := qnm fun r hr => q2g (h r hr)
 exact ⟨s, by rw [qqq], by simpa using l, hs⟩
theorem q50 (l : List StepS) : argS Tryz.prog 57 [.sl 2 (l.map qj)] = .d (.sl 2 (l.map qj)) := by simp only [argS, Tryz.underlying57]; rfl
theorem zga (n : Int) : argS Tryz.prog 5 [.int .u8 n] = .d (.int .u8 n) := by simp only [argS, Tryz.underlying5]; rfl
end Go.Proofs.YtinnaedmdoengaaGreat
