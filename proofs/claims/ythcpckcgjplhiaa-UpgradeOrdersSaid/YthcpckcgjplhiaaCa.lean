/- Packets: what their functions answer. -/
import Derived.Test.YthcpckcgjplhiaaBd
import Derived.Test.YthcpckcgjplhiaaProg
import Derived.KernelRfl
namespace Go.Proofs.Ythcpckcgjplhiaa
open Go.Abs
set_option linter.unusedSimpArgs false

def news : List (FuncId × Nat) := [(86, 5)]
theorem follows : Try.prog.follows .mixedOrders = true := by kernel_rfl

/-- api.Value -/
structure AV where
  kind : Int
  n : Int
  s : List UInt8
  deriving DecidableEq, Inhabited

def encAV (v : AV) : List D := [.int .i64 v.kind, .int .i64 v.n, .str v.s]
theorem encAV_noPtr (v : AV) : D.noPtrL (encAV v) = true := rfl
def encI (n : Int) : List D := [.int .i64 n]
theorem encI_noPtr (n : Int) : D.noPtrL (encI n) = true := rfl

/-- packet.Packet, farandoleref46.Packet -/
structure Pk where
  kind : Int
  sess : Int
  epoch : Int
  from_ : Int
  to : Int
  seq : Int
  label : Int
  values : List AV
  clock : List Int
  deriving DecidableEq, Inhabited

def encPk (p : Pk) : List D := [.int .i64 p.kind, .int .i64 p.sess, .int .i64 p.epoch, .int .i64 p.from_, .int .i64 p.to, .int .i64 p.seq, .int .i64 p.label, .sl 3 (p.values.map encAV), .sl 1 (p.clock.map encI)]
theorem encPk_noPtr (p : Pk) : D.noPtrL (encPk p) = true := by
  simp only [encPk, D.noPtrL, D.noPtr, noPtrR_map encAV_noPtr, noPtrR_map encI_noPtr, Bool.and_self]
theorem noPtrR_AV (l : List AV) : D.noPtrR (l.map encAV) = true := noPtrR_map encAV_noPtr l
theorem noPtrR_I (l : List Int) : D.noPtrR (l.map encI) = true := noPtrR_map encI_noPtr l
theorem noPtrR_Pk (l : List Pk) : D.noPtrR (l.map encPk) = true := noPtrR_map encPk_noPtr l
attribute [go_sem] encAV_noPtr encI_noPtr encPk_noPtr noPtrR_AV noPtrR_I noPtrR_Pk

section
variable {P : Program} {k0 o : Nat} {p : List (Nat × Nat)} {Q : SExit → St → Prop} {st : St}
noncomputable def s109r0 : List SOper := [
  ⟨some 2, .mov (.k (.d (.bool false))), none⟩]
noncomputable def s109r1 : List SOper := [
  ⟨some 3, .mov (.t 0), none⟩,
  ⟨some 4, .bin .geq (.t 3) (.k (.d (.int .i64 0))), none⟩,
  ⟨some 5, .mov (.t 4), none⟩,
  ⟨some 6, .mov (.t 0), some (5, true)⟩,
  ⟨some 7, .bin .lss (.t 6) (.k (.d (.int .i64 6))), some (5, true)⟩,
  ⟨some 8, .pick (.t 5) (.t 7) (.k (.d (.bool false))), none⟩,
  ⟨some 2, .mov (.t 8), none⟩]
noncomputable def s109 : SCode := (.seq (.region s109r0 0 []) (.seq (.region s109r1 0 []) .ret))
theorem e109 : AWp P k0 s109 Q st = AWp P k0 (.seq (.region s109r0 0 []) (.seq (.region s109r1 0 []) .ret)) Q st := rfl
theorem u109r0 : goReg P s109r0 o p Q st = goLit P (litOf s109r0.eq_1) o p Q st := goReg_of _
theorem u109r1 : goReg P s109r1 o p Q st = goLit P (litOf s109r1.eq_1) o p Q st := goReg_of _
attribute [go_sem] u109r0 u109r1 e109
set_option maxRecDepth 100000 in
theorem F109 : FnIs Try.prog 109 Try.f109 [] news s109 [.tmp 2] 9 := ⟨follows, Try.func109, by kernel_rfl, by kernel_rfl, by kernel_rfl, by kernel_rfl⟩

noncomputable def s105r0 : List SOper := [
  ⟨some 1, .box 1 (.t 0), none⟩,
  ⟨some 2, .mov (.k (.d (.bool false))), none⟩]
noncomputable def s105r1 : List SOper := [
  ⟨some 3, .faddr 0 (.t 1), none⟩,
  ⟨some 4, .load none (.t 3), none⟩]
noncomputable def s105r2 : List SOper := [
  ⟨some 6, .bin .eql (.t 4) (.k (.d (.int .i64 1))), none⟩,
  ⟨some 5, .mov (.t 6), none⟩]
noncomputable def s105r3 : List SOper := [
  ⟨some 7, .faddr 2 (.t 1), none⟩,
  ⟨some 8, .load none (.t 7), none⟩,
  ⟨some 9, .bin .eql (.t 8) (.k (.d (.str []))), none⟩,
  ⟨some 2, .mov (.t 9), none⟩]
noncomputable def s105r4 : List SOper := [
  ⟨some 11, .bin .eql (.t 4) (.k (.d (.int .i64 2))), none⟩,
  ⟨some 10, .mov (.t 11), none⟩]
noncomputable def s105r5 : List SOper := [
  ⟨some 12, .faddr 1 (.t 1), none⟩,
  ⟨some 13, .load none (.t 12), none⟩,
  ⟨some 14, .bin .eql (.t 13) (.k (.d (.int .i64 0))), none⟩,
  ⟨some 15, .mov (.t 14), none⟩,
  ⟨some 16, .faddr 2 (.t 1), some (15, true)⟩,
  ⟨some 17, .load none (.t 16), some (15, true)⟩,
  ⟨some 18, .lenS (.t 17), some (15, true)⟩,
  ⟨some 19, .bin .leq (.t 18) (.k (.d (.int .i64 40))), some (15, true)⟩,
  ⟨some 20, .pick (.t 15) (.t 19) (.k (.d (.bool false))), none⟩,
  ⟨some 2, .mov (.t 20), none⟩]
noncomputable def s105r6 : List SOper := [
  ⟨some 2, .mov (.k (.d (.bool false))), none⟩]
noncomputable def s105 : SCode := (.seq (.region s105r0 1 []) (.seq (.seq (.region s105r1 0 []) (.block 0 (.seq (.region s105r2 0 []) (.cond (.t 5) (.seq (.region s105r3 0 []) .ret) (.seq (.region s105r4 0 []) (.cond (.t 10) (.seq (.region s105r5 0 []) .ret) .skip)))))) (.seq (.region s105r6 0 []) .ret)))
theorem e105 : AWp P k0 s105 Q st = AWp P k0 (.seq (.region s105r0 1 []) (.seq (.seq (.region s105r1 0 []) (.block 0 (.seq (.region s105r2 0 []) (.cond (.t 5) (.seq (.region s105r3 0 []) .ret) (.seq (.region s105r4 0 []) (.cond (.t 10) (.seq (.region s105r5 0 []) .ret) .skip)))))) (.seq (.region s105r6 0 []) .ret))) Q st := rfl
theorem u105r0 : goReg P s105r0 o p Q st = goLit P (litOf s105r0.eq_1) o p Q st := goReg_of _
theorem u105r1 : goReg P s105r1 o p Q st = goLit P (litOf s105r1.eq_1) o p Q st := goReg_of _
theorem u105r2 : goReg P s105r2 o p Q st = goLit P (litOf s105r2.eq_1) o p Q st := goReg_of _
theorem u105r3 : goReg P s105r3 o p Q st = goLit P (litOf s105r3.eq_1) o p Q st := goReg_of _
theorem u105r4 : goReg P s105r4 o p Q st = goLit P (litOf s105r4.eq_1) o p Q st := goReg_of _
theorem u105r5 : goReg P s105r5 o p Q st = goLit P (litOf s105r5.eq_1) o p Q st := goReg_of _
theorem u105r6 : goReg P s105r6 o p Q st = goLit P (litOf s105r6.eq_1) o p Q st := goReg_of _
attribute [go_sem] u105r0 u105r1 u105r2 u105r3 u105r4 u105r5 u105r6 e105
set_option maxRecDepth 100000 in
theorem F105 : FnIs Try.prog 105 Try.f105 [] news s105 [.tmp 2] 21 := ⟨follows, Try.func105, by kernel_rfl, by kernel_rfl, by kernel_rfl, by kernel_rfl⟩

noncomputable def s102r0 : List SOper := [
  ⟨some 1, .box 1 (.t 0), none⟩,
  ⟨some 2, .mov (.k (.d (.bool false))), none⟩]
noncomputable def s102r1 : List SOper := [
  ⟨some 3, .faddr 3 (.t 1), none⟩,
  ⟨some 4, .load none (.t 3), none⟩,
  ⟨some 5, .call (.k (.d (.func (.func 109) [] []))) [(.t 4)], none⟩,
  ⟨some 6, .mov (.t 5), none⟩,
  ⟨some 7, .faddr 4 (.t 1), some (6, true)⟩,
  ⟨some 8, .load none (.t 7), some (6, true)⟩,
  ⟨some 9, .call (.k (.d (.func (.func 109) [] []))) [(.t 8)], some (6, true)⟩,
  ⟨some 10, .pick (.t 6) (.t 9) (.k (.d (.bool false))), none⟩,
  ⟨some 11, .mov (.t 10), none⟩,
  ⟨some 12, .faddr 3 (.t 1), some (11, true)⟩,
  ⟨some 13, .load none (.t 12), some (11, true)⟩,
  ⟨some 14, .faddr 4 (.t 1), some (11, true)⟩,
  ⟨some 15, .load none (.t 14), some (11, true)⟩,
  ⟨some 16, .bin .neq (.t 13) (.t 15), some (11, true)⟩,
  ⟨some 17, .pick (.t 11) (.t 16) (.k (.d (.bool false))), none⟩,
  ⟨some 18, .mov (.t 17), none⟩,
  ⟨some 19, .faddr 5 (.t 1), some (18, true)⟩,
  ⟨some 20, .load none (.t 19), some (18, true)⟩,
  ⟨some 21, .bin .geq (.t 20) (.k (.d (.int .i64 1))), some (18, true)⟩,
  ⟨some 22, .pick (.t 18) (.t 21) (.k (.d (.bool false))), none⟩,
  ⟨some 23, .mov (.t 22), none⟩,
  ⟨some 24, .faddr 5 (.t 1), some (23, true)⟩,
  ⟨some 25, .load none (.t 24), some (23, true)⟩,
  ⟨some 26, .bin .leq (.t 25) (.k (.d (.int .i64 1099511627776))), some (23, true)⟩,
  ⟨some 27, .pick (.t 23) (.t 26) (.k (.d (.bool false))), none⟩,
  ⟨some 2, .mov (.t 27), none⟩]
noncomputable def s102 : SCode := (.seq (.region s102r0 1 []) (.seq (.region s102r1 0 []) .ret))
theorem e102 : AWp P k0 s102 Q st = AWp P k0 (.seq (.region s102r0 1 []) (.seq (.region s102r1 0 []) .ret)) Q st := rfl
theorem u102r0 : goReg P s102r0 o p Q st = goLit P (litOf s102r0.eq_1) o p Q st := goReg_of _
theorem u102r1 : goReg P s102r1 o p Q st = goLit P (litOf s102r1.eq_1) o p Q st := goReg_of _
attribute [go_sem] u102r0 u102r1 e102
set_option maxRecDepth 100000 in
theorem F102 : FnIs Try.prog 102 Try.f102 [] news s102 [.tmp 2] 28 := ⟨follows, Try.func102, by kernel_rfl, by kernel_rfl, by kernel_rfl, by kernel_rfl⟩

noncomputable def s108r0 : List SOper := [
  ⟨some 1, .box 1 (.t 0), none⟩,
  ⟨some 2, .mov (.k (.d (.bool false))), none⟩]
noncomputable def s108r1 : List SOper := [
  ⟨some 3, .faddr 2 (.t 1), none⟩,
  ⟨some 4, .load none (.t 3), none⟩,
  ⟨some 5, .bin .eql (.t 4) (.k (.d (.int .i64 0))), none⟩,
  ⟨some 6, .mov (.t 5), none⟩,
  ⟨some 7, .faddr 7 (.t 1), some (6, true)⟩,
  ⟨some 8, .load none (.t 7), some (6, true)⟩,
  ⟨some 9, .len (.t 8), some (6, true)⟩,
  ⟨some 10, .bin .eql (.t 9) (.k (.d (.int .i64 0))), some (6, true)⟩,
  ⟨some 11, .pick (.t 6) (.t 10) (.k (.d (.bool false))), none⟩,
  ⟨some 12, .mov (.t 11), none⟩,
  ⟨some 13, .faddr 8 (.t 1), some (12, true)⟩,
  ⟨some 14, .load none (.t 13), some (12, true)⟩,
  ⟨some 15, .len (.t 14), some (12, true)⟩,
  ⟨some 16, .bin .eql (.t 15) (.k (.d (.int .i64 0))), some (12, true)⟩,
  ⟨some 17, .pick (.t 12) (.t 16) (.k (.d (.bool false))), none⟩,
  ⟨some 2, .mov (.t 17), none⟩]
noncomputable def s108 : SCode := (.seq (.region s108r0 1 []) (.seq (.region s108r1 0 []) .ret))
theorem e108 : AWp P k0 s108 Q st = AWp P k0 (.seq (.region s108r0 1 []) (.seq (.region s108r1 0 []) .ret)) Q st := rfl
theorem u108r0 : goReg P s108r0 o p Q st = goLit P (litOf s108r0.eq_1) o p Q st := goReg_of _
theorem u108r1 : goReg P s108r1 o p Q st = goLit P (litOf s108r1.eq_1) o p Q st := goReg_of _
attribute [go_sem] u108r0 u108r1 e108
set_option maxRecDepth 100000 in
theorem F108 : FnIs Try.prog 108 Try.f108 [] news s108 [.tmp 2] 18 := ⟨follows, Try.func108, by kernel_rfl, by kernel_rfl, by kernel_rfl, by kernel_rfl⟩

noncomputable def s81r0 : List SOper := [
  ⟨some 1, .box 1 (.t 0), none⟩,
  ⟨some 2, .mov (.k (.d (.bool false))), none⟩]
noncomputable def s81r1 : List SOper := [
  ⟨some 3, .load (some 9) (.t 1), none⟩,
  ⟨some 4, .call (.k (.d (.func (.func 102) [] []))) [(.t 3)], none⟩,
  ⟨some 5, .mov (.t 4), none⟩,
  ⟨some 6, .load (some 9) (.t 1), some (5, true)⟩,
  ⟨some 7, .call (.k (.d (.func (.func 108) [] []))) [(.t 6)], some (5, true)⟩,
  ⟨some 8, .pick (.t 5) (.t 7) (.k (.d (.bool false))), none⟩,
  ⟨some 9, .mov (.t 8), none⟩,
  ⟨some 10, .faddr 6 (.t 1), some (9, true)⟩,
  ⟨some 11, .load none (.t 10), some (9, true)⟩,
  ⟨some 12, .bin .eql (.t 11) (.k (.d (.int .i64 0))), some (9, true)⟩,
  ⟨some 13, .pick (.t 9) (.t 12) (.k (.d (.bool false))), none⟩,
  ⟨some 2, .mov (.t 13), none⟩]
noncomputable def s81 : SCode := (.seq (.region s81r0 1 []) (.seq (.region s81r1 0 []) .ret))
theorem e81 : AWp P k0 s81 Q st = AWp P k0 (.seq (.region s81r0 1 []) (.seq (.region s81r1 0 []) .ret)) Q st := rfl
theorem u81r0 : goReg P s81r0 o p Q st = goLit P (litOf s81r0.eq_1) o p Q st := goReg_of _
theorem u81r1 : goReg P s81r1 o p Q st = goLit P (litOf s81r1.eq_1) o p Q st := goReg_of _
attribute [go_sem] u81r0 u81r1 e81
set_option maxRecDepth 100000 in
theorem F81 : FnIs Try.prog 81 Try.f81 [] news s81 [.tmp 2] 14 := ⟨follows, Try.func81, by kernel_rfl, by kernel_rfl, by kernel_rfl, by kernel_rfl⟩

noncomputable def s82r0 : List SOper := [
  ⟨some 1, .box 1 (.t 0), none⟩,
  ⟨some 2, .mov (.k (.d (.bool false))), none⟩]
noncomputable def s82r1 : List SOper := [
  ⟨some 3, .faddr 3 (.t 1), none⟩,
  ⟨some 4, .load none (.t 3), none⟩,
  ⟨some 5, .call (.k (.d (.func (.func 109) [] []))) [(.t 4)], none⟩,
  ⟨some 6, .mov (.t 5), none⟩,
  ⟨some 7, .faddr 6 (.t 1), some (6, true)⟩,
  ⟨some 8, .load none (.t 7), some (6, true)⟩,
  ⟨some 9, .bin .eql (.t 8) (.k (.d (.int .i64 1))), some (6, true)⟩,
  ⟨some 10, .mov (.t 9), some (6, true)⟩,
  ⟨some 11, .faddr 6 (.t 1), some (10, false)⟩,
  ⟨some 12, .load none (.t 11), some (10, false)⟩,
  ⟨some 13, .bin .eql (.t 12) (.k (.d (.int .i64 2))), some (10, false)⟩,
  ⟨some 14, .pick (.t 10) (.k (.d (.bool true))) (.t 13), some (6, true)⟩,
  ⟨some 15, .pick (.t 6) (.t 14) (.k (.d (.bool false))), none⟩,
  ⟨some 16, .mov (.t 15), none⟩,
  ⟨some 17, .load (some 9) (.t 1), some (16, true)⟩,
  ⟨some 18, .call (.k (.d (.func (.func 108) [] []))) [(.t 17)], some (16, true)⟩,
  ⟨some 19, .pick (.t 16) (.t 18) (.k (.d (.bool false))), none⟩,
  ⟨some 20, .mov (.t 19), none⟩,
  ⟨some 21, .faddr 4 (.t 1), some (20, true)⟩,
  ⟨some 22, .load none (.t 21), some (20, true)⟩,
  ⟨some 23, .bin .eql (.t 22) (.k (.d (.int .i64 0))), some (20, true)⟩,
  ⟨some 24, .pick (.t 20) (.t 23) (.k (.d (.bool false))), none⟩,
  ⟨some 25, .mov (.t 24), none⟩,
  ⟨some 26, .faddr 5 (.t 1), some (25, true)⟩,
  ⟨some 27, .load none (.t 26), some (25, true)⟩,
  ⟨some 28, .bin .eql (.t 27) (.k (.d (.int .i64 0))), some (25, true)⟩,
  ⟨some 29, .pick (.t 25) (.t 28) (.k (.d (.bool false))), none⟩,
  ⟨some 2, .mov (.t 29), none⟩]
noncomputable def s82 : SCode := (.seq (.region s82r0 1 []) (.seq (.region s82r1 0 []) .ret))
theorem e82 : AWp P k0 s82 Q st = AWp P k0 (.seq (.region s82r0 1 []) (.seq (.region s82r1 0 []) .ret)) Q st := rfl
theorem u82r0 : goReg P s82r0 o p Q st = goLit P (litOf s82r0.eq_1) o p Q st := goReg_of _
theorem u82r1 : goReg P s82r1 o p Q st = goLit P (litOf s82r1.eq_1) o p Q st := goReg_of _
attribute [go_sem] u82r0 u82r1 e82
set_option maxRecDepth 100000 in
theorem F82 : FnIs Try.prog 82 Try.f82 [] news s82 [.tmp 2] 30 := ⟨follows, Try.func82, by kernel_rfl, by kernel_rfl, by kernel_rfl, by kernel_rfl⟩

noncomputable def s104r0 : List SOper := [
  ⟨some 1, .box 1 (.t 0), none⟩,
  ⟨some 2, .mov (.k (.d (.bool false))), none⟩]
noncomputable def s104r1 : List SOper := [
  ⟨some 3, .load (some 3) (.t 1), none⟩,
  ⟨some 4, .call (.k (.d (.func (.func 105) [] []))) [(.t 3)], none⟩,
  ⟨some 5, .not (.t 4), none⟩,
  ⟨some 2, .mov (.t 5), none⟩]
noncomputable def s104 : SCode := (.seq (.region s104r0 1 []) (.seq (.region s104r1 0 []) .ret))
theorem e104 : AWp P k0 s104 Q st = AWp P k0 (.seq (.region s104r0 1 []) (.seq (.region s104r1 0 []) .ret)) Q st := rfl
theorem u104r0 : goReg P s104r0 o p Q st = goLit P (litOf s104r0.eq_1) o p Q st := goReg_of _
theorem u104r1 : goReg P s104r1 o p Q st = goLit P (litOf s104r1.eq_1) o p Q st := goReg_of _
attribute [go_sem] u104r0 u104r1 e104
set_option maxRecDepth 100000 in
theorem F104 : FnIs Try.prog 104 Try.f104 [] news s104 [.tmp 2] 6 := ⟨follows, Try.func104, by kernel_rfl, by kernel_rfl, by kernel_rfl, by kernel_rfl⟩

noncomputable def s107r0 : List SOper := [
  ⟨some 2, .mov (.k (.d (.bool false))), none⟩]
noncomputable def s107r1 : List SOper := [
  ⟨some 3, .mov (.t 0), none⟩,
  ⟨some 4, .bin .lss (.t 3) (.k (.d (.int .i64 0))), none⟩,
  ⟨some 5, .mov (.t 4), none⟩,
  ⟨some 6, .mov (.t 0), some (5, false)⟩,
  ⟨some 7, .bin .gtr (.t 6) (.k (.d (.int .i64 1099511627776))), some (5, false)⟩,
  ⟨some 8, .pick (.t 5) (.k (.d (.bool true))) (.t 7), none⟩,
  ⟨some 2, .mov (.t 8), none⟩]
noncomputable def s107 : SCode := (.seq (.region s107r0 0 []) (.seq (.region s107r1 0 []) .ret))
theorem e107 : AWp P k0 s107 Q st = AWp P k0 (.seq (.region s107r0 0 []) (.seq (.region s107r1 0 []) .ret)) Q st := rfl
theorem u107r0 : goReg P s107r0 o p Q st = goLit P (litOf s107r0.eq_1) o p Q st := goReg_of _
theorem u107r1 : goReg P s107r1 o p Q st = goLit P (litOf s107r1.eq_1) o p Q st := goReg_of _
attribute [go_sem] u107r0 u107r1 e107
set_option maxRecDepth 100000 in
theorem F107 : FnIs Try.prog 107 Try.f107 [] news s107 [.tmp 2] 9 := ⟨follows, Try.func107, by kernel_rfl, by kernel_rfl, by kernel_rfl, by kernel_rfl⟩

end

def role (n : Int) : Bool := decide (n ≥ 0) && decide (n < 6)

theorem role_ok (n : Int) : ACall Try.prog 109 [.d (.int .i64 n)] [] (.d (.bool (role n))) [] := by
  first | refine F109.go ?_ | refine F109.goT ?_
  simp only [go_sem, Nat.reduceAdd, Nat.reduceMul, Nat.reduceSub, Nat.reduceEqDiff, Nat.reduceLT, Nat.reduceLeDiff, Nat.reduceBEq, reduceIte, reduceCtorEq, Int.reduceAdd, Int.reduceLT, Int.reduceLE, Int.reduceGT, Int.reduceGE, Int.reduceEq, Int.reduceNe, Int.reduceBEq, Int.reduceBNe, Int.reduceToNat, Int.reduceNeg]
  rfl

def proper (v : AV) : Bool := if v.kind == 1 then v.s == [] else if v.kind == 2 then v.n == 0 && decide ((v.s.length : Int) ≤ 40) else false

theorem proper_ok (v : AV) : ACall Try.prog 105 [.d (.agg (encAV v))] [] (.d (.bool (proper v))) [] := by
  first | refine F105.go ?_ | refine F105.goT ?_
  simp only [encAV, go_sem, Nat.reduceAdd, Nat.reduceMul, Nat.reduceSub, Nat.reduceEqDiff, Nat.reduceLT, Nat.reduceLeDiff, Nat.reduceBEq, reduceIte, reduceCtorEq, Int.reduceAdd, Int.reduceLT, Int.reduceLE, Int.reduceGT, Int.reduceGE, Int.reduceEq, Int.reduceNe, Int.reduceBEq, Int.reduceBNe, Int.reduceToNat, Int.reduceNeg]
  refine AWp_cond _ rfl rfl (fun h => ?_) (fun h => ?_)
  · simp only [proper, h, go_sem, Nat.reduceAdd, Nat.reduceMul, Nat.reduceSub, Nat.reduceEqDiff, Nat.reduceLT, Nat.reduceLeDiff, Nat.reduceBEq, reduceIte, reduceCtorEq, Int.reduceAdd, Int.reduceLT, Int.reduceLE, Int.reduceGT, Int.reduceGE, Int.reduceEq, Int.reduceNe, Int.reduceBEq, Int.reduceBNe, Int.reduceToNat, Int.reduceNeg]
  · simp only [go_sem, Nat.reduceAdd, Nat.reduceMul, Nat.reduceSub, Nat.reduceEqDiff, Nat.reduceLT, Nat.reduceLeDiff, Nat.reduceBEq, reduceIte, reduceCtorEq, Int.reduceAdd, Int.reduceLT, Int.reduceLE, Int.reduceGT, Int.reduceGE, Int.reduceEq, Int.reduceNe, Int.reduceBEq, Int.reduceBNe, Int.reduceToNat, Int.reduceNeg]
    refine AWp_cond _ rfl rfl (fun h2 => ?_) (fun h2 => ?_)
    · simp only [proper, h, h2, go_sem, Nat.reduceAdd, Nat.reduceMul, Nat.reduceSub, Nat.reduceEqDiff, Nat.reduceLT, Nat.reduceLeDiff, Nat.reduceBEq, reduceIte, reduceCtorEq, Int.reduceAdd, Int.reduceLT, Int.reduceLE, Int.reduceGT, Int.reduceGE, Int.reduceEq, Int.reduceNe, Int.reduceBEq, Int.reduceBNe, Int.reduceToNat, Int.reduceNeg]
    · simp only [proper, h, h2, go_sem, Nat.reduceAdd, Nat.reduceMul, Nat.reduceSub, Nat.reduceEqDiff, Nat.reduceLT, Nat.reduceLeDiff, Nat.reduceBEq, reduceIte, reduceCtorEq, Int.reduceAdd, Int.reduceLT, Int.reduceLE, Int.reduceGT, Int.reduceGE, Int.reduceEq, Int.reduceNe, Int.reduceBEq, Int.reduceBNe, Int.reduceToNat, Int.reduceNeg]

def numbered (p : Pk) : Bool := role p.from_ && role p.to && p.from_ != p.to && decide (p.seq ≥ 1) && decide (p.seq ≤ 1099511627776)

theorem numbered_ok (p : Pk) : ACall Try.prog 102 [.d (.agg (encPk p))] [] (.d (.bool (numbered p))) [] := by
  first | refine F102.go ?_ | refine F102.goT ?_
  simp only [encPk, go_sem, Nat.reduceAdd, Nat.reduceMul, Nat.reduceSub, Nat.reduceEqDiff, Nat.reduceLT, Nat.reduceLeDiff, Nat.reduceBEq, reduceIte, reduceCtorEq, Int.reduceAdd, Int.reduceLT, Int.reduceLE, Int.reduceGT, Int.reduceGE, Int.reduceEq, Int.reduceNe, Int.reduceBEq, Int.reduceBNe, Int.reduceToNat, Int.reduceNeg]
  refine callO_pure (role_ok _) F109.body (fun h => h) (fun _ => ⟨matchA_refl, trivial⟩) rfl rfl rfl ?_
  simp only [go_sem, Nat.reduceAdd, Nat.reduceMul, Nat.reduceSub, Nat.reduceEqDiff, Nat.reduceLT, Nat.reduceLeDiff, Nat.reduceBEq, reduceIte, reduceCtorEq, Int.reduceAdd, Int.reduceLT, Int.reduceLE, Int.reduceGT, Int.reduceGE, Int.reduceEq, Int.reduceNe, Int.reduceBEq, Int.reduceBNe, Int.reduceToNat, Int.reduceNeg]
  refine callO_pure (role_ok _) F109.body (fun h => h) (fun _ => ⟨matchA_refl, trivial⟩) rfl rfl rfl ?_
  simp only [go_sem, Nat.reduceAdd, Nat.reduceMul, Nat.reduceSub, Nat.reduceEqDiff, Nat.reduceLT, Nat.reduceLeDiff, Nat.reduceBEq, reduceIte, reduceCtorEq, Int.reduceAdd, Int.reduceLT, Int.reduceLE, Int.reduceGT, Int.reduceGE, Int.reduceEq, Int.reduceNe, Int.reduceBEq, Int.reduceBNe, Int.reduceToNat, Int.reduceNeg]
  rfl

def bare (p : Pk) : Bool := p.epoch == 0 && (p.values.length : Int) == 0 && (p.clock.length : Int) == 0

theorem bare_ok (p : Pk) : ACall Try.prog 108 [.d (.agg (encPk p))] [] (.d (.bool (bare p))) [] := by
  first | refine F108.go ?_ | refine F108.goT ?_
  simp only [encPk, go_sem, Nat.reduceAdd, Nat.reduceMul, Nat.reduceSub, Nat.reduceEqDiff, Nat.reduceLT, Nat.reduceLeDiff, Nat.reduceBEq, reduceIte, reduceCtorEq, Int.reduceAdd, Int.reduceLT, Int.reduceLE, Int.reduceGT, Int.reduceGE, Int.reduceEq, Int.reduceNe, Int.reduceBEq, Int.reduceBNe, Int.reduceToNat, Int.reduceNeg]
  rfl

theorem noPtr_pk (p : Pk) : ([ASlot.d (.agg (encPk p))].all ASlot.noPtr) = true := by
  simp only [List.all_cons, List.all_nil, ASlot.noPtr, D.noPtr, encPk_noPtr, Bool.and_self]

def ack (p : Pk) : Bool := numbered p && bare p && p.label == 0

theorem ack_ok (p : Pk) : ACall Try.prog 81 [.d (.agg (encPk p))] [] (.d (.bool (ack p))) [] := by
  first | refine F81.go ?_ | refine F81.goT ?_
  simp only [encPk, go_sem, Nat.reduceAdd, Nat.reduceMul, Nat.reduceSub, Nat.reduceEqDiff, Nat.reduceLT, Nat.reduceLeDiff, Nat.reduceBEq, reduceIte, reduceCtorEq, Int.reduceAdd, Int.reduceLT, Int.reduceLE, Int.reduceGT, Int.reduceGE, Int.reduceEq, Int.reduceNe, Int.reduceBEq, Int.reduceBNe, Int.reduceToNat, Int.reduceNeg]
  refine callO_pure (numbered_ok p) F102.body (fun h => h) (fun _ => ⟨matchA_refl, trivial⟩) (noPtr_pk p) rfl rfl ?_
  simp only [go_sem, Nat.reduceAdd, Nat.reduceMul, Nat.reduceSub, Nat.reduceEqDiff, Nat.reduceLT, Nat.reduceLeDiff, Nat.reduceBEq, reduceIte, reduceCtorEq, Int.reduceAdd, Int.reduceLT, Int.reduceLE, Int.reduceGT, Int.reduceGE, Int.reduceEq, Int.reduceNe, Int.reduceBEq, Int.reduceBNe, Int.reduceToNat, Int.reduceNeg]
  refine callO_pure (bare_ok p) F108.body (fun h => h) (fun _ => ⟨matchA_refl, trivial⟩) (noPtr_pk p) rfl rfl ?_
  simp only [go_sem, Nat.reduceAdd, Nat.reduceMul, Nat.reduceSub, Nat.reduceEqDiff, Nat.reduceLT, Nat.reduceLeDiff, Nat.reduceBEq, reduceIte, reduceCtorEq, Int.reduceAdd, Int.reduceLT, Int.reduceLE, Int.reduceGT, Int.reduceGE, Int.reduceEq, Int.reduceNe, Int.reduceBEq, Int.reduceBNe, Int.reduceToNat, Int.reduceNeg]
  rfl

def order (p : Pk) : Bool := role p.from_ && (p.label == 1 || p.label == 2) && bare p && p.to == 0 && p.seq == 0

theorem order_ok (p : Pk) : ACall Try.prog 82 [.d (.agg (encPk p))] [] (.d (.bool (order p))) [] := by
  first | refine F82.go ?_ | refine F82.goT ?_
  simp only [encPk, go_sem, Nat.reduceAdd, Nat.reduceMul, Nat.reduceSub, Nat.reduceEqDiff, Nat.reduceLT, Nat.reduceLeDiff, Nat.reduceBEq, reduceIte, reduceCtorEq, Int.reduceAdd, Int.reduceLT, Int.reduceLE, Int.reduceGT, Int.reduceGE, Int.reduceEq, Int.reduceNe, Int.reduceBEq, Int.reduceBNe, Int.reduceToNat, Int.reduceNeg]
  refine callO_pure (role_ok _) F109.body (fun h => h) (fun _ => ⟨matchA_refl, trivial⟩) rfl rfl rfl ?_
  simp only [go_sem, Nat.reduceAdd, Nat.reduceMul, Nat.reduceSub, Nat.reduceEqDiff, Nat.reduceLT, Nat.reduceLeDiff, Nat.reduceBEq, reduceIte, reduceCtorEq, Int.reduceAdd, Int.reduceLT, Int.reduceLE, Int.reduceGT, Int.reduceGE, Int.reduceEq, Int.reduceNe, Int.reduceBEq, Int.reduceBNe, Int.reduceToNat, Int.reduceNeg]
  refine ⟨by simp_all, ?_⟩
  refine callO_pure (bare_ok p) F108.body (fun h => h) (fun _ => ⟨matchA_refl, trivial⟩) (noPtr_pk p) rfl rfl ?_
  simp only [go_sem, Nat.reduceAdd, Nat.reduceMul, Nat.reduceSub, Nat.reduceEqDiff, Nat.reduceLT, Nat.reduceLeDiff, Nat.reduceBEq, reduceIte, reduceCtorEq, Int.reduceAdd, Int.reduceLT, Int.reduceLE, Int.reduceGT, Int.reduceGE, Int.reduceEq, Int.reduceNe, Int.reduceBEq, Int.reduceBNe, Int.reduceToNat, Int.reduceNeg]
  rfl

theorem data1_ok (v : AV) : ACall Try.prog 104 [.d (.agg (encAV v))] [] (.d (.bool (!proper v))) [] := by
  first | refine F104.go ?_ | refine F104.goT ?_
  simp only [encAV, go_sem, Nat.reduceAdd, Nat.reduceMul, Nat.reduceSub, Nat.reduceEqDiff, Nat.reduceLT, Nat.reduceLeDiff, Nat.reduceBEq, reduceIte, reduceCtorEq, Int.reduceAdd, Int.reduceLT, Int.reduceLE, Int.reduceGT, Int.reduceGE, Int.reduceEq, Int.reduceNe, Int.reduceBEq, Int.reduceBNe, Int.reduceToNat, Int.reduceNeg]
  refine callO_pure (proper_ok v) F105.body (fun h => h) (fun _ => ⟨matchA_refl, trivial⟩) rfl rfl rfl ?_
  simp only [go_sem, Nat.reduceAdd, Nat.reduceMul, Nat.reduceSub, Nat.reduceEqDiff, Nat.reduceLT, Nat.reduceLeDiff, Nat.reduceBEq, reduceIte, reduceCtorEq, Int.reduceAdd, Int.reduceLT, Int.reduceLE, Int.reduceGT, Int.reduceGE, Int.reduceEq, Int.reduceNe, Int.reduceBEq, Int.reduceBNe, Int.reduceToNat, Int.reduceNeg]

theorem data2_ok (n : Int) : ACall Try.prog 107 [.d (.int .i64 n)] [] (.d (.bool (decide (n < 0) || decide (n > 1099511627776)))) [] := by
  first | refine F107.go ?_ | refine F107.goT ?_
  simp only [go_sem, Nat.reduceAdd, Nat.reduceMul, Nat.reduceSub, Nat.reduceEqDiff, Nat.reduceLT, Nat.reduceLeDiff, Nat.reduceBEq, reduceIte, reduceCtorEq, Int.reduceAdd, Int.reduceLT, Int.reduceLE, Int.reduceGT, Int.reduceGE, Int.reduceEq, Int.reduceNe, Int.reduceBEq, Int.reduceBNe, Int.reduceToNat, Int.reduceNeg]
  intro h
  rw [h]; rfl
end Go.Proofs.Ythcpckcgjplhiaa
