/- Texts Ca, Cb, Cc, Cd, Ce, Cf, Cg, Ch. -/
import Derived.Test.YthcpckcgjplhiaaMdh
import Derived.Calls
import Derived.Orders
import Derived.Tactics
import Derived.Laws.AppendOwn
import Derived.Laws.Slices
import Derived.Laws.Closers25
import Derived.Laws.StructEq
import Derived.Laws.BytesString
import Derived.Laws.CopyRow
import Derived.IntWalk
import Derived.ProofKit
import Derived.OpenShut
import Derived.Carry
import Derived.Test.YthcpckcgjplhiaaProg
import Derived.KernelRfl
/- Packets: what their functions answer. -/
namespace Go.Proofs.Ythcpckcgjplhiaa
open Go.Abs
set_option linter.unusedSimpArgs false

def news : List (FuncId × Nat) := [(86, 5)]
theorem follows : Try.prog.follows .mixedOrders = true := by kernel_rfl

/-- api.Value -/
structure AV where
  kind : Int
  n : Int
  s : List UInt8
  deriving DecidableEq, Inhabited

def encAV (v : AV) : List D := [.int .i64 v.kind, .int .i64 v.n, .str v.s]
theorem encAV_noPtr (v : AV) : D.noPtrL (encAV v) = true := rfl
def encI (n : Int) : List D := [.int .i64 n]
theorem encI_noPtr (n : Int) : D.noPtrL (encI n) = true := rfl

/-- packet.Packet, farandoleref46.Packet -/
structure Pk where
  kind : Int
  sess : Int
  epoch : Int
  from_ : Int
  to : Int
  seq : Int
  label : Int
  values : List AV
  clock : List Int
  deriving DecidableEq, Inhabited

def encPk (p : Pk) : List D := [.int .i64 p.kind, .int .i64 p.sess, .int .i64 p.epoch, .int .i64 p.from_, .int .i64 p.to, .int .i64 p.seq, .int .i64 p.label, .sl 3 (p.values.map encAV), .sl 1 (p.clock.map encI)]
theorem encPk_noPtr (p : Pk) : D.noPtrL (encPk p) = true := by
  simp only [encPk, D.noPtrL, D.noPtr, noPtrR_map encAV_noPtr, noPtrR_map encI_noPtr, Bool.and_self]
theorem noPtrR_AV (l : List AV) : D.noPtrR (l.map encAV) = true := noPtrR_map encAV_noPtr l
theorem noPtrR_I (l : List Int) : D.noPtrR (l.map encI) = true := noPtrR_map encI_noPtr l
theorem noPtrR_Pk (l : List Pk) : D.noPtrR (l.map encPk) = true := noPtrR_map encPk_noPtr l
attribute [go_sem] encAV_noPtr encI_noPtr encPk_noPtr noPtrR_AV noPtrR_I noPtrR_Pk

section
variable {P : Program} {k0 o : Nat} {p : List (Nat × Nat)} {Q : SExit → St → Prop} {st : St}
noncomputable def s109r0 : List SOper := [
  ⟨some 2, .mov (.k (.d (.bool false))), none⟩]
noncomputable def s109r1 : List SOper := [
  ⟨some 3, .mov (.t 0), none⟩,
  ⟨some 4, .bin .geq (.t 3) (.k (.d (.int .i64 0))), none⟩,
  ⟨some 5, .mov (.t 4), none⟩,
  ⟨some 6, .mov (.t 0), some (5, true)⟩,
  ⟨some 7, .bin .lss (.t 6) (.k (.d (.int .i64 6))), some (5, true)⟩,
  ⟨some 8, .pick (.t 5) (.t 7) (.k (.d (.bool false))), none⟩,
  ⟨some 2, .mov (.t 8), none⟩]
noncomputable def s109 : SCode := (.seq (.region s109r0 0 []) (.seq (.region s109r1 0 []) .ret))
theorem e109 : AWp P k0 s109 Q st = AWp P k0 (.seq (.region s109r0 0 []) (.seq (.region s109r1 0 []) .ret)) Q st := rfl
theorem u109r0 : goReg P s109r0 o p Q st = goLit P (litOf s109r0.eq_1) o p Q st := goReg_of _
theorem u109r1 : goReg P s109r1 o p Q st = goLit P (litOf s109r1.eq_1) o p Q st := goReg_of _
attribute [go_sem] u109r0 u109r1 e109
set_option maxRecDepth 100000 in
theorem F109 : FnIs Try.prog 109 Try.f109 [] news s109 [.tmp 2] 9 := ⟨follows, Try.func109, by kernel_rfl, by kernel_rfl, by kernel_rfl, by kernel_rfl⟩

noncomputable def s105r0 : List SOper := [
  ⟨some 1, .box 1 (.t 0), none⟩,
  ⟨some 2, .mov (.k (.d (.bool false))), none⟩]
noncomputable def s105r1 : List SOper := [
  ⟨some 3, .faddr 0 (.t 1), none⟩,
  ⟨some 4, .load none (.t 3), none⟩]
noncomputable def s105r2 : List SOper := [
  ⟨some 6, .bin .eql (.t 4) (.k (.d (.int .i64 1))), none⟩,
  ⟨some 5, .mov (.t 6), none⟩]
noncomputable def s105r3 : List SOper := [
  ⟨some 7, .faddr 2 (.t 1), none⟩,
  ⟨some 8, .load none (.t 7), none⟩,
  ⟨some 9, .bin .eql (.t 8) (.k (.d (.str []))), none⟩,
  ⟨some 2, .mov (.t 9), none⟩]
noncomputable def s105r4 : List SOper := [
  ⟨some 11, .bin .eql (.t 4) (.k (.d (.int .i64 2))), none⟩,
  ⟨some 10, .mov (.t 11), none⟩]
noncomputable def s105r5 : List SOper := [
  ⟨some 12, .faddr 1 (.t 1), none⟩,
  ⟨some 13, .load none (.t 12), none⟩,
  ⟨some 14, .bin .eql (.t 13) (.k (.d (.int .i64 0))), none⟩,
  ⟨some 15, .mov (.t 14), none⟩,
  ⟨some 16, .faddr 2 (.t 1), some (15, true)⟩,
  ⟨some 17, .load none (.t 16), some (15, true)⟩,
  ⟨some 18, .lenS (.t 17), some (15, true)⟩,
  ⟨some 19, .bin .leq (.t 18) (.k (.d (.int .i64 40))), some (15, true)⟩,
  ⟨some 20, .pick (.t 15) (.t 19) (.k (.d (.bool false))), none⟩,
  ⟨some 2, .mov (.t 20), none⟩]
noncomputable def s105r6 : List SOper := [
  ⟨some 2, .mov (.k (.d (.bool false))), none⟩]
noncomputable def s105 : SCode := (.seq (.region s105r0 1 []) (.seq (.seq (.region s105r1 0 []) (.block 0 (.seq (.region s105r2 0 []) (.cond (.t 5) (.seq (.region s105r3 0 []) .ret) (.seq (.region s105r4 0 []) (.cond (.t 10) (.seq (.region s105r5 0 []) .ret) .skip)))))) (.seq (.region s105r6 0 []) .ret)))
theorem e105 : AWp P k0 s105 Q st = AWp P k0 (.seq (.region s105r0 1 []) (.seq (.seq (.region s105r1 0 []) (.block 0 (.seq (.region s105r2 0 []) (.cond (.t 5) (.seq (.region s105r3 0 []) .ret) (.seq (.region s105r4 0 []) (.cond (.t 10) (.seq (.region s105r5 0 []) .ret) .skip)))))) (.seq (.region s105r6 0 []) .ret))) Q st := rfl
theorem u105r0 : goReg P s105r0 o p Q st = goLit P (litOf s105r0.eq_1) o p Q st := goReg_of _
theorem u105r1 : goReg P s105r1 o p Q st = goLit P (litOf s105r1.eq_1) o p Q st := goReg_of _
theorem u105r2 : goReg P s105r2 o p Q st = goLit P (litOf s105r2.eq_1) o p Q st := goReg_of _
theorem u105r3 : goReg P s105r3 o p Q st = goLit P (litOf s105r3.eq_1) o p Q st := goReg_of _
theorem u105r4 : goReg P s105r4 o p Q st = goLit P (litOf s105r4.eq_1) o p Q st := goReg_of _
theorem u105r5 : goReg P s105r5 o p Q st = goLit P (litOf s105r5.eq_1) o p Q st := goReg_of _
theorem u105r6 : goReg P s105r6 o p Q st = goLit P (litOf s105r6.eq_1) o p Q st := goReg_of _
attribute [go_sem] u105r0 u105r1 u105r2 u105r3 u105r4 u105r5 u105r6 e105
set_option maxRecDepth 100000 in
theorem F105 : FnIs Try.prog 105 Try.f105 [] news s105 [.tmp 2] 21 := ⟨follows, Try.func105, by kernel_rfl, by kernel_rfl, by kernel_rfl, by kernel_rfl⟩

noncomputable def s102r0 : List SOper := [
  ⟨some 1, .box 1 (.t 0), none⟩,
  ⟨some 2, .mov (.k (.d (.bool false))), none⟩]
noncomputable def s102r1 : List SOper := [
  ⟨some 3, .faddr 3 (.t 1), none⟩,
  ⟨some 4, .load none (.t 3), none⟩,
  ⟨some 5, .call (.k (.d (.func (.func 109) [] []))) [(.t 4)], none⟩,
  ⟨some 6, .mov (.t 5), none⟩,
  ⟨some 7, .faddr 4 (.t 1), some (6, true)⟩,
  ⟨some 8, .load none (.t 7), some (6, true)⟩,
  ⟨some 9, .call (.k (.d (.func (.func 109) [] []))) [(.t 8)], some (6, true)⟩,
  ⟨some 10, .pick (.t 6) (.t 9) (.k (.d (.bool false))), none⟩,
  ⟨some 11, .mov (.t 10), none⟩,
  ⟨some 12, .faddr 3 (.t 1), some (11, true)⟩,
  ⟨some 13, .load none (.t 12), some (11, true)⟩,
  ⟨some 14, .faddr 4 (.t 1), some (11, true)⟩,
  ⟨some 15, .load none (.t 14), some (11, true)⟩,
  ⟨some 16, .bin .neq (.t 13) (.t 15), some (11, true)⟩,
  ⟨some 17, .pick (.t 11) (.t 16) (.k (.d (.bool false))), none⟩,
  ⟨some 18, .mov (.t 17), none⟩,
  ⟨some 19, .faddr 5 (.t 1), some (18, true)⟩,
  ⟨some 20, .load none (.t 19), some (18, true)⟩,
  ⟨some 21, .bin .geq (.t 20) (.k (.d (.int .i64 1))), some (18, true)⟩,
  ⟨some 22, .pick (.t 18) (.t 21) (.k (.d (.bool false))), none⟩,
  ⟨some 23, .mov (.t 22), none⟩,
  ⟨some 24, .faddr 5 (.t 1), some (23, true)⟩,
  ⟨some 25, .load none (.t 24), some (23, true)⟩,
  ⟨some 26, .bin .leq (.t 25) (.k (.d (.int .i64 1099511627776))), some (23, true)⟩,
  ⟨some 27, .pick (.t 23) (.t 26) (.k (.d (.bool false))), none⟩,
  ⟨some 2, .mov (.t 27), none⟩]
noncomputable def s102 : SCode := (.seq (.region s102r0 1 []) (.seq (.region s102r1 0 []) .ret))
theorem e102 : AWp P k0 s102 Q st = AWp P k0 (.seq (.region s102r0 1 []) (.seq (.region s102r1 0 []) .ret)) Q st := rfl
theorem u102r0 : goReg P s102r0 o p Q st = goLit P (litOf s102r0.eq_1) o p Q st := goReg_of _
theorem u102r1 : goReg P s102r1 o p Q st = goLit P (litOf s102r1.eq_1) o p Q st := goReg_of _
attribute [go_sem] u102r0 u102r1 e102
set_option maxRecDepth 100000 in
theorem F102 : FnIs Try.prog 102 Try.f102 [] news s102 [.tmp 2] 28 := ⟨follows, Try.func102, by kernel_rfl, by kernel_rfl, by kernel_rfl, by kernel_rfl⟩

noncomputable def s108r0 : List SOper := [
  ⟨some 1, .box 1 (.t 0), none⟩,
  ⟨some 2, .mov (.k (.d (.bool false))), none⟩]
noncomputable def s108r1 : List SOper := [
  ⟨some 3, .faddr 2 (.t 1), none⟩,
  ⟨some 4, .load none (.t 3), none⟩,
  ⟨some 5, .bin .eql (.t 4) (.k (.d (.int .i64 0))), none⟩,
  ⟨some 6, .mov (.t 5), none⟩,
  ⟨some 7, .faddr 7 (.t 1), some (6, true)⟩,
  ⟨some 8, .load none (.t 7), some (6, true)⟩,
  ⟨some 9, .len (.t 8), some (6, true)⟩,
  ⟨some 10, .bin .eql (.t 9) (.k (.d (.int .i64 0))), some (6, true)⟩,
  ⟨some 11, .pick (.t 6) (.t 10) (.k (.d (.bool false))), none⟩,
  ⟨some 12, .mov (.t 11), none⟩,
  ⟨some 13, .faddr 8 (.t 1), some (12, true)⟩,
  ⟨some 14, .load none (.t 13), some (12, true)⟩,
  ⟨some 15, .len (.t 14), some (12, true)⟩,
  ⟨some 16, .bin .eql (.t 15) (.k (.d (.int .i64 0))), some (12, true)⟩,
  ⟨some 17, .pick (.t 12) (.t 16) (.k (.d (.bool false))), none⟩,
  ⟨some 2, .mov (.t 17), none⟩]
noncomputable def s108 : SCode := (.seq (.region s108r0 1 []) (.seq (.region s108r1 0 []) .ret))
theorem e108 : AWp P k0 s108 Q st = AWp P k0 (.seq (.region s108r0 1 []) (.seq (.region s108r1 0 []) .ret)) Q st := rfl
theorem u108r0 : goReg P s108r0 o p Q st = goLit P (litOf s108r0.eq_1) o p Q st := goReg_of _
theorem u108r1 : goReg P s108r1 o p Q st = goLit P (litOf s108r1.eq_1) o p Q st := goReg_of _
attribute [go_sem] u108r0 u108r1 e108
set_option maxRecDepth 100000 in
theorem F108 : FnIs Try.prog 108 Try.f108 [] news s108 [.tmp 2] 18 := ⟨follows, Try.func108, by kernel_rfl, by kernel_rfl, by kernel_rfl, by kernel_rfl⟩

noncomputable def s81r0 : List SOper := [
  ⟨some 1, .box 1 (.t 0), none⟩,
  ⟨some 2, .mov (.k (.d (.bool false))), none⟩]
noncomputable def s81r1 : List SOper := [
  ⟨some 3, .load (some 9) (.t 1), none⟩,
  ⟨some 4, .call (.k (.d (.func (.func 102) [] []))) [(.t 3)], none⟩,
  ⟨some 5, .mov (.t 4), none⟩,
  ⟨some 6, .load (some 9) (.t 1), some (5, true)⟩,
  ⟨some 7, .call (.k (.d (.func (.func 108) [] []))) [(.t 6)], some (5, true)⟩,
  ⟨some 8, .pick (.t 5) (.t 7) (.k (.d (.bool false))), none⟩,
  ⟨some 9, .mov (.t 8), none⟩,
  ⟨some 10, .faddr 6 (.t 1), some (9, true)⟩,
  ⟨some 11, .load none (.t 10), some (9, true)⟩,
  ⟨some 12, .bin .eql (.t 11) (.k (.d (.int .i64 0))), some (9, true)⟩,
  ⟨some 13, .pick (.t 9) (.t 12) (.k (.d (.bool false))), none⟩,
  ⟨some 2, .mov (.t 13), none⟩]
noncomputable def s81 : SCode := (.seq (.region s81r0 1 []) (.seq (.region s81r1 0 []) .ret))
theorem e81 : AWp P k0 s81 Q st = AWp P k0 (.seq (.region s81r0 1 []) (.seq (.region s81r1 0 []) .ret)) Q st := rfl
theorem u81r0 : goReg P s81r0 o p Q st = goLit P (litOf s81r0.eq_1) o p Q st := goReg_of _
theorem u81r1 : goReg P s81r1 o p Q st = goLit P (litOf s81r1.eq_1) o p Q st := goReg_of _
attribute [go_sem] u81r0 u81r1 e81
set_option maxRecDepth 100000 in
theorem F81 : FnIs Try.prog 81 Try.f81 [] news s81 [.tmp 2] 14 := ⟨follows, Try.func81, by kernel_rfl, by kernel_rfl, by kernel_rfl, by kernel_rfl⟩

noncomputable def s82r0 : List SOper := [
  ⟨some 1, .box 1 (.t 0), none⟩,
  ⟨some 2, .mov (.k (.d (.bool false))), none⟩]
noncomputable def s82r1 : List SOper := [
  ⟨some 3, .faddr 3 (.t 1), none⟩,
  ⟨some 4, .load none (.t 3), none⟩,
  ⟨some 5, .call (.k (.d (.func (.func 109) [] []))) [(.t 4)], none⟩,
  ⟨some 6, .mov (.t 5), none⟩,
  ⟨some 7, .faddr 6 (.t 1), some (6, true)⟩,
  ⟨some 8, .load none (.t 7), some (6, true)⟩,
  ⟨some 9, .bin .eql (.t 8) (.k (.d (.int .i64 1))), some (6, true)⟩,
  ⟨some 10, .mov (.t 9), some (6, true)⟩,
  ⟨some 11, .faddr 6 (.t 1), some (10, false)⟩,
  ⟨some 12, .load none (.t 11), some (10, false)⟩,
  ⟨some 13, .bin .eql (.t 12) (.k (.d (.int .i64 2))), some (10, false)⟩,
  ⟨some 14, .pick (.t 10) (.k (.d (.bool true))) (.t 13), some (6, true)⟩,
  ⟨some 15, .pick (.t 6) (.t 14) (.k (.d (.bool false))), none⟩,
  ⟨some 16, .mov (.t 15), none⟩,
  ⟨some 17, .load (some 9) (.t 1), some (16, true)⟩,
  ⟨some 18, .call (.k (.d (.func (.func 108) [] []))) [(.t 17)], some (16, true)⟩,
  ⟨some 19, .pick (.t 16) (.t 18) (.k (.d (.bool false))), none⟩,
  ⟨some 20, .mov (.t 19), none⟩,
  ⟨some 21, .faddr 4 (.t 1), some (20, true)⟩,
  ⟨some 22, .load none (.t 21), some (20, true)⟩,
  ⟨some 23, .bin .eql (.t 22) (.k (.d (.int .i64 0))), some (20, true)⟩,
  ⟨some 24, .pick (.t 20) (.t 23) (.k (.d (.bool false))), none⟩,
  ⟨some 25, .mov (.t 24), none⟩,
  ⟨some 26, .faddr 5 (.t 1), some (25, true)⟩,
  ⟨some 27, .load none (.t 26), some (25, true)⟩,
  ⟨some 28, .bin .eql (.t 27) (.k (.d (.int .i64 0))), some (25, true)⟩,
  ⟨some 29, .pick (.t 25) (.t 28) (.k (.d (.bool false))), none⟩,
  ⟨some 2, .mov (.t 29), none⟩]
noncomputable def s82 : SCode := (.seq (.region s82r0 1 []) (.seq (.region s82r1 0 []) .ret))
theorem e82 : AWp P k0 s82 Q st = AWp P k0 (.seq (.region s82r0 1 []) (.seq (.region s82r1 0 []) .ret)) Q st := rfl
theorem u82r0 : goReg P s82r0 o p Q st = goLit P (litOf s82r0.eq_1) o p Q st := goReg_of _
theorem u82r1 : goReg P s82r1 o p Q st = goLit P (litOf s82r1.eq_1) o p Q st := goReg_of _
attribute [go_sem] u82r0 u82r1 e82
set_option maxRecDepth 100000 in
theorem F82 : FnIs Try.prog 82 Try.f82 [] news s82 [.tmp 2] 30 := ⟨follows, Try.func82, by kernel_rfl, by kernel_rfl, by kernel_rfl, by kernel_rfl⟩

noncomputable def s104r0 : List SOper := [
  ⟨some 1, .box 1 (.t 0), none⟩,
  ⟨some 2, .mov (.k (.d (.bool false))), none⟩]
noncomputable def s104r1 : List SOper := [
  ⟨some 3, .load (some 3) (.t 1), none⟩,
  ⟨some 4, .call (.k (.d (.func (.func 105) [] []))) [(.t 3)], none⟩,
  ⟨some 5, .not (.t 4), none⟩,
  ⟨some 2, .mov (.t 5), none⟩]
noncomputable def s104 : SCode := (.seq (.region s104r0 1 []) (.seq (.region s104r1 0 []) .ret))
theorem e104 : AWp P k0 s104 Q st = AWp P k0 (.seq (.region s104r0 1 []) (.seq (.region s104r1 0 []) .ret)) Q st := rfl
theorem u104r0 : goReg P s104r0 o p Q st = goLit P (litOf s104r0.eq_1) o p Q st := goReg_of _
theorem u104r1 : goReg P s104r1 o p Q st = goLit P (litOf s104r1.eq_1) o p Q st := goReg_of _
attribute [go_sem] u104r0 u104r1 e104
set_option maxRecDepth 100000 in
theorem F104 : FnIs Try.prog 104 Try.f104 [] news s104 [.tmp 2] 6 := ⟨follows, Try.func104, by kernel_rfl, by kernel_rfl, by kernel_rfl, by kernel_rfl⟩

noncomputable def s107r0 : List SOper := [
  ⟨some 2, .mov (.k (.d (.bool false))), none⟩]
noncomputable def s107r1 : List SOper := [
  ⟨some 3, .mov (.t 0), none⟩,
  ⟨some 4, .bin .lss (.t 3) (.k (.d (.int .i64 0))), none⟩,
  ⟨some 5, .mov (.t 4), none⟩,
  ⟨some 6, .mov (.t 0), some (5, false)⟩,
  ⟨some 7, .bin .gtr (.t 6) (.k (.d (.int .i64 1099511627776))), some (5, false)⟩,
  ⟨some 8, .pick (.t 5) (.k (.d (.bool true))) (.t 7), none⟩,
  ⟨some 2, .mov (.t 8), none⟩]
noncomputable def s107 : SCode := (.seq (.region s107r0 0 []) (.seq (.region s107r1 0 []) .ret))
theorem e107 : AWp P k0 s107 Q st = AWp P k0 (.seq (.region s107r0 0 []) (.seq (.region s107r1 0 []) .ret)) Q st := rfl
theorem u107r0 : goReg P s107r0 o p Q st = goLit P (litOf s107r0.eq_1) o p Q st := goReg_of _
theorem u107r1 : goReg P s107r1 o p Q st = goLit P (litOf s107r1.eq_1) o p Q st := goReg_of _
attribute [go_sem] u107r0 u107r1 e107
set_option maxRecDepth 100000 in
theorem F107 : FnIs Try.prog 107 Try.f107 [] news s107 [.tmp 2] 9 := ⟨follows, Try.func107, by kernel_rfl, by kernel_rfl, by kernel_rfl, by kernel_rfl⟩

end

def role (n : Int) : Bool := decide (n ≥ 0) && decide (n < 6)

theorem role_ok (n : Int) : ACall Try.prog 109 [.d (.int .i64 n)] [] (.d (.bool (role n))) [] := by
  first | refine F109.go ?_ | refine F109.goT ?_
  simp only [go_sem, Nat.reduceAdd, Nat.reduceMul, Nat.reduceSub, Nat.reduceEqDiff, Nat.reduceLT, Nat.reduceLeDiff, Nat.reduceBEq, reduceIte, reduceCtorEq, Int.reduceAdd, Int.reduceLT, Int.reduceLE, Int.reduceGT, Int.reduceGE, Int.reduceEq, Int.reduceNe, Int.reduceBEq, Int.reduceBNe, Int.reduceToNat, Int.reduceNeg]
  rfl

def proper (v : AV) : Bool := if v.kind == 1 then v.s == [] else if v.kind == 2 then v.n == 0 && decide ((v.s.length : Int) ≤ 40) else false

theorem proper_ok (v : AV) : ACall Try.prog 105 [.d (.agg (encAV v))] [] (.d (.bool (proper v))) [] := by
  first | refine F105.go ?_ | refine F105.goT ?_
  simp only [encAV, go_sem, Nat.reduceAdd, Nat.reduceMul, Nat.reduceSub, Nat.reduceEqDiff, Nat.reduceLT, Nat.reduceLeDiff, Nat.reduceBEq, reduceIte, reduceCtorEq, Int.reduceAdd, Int.reduceLT, Int.reduceLE, Int.reduceGT, Int.reduceGE, Int.reduceEq, Int.reduceNe, Int.reduceBEq, Int.reduceBNe, Int.reduceToNat, Int.reduceNeg]
  refine AWp_cond _ rfl rfl (fun h => ?_) (fun h => ?_)
  · simp only [proper, h, go_sem, Nat.reduceAdd, Nat.reduceMul, Nat.reduceSub, Nat.reduceEqDiff, Nat.reduceLT, Nat.reduceLeDiff, Nat.reduceBEq, reduceIte, reduceCtorEq, Int.reduceAdd, Int.reduceLT, Int.reduceLE, Int.reduceGT, Int.reduceGE, Int.reduceEq, Int.reduceNe, Int.reduceBEq, Int.reduceBNe, Int.reduceToNat, Int.reduceNeg]
  · simp only [go_sem, Nat.reduceAdd, Nat.reduceMul, Nat.reduceSub, Nat.reduceEqDiff, Nat.reduceLT, Nat.reduceLeDiff, Nat.reduceBEq, reduceIte, reduceCtorEq, Int.reduceAdd, Int.reduceLT, Int.reduceLE, Int.reduceGT, Int.reduceGE, Int.reduceEq, Int.reduceNe, Int.reduceBEq, Int.reduceBNe, Int.reduceToNat, Int.reduceNeg]
    refine AWp_cond _ rfl rfl (fun h2 => ?_) (fun h2 => ?_)
    · simp only [proper, h, h2, go_sem, Nat.reduceAdd, Nat.reduceMul, Nat.reduceSub, Nat.reduceEqDiff, Nat.reduceLT, Nat.reduceLeDiff, Nat.reduceBEq, reduceIte, reduceCtorEq, Int.reduceAdd, Int.reduceLT, Int.reduceLE, Int.reduceGT, Int.reduceGE, Int.reduceEq, Int.reduceNe, Int.reduceBEq, Int.reduceBNe, Int.reduceToNat, Int.reduceNeg]
    · simp only [proper, h, h2, go_sem, Nat.reduceAdd, Nat.reduceMul, Nat.reduceSub, Nat.reduceEqDiff, Nat.reduceLT, Nat.reduceLeDiff, Nat.reduceBEq, reduceIte, reduceCtorEq, Int.reduceAdd, Int.reduceLT, Int.reduceLE, Int.reduceGT, Int.reduceGE, Int.reduceEq, Int.reduceNe, Int.reduceBEq, Int.reduceBNe, Int.reduceToNat, Int.reduceNeg]

def numbered (p : Pk) : Bool := role p.from_ && role p.to && p.from_ != p.to && decide (p.seq ≥ 1) && decide (p.seq ≤ 1099511627776)

theorem numbered_ok (p : Pk) : ACall Try.prog 102 [.d (.agg (encPk p))] [] (.d (.bool (numbered p))) [] := by
  first | refine F102.go ?_ | refine F102.goT ?_
  simp only [encPk, go_sem, Nat.reduceAdd, Nat.reduceMul, Nat.reduceSub, Nat.reduceEqDiff, Nat.reduceLT, Nat.reduceLeDiff, Nat.reduceBEq, reduceIte, reduceCtorEq, Int.reduceAdd, Int.reduceLT, Int.reduceLE, Int.reduceGT, Int.reduceGE, Int.reduceEq, Int.reduceNe, Int.reduceBEq, Int.reduceBNe, Int.reduceToNat, Int.reduceNeg]
  refine callO_pure (role_ok _) F109.body (fun h => h) (fun _ => ⟨matchA_refl, trivial⟩) rfl rfl rfl ?_
  simp only [go_sem, Nat.reduceAdd, Nat.reduceMul, Nat.reduceSub, Nat.reduceEqDiff, Nat.reduceLT, Nat.reduceLeDiff, Nat.reduceBEq, reduceIte, reduceCtorEq, Int.reduceAdd, Int.reduceLT, Int.reduceLE, Int.reduceGT, Int.reduceGE, Int.reduceEq, Int.reduceNe, Int.reduceBEq, Int.reduceBNe, Int.reduceToNat, Int.reduceNeg]
  refine callO_pure (role_ok _) F109.body (fun h => h) (fun _ => ⟨matchA_refl, trivial⟩) rfl rfl rfl ?_
  simp only [go_sem, Nat.reduceAdd, Nat.reduceMul, Nat.reduceSub, Nat.reduceEqDiff, Nat.reduceLT, Nat.reduceLeDiff, Nat.reduceBEq, reduceIte, reduceCtorEq, Int.reduceAdd, Int.reduceLT, Int.reduceLE, Int.reduceGT, Int.reduceGE, Int.reduceEq, Int.reduceNe, Int.reduceBEq, Int.reduceBNe, Int.reduceToNat, Int.reduceNeg]
  rfl

def bare (p : Pk) : Bool := p.epoch == 0 && (p.values.length : Int) == 0 && (p.clock.length : Int) == 0

theorem bare_ok (p : Pk) : ACall Try.prog 108 [.d (.agg (encPk p))] [] (.d (.bool (bare p))) [] := by
  first | refine F108.go ?_ | refine F108.goT ?_
  simp only [encPk, go_sem, Nat.reduceAdd, Nat.reduceMul, Nat.reduceSub, Nat.reduceEqDiff, Nat.reduceLT, Nat.reduceLeDiff, Nat.reduceBEq, reduceIte, reduceCtorEq, Int.reduceAdd, Int.reduceLT, Int.reduceLE, Int.reduceGT, Int.reduceGE, Int.reduceEq, Int.reduceNe, Int.reduceBEq, Int.reduceBNe, Int.reduceToNat, Int.reduceNeg]
  rfl

theorem noPtr_pk (p : Pk) : ([ASlot.d (.agg (encPk p))].all ASlot.noPtr) = true := by
  simp only [List.all_cons, List.all_nil, ASlot.noPtr, D.noPtr, encPk_noPtr, Bool.and_self]

def ack (p : Pk) : Bool := numbered p && bare p && p.label == 0

theorem ack_ok (p : Pk) : ACall Try.prog 81 [.d (.agg (encPk p))] [] (.d (.bool (ack p))) [] := by
  first | refine F81.go ?_ | refine F81.goT ?_
  simp only [encPk, go_sem, Nat.reduceAdd, Nat.reduceMul, Nat.reduceSub, Nat.reduceEqDiff, Nat.reduceLT, Nat.reduceLeDiff, Nat.reduceBEq, reduceIte, reduceCtorEq, Int.reduceAdd, Int.reduceLT, Int.reduceLE, Int.reduceGT, Int.reduceGE, Int.reduceEq, Int.reduceNe, Int.reduceBEq, Int.reduceBNe, Int.reduceToNat, Int.reduceNeg]
  refine callO_pure (numbered_ok p) F102.body (fun h => h) (fun _ => ⟨matchA_refl, trivial⟩) (noPtr_pk p) rfl rfl ?_
  simp only [go_sem, Nat.reduceAdd, Nat.reduceMul, Nat.reduceSub, Nat.reduceEqDiff, Nat.reduceLT, Nat.reduceLeDiff, Nat.reduceBEq, reduceIte, reduceCtorEq, Int.reduceAdd, Int.reduceLT, Int.reduceLE, Int.reduceGT, Int.reduceGE, Int.reduceEq, Int.reduceNe, Int.reduceBEq, Int.reduceBNe, Int.reduceToNat, Int.reduceNeg]
  refine callO_pure (bare_ok p) F108.body (fun h => h) (fun _ => ⟨matchA_refl, trivial⟩) (noPtr_pk p) rfl rfl ?_
  simp only [go_sem, Nat.reduceAdd, Nat.reduceMul, Nat.reduceSub, Nat.reduceEqDiff, Nat.reduceLT, Nat.reduceLeDiff, Nat.reduceBEq, reduceIte, reduceCtorEq, Int.reduceAdd, Int.reduceLT, Int.reduceLE, Int.reduceGT, Int.reduceGE, Int.reduceEq, Int.reduceNe, Int.reduceBEq, Int.reduceBNe, Int.reduceToNat, Int.reduceNeg]
  rfl

def order (p : Pk) : Bool := role p.from_ && (p.label == 1 || p.label == 2) && bare p && p.to == 0 && p.seq == 0

theorem order_ok (p : Pk) : ACall Try.prog 82 [.d (.agg (encPk p))] [] (.d (.bool (order p))) [] := by
  first | refine F82.go ?_ | refine F82.goT ?_
  simp only [encPk, go_sem, Nat.reduceAdd, Nat.reduceMul, Nat.reduceSub, Nat.reduceEqDiff, Nat.reduceLT, Nat.reduceLeDiff, Nat.reduceBEq, reduceIte, reduceCtorEq, Int.reduceAdd, Int.reduceLT, Int.reduceLE, Int.reduceGT, Int.reduceGE, Int.reduceEq, Int.reduceNe, Int.reduceBEq, Int.reduceBNe, Int.reduceToNat, Int.reduceNeg]
  refine callO_pure (role_ok _) F109.body (fun h => h) (fun _ => ⟨matchA_refl, trivial⟩) rfl rfl rfl ?_
  simp only [go_sem, Nat.reduceAdd, Nat.reduceMul, Nat.reduceSub, Nat.reduceEqDiff, Nat.reduceLT, Nat.reduceLeDiff, Nat.reduceBEq, reduceIte, reduceCtorEq, Int.reduceAdd, Int.reduceLT, Int.reduceLE, Int.reduceGT, Int.reduceGE, Int.reduceEq, Int.reduceNe, Int.reduceBEq, Int.reduceBNe, Int.reduceToNat, Int.reduceNeg]
  refine ⟨by simp_all, ?_⟩
  refine callO_pure (bare_ok p) F108.body (fun h => h) (fun _ => ⟨matchA_refl, trivial⟩) (noPtr_pk p) rfl rfl ?_
  simp only [go_sem, Nat.reduceAdd, Nat.reduceMul, Nat.reduceSub, Nat.reduceEqDiff, Nat.reduceLT, Nat.reduceLeDiff, Nat.reduceBEq, reduceIte, reduceCtorEq, Int.reduceAdd, Int.reduceLT, Int.reduceLE, Int.reduceGT, Int.reduceGE, Int.reduceEq, Int.reduceNe, Int.reduceBEq, Int.reduceBNe, Int.reduceToNat, Int.reduceNeg]
  rfl

theorem data1_ok (v : AV) : ACall Try.prog 104 [.d (.agg (encAV v))] [] (.d (.bool (!proper v))) [] := by
  first | refine F104.go ?_ | refine F104.goT ?_
  simp only [encAV, go_sem, Nat.reduceAdd, Nat.reduceMul, Nat.reduceSub, Nat.reduceEqDiff, Nat.reduceLT, Nat.reduceLeDiff, Nat.reduceBEq, reduceIte, reduceCtorEq, Int.reduceAdd, Int.reduceLT, Int.reduceLE, Int.reduceGT, Int.reduceGE, Int.reduceEq, Int.reduceNe, Int.reduceBEq, Int.reduceBNe, Int.reduceToNat, Int.reduceNeg]
  refine callO_pure (proper_ok v) F105.body (fun h => h) (fun _ => ⟨matchA_refl, trivial⟩) rfl rfl rfl ?_
  simp only [go_sem, Nat.reduceAdd, Nat.reduceMul, Nat.reduceSub, Nat.reduceEqDiff, Nat.reduceLT, Nat.reduceLeDiff, Nat.reduceBEq, reduceIte, reduceCtorEq, Int.reduceAdd, Int.reduceLT, Int.reduceLE, Int.reduceGT, Int.reduceGE, Int.reduceEq, Int.reduceNe, Int.reduceBEq, Int.reduceBNe, Int.reduceToNat, Int.reduceNeg]

theorem data2_ok (n : Int) : ACall Try.prog 107 [.d (.int .i64 n)] [] (.d (.bool (decide (n < 0) || decide (n > 1099511627776)))) [] := by
  first | refine F107.go ?_ | refine F107.goT ?_
  simp only [go_sem, Nat.reduceAdd, Nat.reduceMul, Nat.reduceSub, Nat.reduceEqDiff, Nat.reduceLT, Nat.reduceLeDiff, Nat.reduceBEq, reduceIte, reduceCtorEq, Int.reduceAdd, Int.reduceLT, Int.reduceLE, Int.reduceGT, Int.reduceGE, Int.reduceEq, Int.reduceNe, Int.reduceBEq, Int.reduceBNe, Int.reduceToNat, Int.reduceNeg]
  intro h
  rw [h]; rfl
end Go.Proofs.Ythcpckcgjplhiaa

/- Functions of Go's slices package at the types of packets. -/
namespace Go.Proofs.Ythcpckcgjplhiaa
open Go.Abs
set_option linter.unusedSimpArgs false

/-- The number of the first element that a test lets by; -1: none. -/
def idx {α : Type} (f : α → Bool) (l : List α) : Int := if l.any f then (l.findIdx f : Int) else -1

theorem idx_none {α : Type} {f : α → Bool} {l : List α} {i : Nat} (h : (l.take i).any f = false) (hi : l.length ≤ i) : idx f l = -1 := by
  rw [List.take_of_length_le hi] at h
  simp [idx, h]

theorem idx_some {α : Type} {f : α → Bool} {l : List α} {i : Nat} (h : (l.take i).any f = false) (hi : i < l.length) (hf : f l[i] = true) : idx f l = (i : Int) := by
  have ha : l.any f = true := List.any_eq_true.2 ⟨l[i], List.getElem_mem hi, hf⟩
  have hx : l.findIdx f = i := by
    rw [List.findIdx_eq hi]
    refine ⟨hf, fun j hj => ?_⟩
    rw [List.any_eq_false] at h
    have hj' : j < (l.take i).length := by simp; omega
    have := h (l.take i)[j] (List.getElem_mem hj')
    simpa using this
  simp [idx, ha, hx]

theorem take_any_succ {α : Type} {f : α → Bool} {l : List α} {i : Nat} (h : (l.take i).any f = false) (hi : i < l.length) (hf : f l[i] = false) : (l.take (i + 1)).any f = false := by
  rw [List.take_succ_eq_append_getElem hi, List.any_append, h]
  simp [hf]

theorem idx_ge {α : Type} (f : α → Bool) (l : List α) : decide (idx f l ≥ 0) = l.any f := by
  unfold idx
  cases l.any f <;> simp

section
variable {P : Program} {k0 o : Nat} {p : List (Nat × Nat)} {Q : SExit → St → Prop} {st : St}
noncomputable def s120r0 : List SOper := [
  ⟨some 4, .mov (.k (.d (.int .i64 0))), none⟩]
noncomputable def s120r1 : List SOper := [
  ⟨some 6, .mov (.t 0), none⟩,
  ⟨some 7, .len (.t 6), none⟩,
  ⟨some 8, .mov (.k (.d (.int .i64 0))), none⟩]
noncomputable def s120r2 : List SOper := [
  ⟨some 9, .bin .lss (.t 8) (.t 7), none⟩]
noncomputable def s120r3 : List SOper := [
  ⟨some 10, .mov (.t 8), none⟩,
  ⟨some 5, .mov (.t 10), none⟩]
noncomputable def s120r4 : List SOper := [
  ⟨some 11, .mov (.t 1), none⟩,
  ⟨some 12, .mov (.t 0), none⟩,
  ⟨some 13, .mov (.t 5), none⟩,
  ⟨some 14, .iaddr 3 (.t 12) (.t 13), none⟩,
  ⟨some 15, .load (some 3) (.t 14), none⟩,
  ⟨some 16, .call (.t 11) [(.t 15)], none⟩]
noncomputable def s120r5 : List SOper := [
  ⟨some 17, .mov (.t 5), none⟩,
  ⟨some 4, .mov (.t 17), none⟩]
noncomputable def s120r6 : List SOper := [
  ⟨some 18, .bin .add (.t 8) (.k (.d (.int .i64 1))), none⟩,
  ⟨some 8, .mov (.t 18), none⟩]
noncomputable def s120l7 : SCode := (.seq (.region s120r2 0 []) (.seq (.cond (.t 9) .skip (.exit 0)) (.seq (.block 1 (.seq (.region s120r3 0 []) (.seq (.region s120r4 0 []) (.cond (.t 16) (.seq (.region s120r5 0 []) .ret) .skip)))) (.region s120r6 0 []))))
theorem e120l7 : AWp P k0 s120l7 Q st = AWp P k0 (.seq (.region s120r2 0 []) (.seq (.cond (.t 9) .skip (.exit 0)) (.seq (.block 1 (.seq (.region s120r3 0 []) (.seq (.region s120r4 0 []) (.cond (.t 16) (.seq (.region s120r5 0 []) .ret) .skip)))) (.region s120r6 0 [])))) Q st := rfl
noncomputable def s120r8 : List SOper := [
  ⟨some 4, .mov (.k (.d (.int .i64 (-1)))), none⟩]
noncomputable def s120 : SCode := (.seq (.region s120r0 0 []) (.seq (.seq (.region s120r1 0 []) (.block 0 (.loop s120l7))) (.seq (.region s120r8 0 []) .ret)))
theorem e120 : AWp P k0 s120 Q st = AWp P k0 (.seq (.region s120r0 0 []) (.seq (.seq (.region s120r1 0 []) (.block 0 (.loop s120l7))) (.seq (.region s120r8 0 []) .ret))) Q st := rfl
theorem u120r0 : goReg P s120r0 o p Q st = goLit P (litOf s120r0.eq_1) o p Q st := goReg_of _
theorem u120r1 : goReg P s120r1 o p Q st = goLit P (litOf s120r1.eq_1) o p Q st := goReg_of _
theorem u120r2 : goReg P s120r2 o p Q st = goLit P (litOf s120r2.eq_1) o p Q st := goReg_of _
theorem u120r3 : goReg P s120r3 o p Q st = goLit P (litOf s120r3.eq_1) o p Q st := goReg_of _
theorem u120r4 : goReg P s120r4 o p Q st = goLit P (litOf s120r4.eq_1) o p Q st := goReg_of _
theorem u120r5 : goReg P s120r5 o p Q st = goLit P (litOf s120r5.eq_1) o p Q st := goReg_of _
theorem u120r6 : goReg P s120r6 o p Q st = goLit P (litOf s120r6.eq_1) o p Q st := goReg_of _
theorem u120r8 : goReg P s120r8 o p Q st = goLit P (litOf s120r8.eq_1) o p Q st := goReg_of _
attribute [go_sem] u120r0 u120r1 u120r2 u120r3 u120r4 u120r5 u120r6 e120l7 u120r8 e120
set_option maxRecDepth 100000 in
theorem F120 : FnIs Try.prog 120 Try.f120 [] news s120 [.tmp 4] 19 := ⟨follows, Try.func120, by kernel_rfl, by kernel_rfl, by kernel_rfl, by kernel_rfl⟩

noncomputable def s121r0 : List SOper := [
  ⟨some 4, .mov (.k (.d (.int .i64 0))), none⟩]
noncomputable def s121r1 : List SOper := [
  ⟨some 6, .mov (.t 0), none⟩,
  ⟨some 7, .len (.t 6), none⟩,
  ⟨some 8, .mov (.k (.d (.int .i64 0))), none⟩]
noncomputable def s121r2 : List SOper := [
  ⟨some 9, .bin .lss (.t 8) (.t 7), none⟩]
noncomputable def s121r3 : List SOper := [
  ⟨some 10, .mov (.t 8), none⟩,
  ⟨some 5, .mov (.t 10), none⟩]
noncomputable def s121r4 : List SOper := [
  ⟨some 11, .mov (.t 1), none⟩,
  ⟨some 12, .mov (.t 0), none⟩,
  ⟨some 13, .mov (.t 5), none⟩,
  ⟨some 14, .iaddr 1 (.t 12) (.t 13), none⟩,
  ⟨some 15, .load none (.t 14), none⟩,
  ⟨some 16, .call (.t 11) [(.t 15)], none⟩]
noncomputable def s121r5 : List SOper := [
  ⟨some 17, .mov (.t 5), none⟩,
  ⟨some 4, .mov (.t 17), none⟩]
noncomputable def s121r6 : List SOper := [
  ⟨some 18, .bin .add (.t 8) (.k (.d (.int .i64 1))), none⟩,
  ⟨some 8, .mov (.t 18), none⟩]
noncomputable def s121l7 : SCode := (.seq (.region s121r2 0 []) (.seq (.cond (.t 9) .skip (.exit 0)) (.seq (.block 1 (.seq (.region s121r3 0 []) (.seq (.region s121r4 0 []) (.cond (.t 16) (.seq (.region s121r5 0 []) .ret) .skip)))) (.region s121r6 0 []))))
theorem e121l7 : AWp P k0 s121l7 Q st = AWp P k0 (.seq (.region s121r2 0 []) (.seq (.cond (.t 9) .skip (.exit 0)) (.seq (.block 1 (.seq (.region s121r3 0 []) (.seq (.region s121r4 0 []) (.cond (.t 16) (.seq (.region s121r5 0 []) .ret) .skip)))) (.region s121r6 0 [])))) Q st := rfl
noncomputable def s121r8 : List SOper := [
  ⟨some 4, .mov (.k (.d (.int .i64 (-1)))), none⟩]
noncomputable def s121 : SCode := (.seq (.region s121r0 0 []) (.seq (.seq (.region s121r1 0 []) (.block 0 (.loop s121l7))) (.seq (.region s121r8 0 []) .ret)))
theorem e121 : AWp P k0 s121 Q st = AWp P k0 (.seq (.region s121r0 0 []) (.seq (.seq (.region s121r1 0 []) (.block 0 (.loop s121l7))) (.seq (.region s121r8 0 []) .ret))) Q st := rfl
theorem u121r0 : goReg P s121r0 o p Q st = goLit P (litOf s121r0.eq_1) o p Q st := goReg_of _
theorem u121r1 : goReg P s121r1 o p Q st = goLit P (litOf s121r1.eq_1) o p Q st := goReg_of _
theorem u121r2 : goReg P s121r2 o p Q st = goLit P (litOf s121r2.eq_1) o p Q st := goReg_of _
theorem u121r3 : goReg P s121r3 o p Q st = goLit P (litOf s121r3.eq_1) o p Q st := goReg_of _
theorem u121r4 : goReg P s121r4 o p Q st = goLit P (litOf s121r4.eq_1) o p Q st := goReg_of _
theorem u121r5 : goReg P s121r5 o p Q st = goLit P (litOf s121r5.eq_1) o p Q st := goReg_of _
theorem u121r6 : goReg P s121r6 o p Q st = goLit P (litOf s121r6.eq_1) o p Q st := goReg_of _
theorem u121r8 : goReg P s121r8 o p Q st = goLit P (litOf s121r8.eq_1) o p Q st := goReg_of _
attribute [go_sem] u121r0 u121r1 u121r2 u121r3 u121r4 u121r5 u121r6 e121l7 u121r8 e121
set_option maxRecDepth 100000 in
theorem F121 : FnIs Try.prog 121 Try.f121 [] news s121 [.tmp 4] 19 := ⟨follows, Try.func121, by kernel_rfl, by kernel_rfl, by kernel_rfl, by kernel_rfl⟩

noncomputable def s103r0 : List SOper := [
  ⟨some 4, .mov (.k (.d (.bool false))), none⟩]
noncomputable def s103r1 : List SOper := [
  ⟨some 5, .mov (.t 0), none⟩,
  ⟨some 6, .mov (.t 1), none⟩,
  ⟨some 7, .call (.k (.d (.func (.func 120) [] []))) [(.t 5), (.t 6)], none⟩,
  ⟨some 8, .bin .geq (.t 7) (.k (.d (.int .i64 0))), none⟩,
  ⟨some 4, .mov (.t 8), none⟩]
noncomputable def s103 : SCode := (.seq (.region s103r0 0 []) (.seq (.region s103r1 0 []) .ret))
theorem e103 : AWp P k0 s103 Q st = AWp P k0 (.seq (.region s103r0 0 []) (.seq (.region s103r1 0 []) .ret)) Q st := rfl
theorem u103r0 : goReg P s103r0 o p Q st = goLit P (litOf s103r0.eq_1) o p Q st := goReg_of _
theorem u103r1 : goReg P s103r1 o p Q st = goLit P (litOf s103r1.eq_1) o p Q st := goReg_of _
attribute [go_sem] u103r0 u103r1 e103
set_option maxRecDepth 100000 in
theorem F103 : FnIs Try.prog 103 Try.f103 [] news s103 [.tmp 4] 9 := ⟨follows, Try.func103, by kernel_rfl, by kernel_rfl, by kernel_rfl, by kernel_rfl⟩

noncomputable def s106r0 : List SOper := [
  ⟨some 4, .mov (.k (.d (.bool false))), none⟩]
noncomputable def s106r1 : List SOper := [
  ⟨some 5, .mov (.t 0), none⟩,
  ⟨some 6, .mov (.t 1), none⟩,
  ⟨some 7, .call (.k (.d (.func (.func 121) [] []))) [(.t 5), (.t 6)], none⟩,
  ⟨some 8, .bin .geq (.t 7) (.k (.d (.int .i64 0))), none⟩,
  ⟨some 4, .mov (.t 8), none⟩]
noncomputable def s106 : SCode := (.seq (.region s106r0 0 []) (.seq (.region s106r1 0 []) .ret))
theorem e106 : AWp P k0 s106 Q st = AWp P k0 (.seq (.region s106r0 0 []) (.seq (.region s106r1 0 []) .ret)) Q st := rfl
theorem u106r0 : goReg P s106r0 o p Q st = goLit P (litOf s106r0.eq_1) o p Q st := goReg_of _
theorem u106r1 : goReg P s106r1 o p Q st = goLit P (litOf s106r1.eq_1) o p Q st := goReg_of _
attribute [go_sem] u106r0 u106r1 e106
set_option maxRecDepth 100000 in
theorem F106 : FnIs Try.prog 106 Try.f106 [] news s106 [.tmp 4] 9 := ⟨follows, Try.func106, by kernel_rfl, by kernel_rfl, by kernel_rfl, by kernel_rfl⟩

end

def Sidx {α : Type} (es : Nat) (enc : α → List D) (k : FuncId) (l : List α) (f : α → Bool) (i : { i : Nat // (l.take i).any f = false }) : St :=
  ⟨[(0, true, .d (.sl es (l.map enc))), (1, true, .d (.func (.func k) [] [])), (6, true, .d (.sl es (l.map enc))), (7, true, .d (.int .i64 l.length)), (8, true, .d (.int .i64 (i.val : Nat)))], [], [], 1⟩

theorem indexV_ok {k : FuncId} {f : AV → Bool} (hb : (Try.prog.funcs[k]?).any (fun fn => fn.body.isSome && !(fn.name == "runtime.NumGoroutine")) = true)
    (hf : ∀ v, ACall Try.prog k [.d (.agg (encAV v))] [] (.d (.bool (f v))) []) (l : List AV) (hl : l.length ≤ maxLen) :
    ACall Try.prog 120 [.d (.sl 3 (l.map encAV)), .d (.func (.func k) [] [])] [] (.d (.int .i64 (idx f l))) [] := by
  first | refine F120.go ?_ | refine F120.goT ?_
  simp only [go_sem, Nat.reduceAdd, Nat.reduceMul, Nat.reduceSub, Nat.reduceEqDiff, Nat.reduceLT, Nat.reduceLeDiff, Nat.reduceBEq, reduceIte, reduceCtorEq, Int.reduceAdd, Int.reduceLT, Int.reduceLE, Int.reduceGT, Int.reduceGE, Int.reduceEq, Int.reduceNe, Int.reduceBEq, Int.reduceBNe, Int.reduceToNat, Int.reduceNeg]
  refine AWp_loop (Sidx 3 encAV k l f) (fun i => l.length - i.val) ⟨0, rfl⟩ ?_ (fun i => ?_)
  · simp only [Sidx, noPtrR_map encAV_noPtr, go_sem, Nat.reduceAdd, Nat.reduceMul, Nat.reduceSub, Nat.reduceEqDiff, Nat.reduceLT, Nat.reduceLeDiff, Nat.reduceBEq, reduceIte, reduceCtorEq, Int.reduceAdd, Int.reduceLT, Int.reduceLE, Int.reduceGT, Int.reduceGE, Int.reduceEq, Int.reduceNe, Int.reduceBEq, Int.reduceBNe, Int.reduceToNat, Int.reduceNeg]
  · obtain ⟨i, hi⟩ := i
    simp only [Sidx, go_sem, Nat.reduceAdd, Nat.reduceMul, Nat.reduceSub, Nat.reduceEqDiff, Nat.reduceLT, Nat.reduceLeDiff, Nat.reduceBEq, reduceIte, reduceCtorEq, Int.reduceAdd, Int.reduceLT, Int.reduceLE, Int.reduceGT, Int.reduceGE, Int.reduceEq, Int.reduceNe, Int.reduceBEq, Int.reduceBNe, Int.reduceToNat, Int.reduceNeg]
    refine AWp_cond _ rfl rfl (fun h => ?_) (fun h => ?_)
    · have hil : i < l.length := by simpa using h
      simp only [getD_map encAV l hil, encAV, go_sem, Nat.reduceAdd, Nat.reduceMul, Nat.reduceSub, Nat.reduceEqDiff, Nat.reduceLT, Nat.reduceLeDiff, Nat.reduceBEq, reduceIte, reduceCtorEq, Int.reduceAdd, Int.reduceLT, Int.reduceLE, Int.reduceGT, Int.reduceGE, Int.reduceEq, Int.reduceNe, Int.reduceBEq, Int.reduceBNe, Int.reduceToNat, Int.reduceNeg]
      refine ⟨by omega, ?_⟩
      refine callO_pure (hf l[i]) hb (fun h => h) (fun _ => ⟨matchA_refl, trivial⟩) rfl rfl rfl ?_
      simp only [go_sem, Nat.reduceAdd, Nat.reduceMul, Nat.reduceSub, Nat.reduceEqDiff, Nat.reduceLT, Nat.reduceLeDiff, Nat.reduceBEq, reduceIte, reduceCtorEq, Int.reduceAdd, Int.reduceLT, Int.reduceLE, Int.reduceGT, Int.reduceGE, Int.reduceEq, Int.reduceNe, Int.reduceBEq, Int.reduceBNe, Int.reduceToNat, Int.reduceNeg]
      refine AWp_cond _ rfl rfl (fun h2 => ?_) (fun h2 => ?_)
      · simp only [idx_some hi hil h2, go_sem, Nat.reduceAdd, Nat.reduceMul, Nat.reduceSub, Nat.reduceEqDiff, Nat.reduceLT, Nat.reduceLeDiff, Nat.reduceBEq, reduceIte, reduceCtorEq, Int.reduceAdd, Int.reduceLT, Int.reduceLE, Int.reduceGT, Int.reduceGE, Int.reduceEq, Int.reduceNe, Int.reduceBEq, Int.reduceBNe, Int.reduceToNat, Int.reduceNeg]
      · simp only [go_sem, Nat.reduceAdd, Nat.reduceMul, Nat.reduceSub, Nat.reduceEqDiff, Nat.reduceLT, Nat.reduceLeDiff, Nat.reduceBEq, reduceIte, reduceCtorEq, Int.reduceAdd, Int.reduceLT, Int.reduceLE, Int.reduceGT, Int.reduceGE, Int.reduceEq, Int.reduceNe, Int.reduceBEq, Int.reduceBNe, Int.reduceToNat, Int.reduceNeg]
        refine ⟨⟨i + 1, take_any_succ hi hil h2⟩, ?_, by dsimp only; omega⟩
        simp only [Sidx, wrap_succ (show i < 9223372036854775807 by unfold maxLen at hl; omega), noPtrR_map encAV_noPtr, go_sem, Nat.reduceAdd, Nat.reduceMul, Nat.reduceSub, Nat.reduceEqDiff, Nat.reduceLT, Nat.reduceLeDiff, Nat.reduceBEq, reduceIte, reduceCtorEq, Int.reduceAdd, Int.reduceLT, Int.reduceLE, Int.reduceGT, Int.reduceGE, Int.reduceEq, Int.reduceNe, Int.reduceBEq, Int.reduceBNe, Int.reduceToNat, Int.reduceNeg]
    · have hil : l.length ≤ i := by simpa using h
      simp only [idx_none hi hil, go_sem, Nat.reduceAdd, Nat.reduceMul, Nat.reduceSub, Nat.reduceEqDiff, Nat.reduceLT, Nat.reduceLeDiff, Nat.reduceBEq, reduceIte, reduceCtorEq, Int.reduceAdd, Int.reduceLT, Int.reduceLE, Int.reduceGT, Int.reduceGE, Int.reduceEq, Int.reduceNe, Int.reduceBEq, Int.reduceBNe, Int.reduceToNat, Int.reduceNeg]
theorem indexI_ok {k : FuncId} {f : Int → Bool} (hb : (Try.prog.funcs[k]?).any (fun fn => fn.body.isSome && !(fn.name == "runtime.NumGoroutine")) = true)
    (hf : ∀ v, ACall Try.prog k [.d (.int .i64 v)] [] (.d (.bool (f v))) []) (l : List Int) (hl : l.length ≤ maxLen) :
    ACall Try.prog 121 [.d (.sl 1 (l.map encI)), .d (.func (.func k) [] [])] [] (.d (.int .i64 (idx f l))) [] := by
  first | refine F121.go ?_ | refine F121.goT ?_
  simp only [go_sem, Nat.reduceAdd, Nat.reduceMul, Nat.reduceSub, Nat.reduceEqDiff, Nat.reduceLT, Nat.reduceLeDiff, Nat.reduceBEq, reduceIte, reduceCtorEq, Int.reduceAdd, Int.reduceLT, Int.reduceLE, Int.reduceGT, Int.reduceGE, Int.reduceEq, Int.reduceNe, Int.reduceBEq, Int.reduceBNe, Int.reduceToNat, Int.reduceNeg]
  refine AWp_loop (Sidx 1 encI k l f) (fun i => l.length - i.val) ⟨0, rfl⟩ ?_ (fun i => ?_)
  · simp only [Sidx, noPtrR_map encI_noPtr, go_sem, Nat.reduceAdd, Nat.reduceMul, Nat.reduceSub, Nat.reduceEqDiff, Nat.reduceLT, Nat.reduceLeDiff, Nat.reduceBEq, reduceIte, reduceCtorEq, Int.reduceAdd, Int.reduceLT, Int.reduceLE, Int.reduceGT, Int.reduceGE, Int.reduceEq, Int.reduceNe, Int.reduceBEq, Int.reduceBNe, Int.reduceToNat, Int.reduceNeg]
  · obtain ⟨i, hi⟩ := i
    simp only [Sidx, go_sem, Nat.reduceAdd, Nat.reduceMul, Nat.reduceSub, Nat.reduceEqDiff, Nat.reduceLT, Nat.reduceLeDiff, Nat.reduceBEq, reduceIte, reduceCtorEq, Int.reduceAdd, Int.reduceLT, Int.reduceLE, Int.reduceGT, Int.reduceGE, Int.reduceEq, Int.reduceNe, Int.reduceBEq, Int.reduceBNe, Int.reduceToNat, Int.reduceNeg]
    refine AWp_cond _ rfl rfl (fun h => ?_) (fun h => ?_)
    · have hil : i < l.length := by simpa using h
      simp only [getD_map encI l hil, encI, go_sem, Nat.reduceAdd, Nat.reduceMul, Nat.reduceSub, Nat.reduceEqDiff, Nat.reduceLT, Nat.reduceLeDiff, Nat.reduceBEq, reduceIte, reduceCtorEq, Int.reduceAdd, Int.reduceLT, Int.reduceLE, Int.reduceGT, Int.reduceGE, Int.reduceEq, Int.reduceNe, Int.reduceBEq, Int.reduceBNe, Int.reduceToNat, Int.reduceNeg]
      refine ⟨by omega, ?_⟩
      refine callO_pure (hf l[i]) hb (fun h => h) (fun _ => ⟨matchA_refl, trivial⟩) rfl rfl rfl ?_
      simp only [go_sem, Nat.reduceAdd, Nat.reduceMul, Nat.reduceSub, Nat.reduceEqDiff, Nat.reduceLT, Nat.reduceLeDiff, Nat.reduceBEq, reduceIte, reduceCtorEq, Int.reduceAdd, Int.reduceLT, Int.reduceLE, Int.reduceGT, Int.reduceGE, Int.reduceEq, Int.reduceNe, Int.reduceBEq, Int.reduceBNe, Int.reduceToNat, Int.reduceNeg]
      refine AWp_cond _ rfl rfl (fun h2 => ?_) (fun h2 => ?_)
      · simp only [idx_some hi hil h2, go_sem, Nat.reduceAdd, Nat.reduceMul, Nat.reduceSub, Nat.reduceEqDiff, Nat.reduceLT, Nat.reduceLeDiff, Nat.reduceBEq, reduceIte, reduceCtorEq, Int.reduceAdd, Int.reduceLT, Int.reduceLE, Int.reduceGT, Int.reduceGE, Int.reduceEq, Int.reduceNe, Int.reduceBEq, Int.reduceBNe, Int.reduceToNat, Int.reduceNeg]
      · simp only [go_sem, Nat.reduceAdd, Nat.reduceMul, Nat.reduceSub, Nat.reduceEqDiff, Nat.reduceLT, Nat.reduceLeDiff, Nat.reduceBEq, reduceIte, reduceCtorEq, Int.reduceAdd, Int.reduceLT, Int.reduceLE, Int.reduceGT, Int.reduceGE, Int.reduceEq, Int.reduceNe, Int.reduceBEq, Int.reduceBNe, Int.reduceToNat, Int.reduceNeg]
        refine ⟨⟨i + 1, take_any_succ hi hil h2⟩, ?_, by dsimp only; omega⟩
        simp only [Sidx, wrap_succ (show i < 9223372036854775807 by unfold maxLen at hl; omega), noPtrR_map encI_noPtr, go_sem, Nat.reduceAdd, Nat.reduceMul, Nat.reduceSub, Nat.reduceEqDiff, Nat.reduceLT, Nat.reduceLeDiff, Nat.reduceBEq, reduceIte, reduceCtorEq, Int.reduceAdd, Int.reduceLT, Int.reduceLE, Int.reduceGT, Int.reduceGE, Int.reduceEq, Int.reduceNe, Int.reduceBEq, Int.reduceBNe, Int.reduceToNat, Int.reduceNeg]
    · have hil : l.length ≤ i := by simpa using h
      simp only [idx_none hi hil, go_sem, Nat.reduceAdd, Nat.reduceMul, Nat.reduceSub, Nat.reduceEqDiff, Nat.reduceLT, Nat.reduceLeDiff, Nat.reduceBEq, reduceIte, reduceCtorEq, Int.reduceAdd, Int.reduceLT, Int.reduceLE, Int.reduceGT, Int.reduceGE, Int.reduceEq, Int.reduceNe, Int.reduceBEq, Int.reduceBNe, Int.reduceToNat, Int.reduceNeg]

theorem containsV_ok {k : FuncId} {f : AV → Bool} (hb : (Try.prog.funcs[k]?).any (fun fn => fn.body.isSome && !(fn.name == "runtime.NumGoroutine")) = true)
    (hf : ∀ v, ACall Try.prog k [.d (.agg (encAV v))] [] (.d (.bool (f v))) []) (l : List AV) (hl : l.length ≤ maxLen) :
    ACall Try.prog 103 [.d (.sl 3 (l.map encAV)), .d (.func (.func k) [] [])] [] (.d (.bool (l.any f))) [] := by
  first | refine F103.go ?_ | refine F103.goT ?_
  simp only [go_sem, Nat.reduceAdd, Nat.reduceMul, Nat.reduceSub, Nat.reduceEqDiff, Nat.reduceLT, Nat.reduceLeDiff, Nat.reduceBEq, reduceIte, reduceCtorEq, Int.reduceAdd, Int.reduceLT, Int.reduceLE, Int.reduceGT, Int.reduceGE, Int.reduceEq, Int.reduceNe, Int.reduceBEq, Int.reduceBNe, Int.reduceToNat, Int.reduceNeg]
  refine callO_pure (indexV_ok hb hf l hl) F120.body (fun h => h) (fun _ => ⟨matchA_refl, matchA_refl, trivial⟩) (by simp [ASlot.noPtr, D.noPtr, D.noPtrL, noPtrR_map encAV_noPtr]) rfl rfl ?_
  simp only [idx_ge, go_sem, Nat.reduceAdd, Nat.reduceMul, Nat.reduceSub, Nat.reduceEqDiff, Nat.reduceLT, Nat.reduceLeDiff, Nat.reduceBEq, reduceIte, reduceCtorEq, Int.reduceAdd, Int.reduceLT, Int.reduceLE, Int.reduceGT, Int.reduceGE, Int.reduceEq, Int.reduceNe, Int.reduceBEq, Int.reduceBNe, Int.reduceToNat, Int.reduceNeg]


theorem containsI_ok {k : FuncId} {f : Int → Bool} (hb : (Try.prog.funcs[k]?).any (fun fn => fn.body.isSome && !(fn.name == "runtime.NumGoroutine")) = true)
    (hf : ∀ v, ACall Try.prog k [.d (.int .i64 v)] [] (.d (.bool (f v))) []) (l : List Int) (hl : l.length ≤ maxLen) :
    ACall Try.prog 106 [.d (.sl 1 (l.map encI)), .d (.func (.func k) [] [])] [] (.d (.bool (l.any f))) [] := by
  first | refine F106.go ?_ | refine F106.goT ?_
  simp only [go_sem, Nat.reduceAdd, Nat.reduceMul, Nat.reduceSub, Nat.reduceEqDiff, Nat.reduceLT, Nat.reduceLeDiff, Nat.reduceBEq, reduceIte, reduceCtorEq, Int.reduceAdd, Int.reduceLT, Int.reduceLE, Int.reduceGT, Int.reduceGE, Int.reduceEq, Int.reduceNe, Int.reduceBEq, Int.reduceBNe, Int.reduceToNat, Int.reduceNeg]
  refine callO_pure (indexI_ok hb hf l hl) F121.body (fun h => h) (fun _ => ⟨matchA_refl, matchA_refl, trivial⟩) (by simp [ASlot.noPtr, D.noPtr, D.noPtrL, noPtrR_map encI_noPtr]) rfl rfl ?_
  simp only [idx_ge, go_sem, Nat.reduceAdd, Nat.reduceMul, Nat.reduceSub, Nat.reduceEqDiff, Nat.reduceLT, Nat.reduceLeDiff, Nat.reduceBEq, reduceIte, reduceCtorEq, Int.reduceAdd, Int.reduceLT, Int.reduceLE, Int.reduceGT, Int.reduceGE, Int.reduceEq, Int.reduceNe, Int.reduceBEq, Int.reduceBNe, Int.reduceToNat, Int.reduceNeg]


section
variable {P : Program} {k0 o : Nat} {p : List (Nat × Nat)} {Q : SExit → St → Prop} {st : St}
noncomputable def s80r0 : List SOper := [
  ⟨some 1, .box 1 (.t 0), none⟩,
  ⟨some 2, .mov (.k (.d (.bool false))), none⟩]
noncomputable def s80r1 : List SOper := [
  ⟨some 3, .load (some 9) (.t 1), none⟩,
  ⟨some 4, .call (.k (.d (.func (.func 102) [] []))) [(.t 3)], none⟩,
  ⟨some 5, .mov (.t 4), none⟩,
  ⟨some 6, .faddr 2 (.t 1), some (5, true)⟩,
  ⟨some 7, .load none (.t 6), some (5, true)⟩,
  ⟨some 8, .bin .eql (.t 7) (.k (.d (.int .i64 0))), some (5, true)⟩,
  ⟨some 9, .mov (.t 8), some (5, true)⟩,
  ⟨some 10, .faddr 2 (.t 1), some (9, false)⟩,
  ⟨some 11, .load none (.t 10), some (9, false)⟩,
  ⟨some 12, .bin .eql (.t 11) (.k (.d (.int .i64 1))), some (9, false)⟩,
  ⟨some 13, .pick (.t 9) (.k (.d (.bool true))) (.t 12), some (5, true)⟩,
  ⟨some 14, .pick (.t 5) (.t 13) (.k (.d (.bool false))), none⟩,
  ⟨some 15, .mov (.t 14), none⟩,
  ⟨some 16, .faddr 6 (.t 1), some (15, true)⟩,
  ⟨some 17, .load none (.t 16), some (15, true)⟩,
  ⟨some 18, .bin .geq (.t 17) (.k (.d (.int .i64 0))), some (15, true)⟩,
  ⟨some 19, .pick (.t 15) (.t 18) (.k (.d (.bool false))), none⟩,
  ⟨some 20, .mov (.t 19), none⟩,
  ⟨some 21, .faddr 6 (.t 1), some (20, true)⟩,
  ⟨some 22, .load none (.t 21), some (20, true)⟩,
  ⟨some 23, .bin .lss (.t 22) (.k (.d (.int .i64 40))), some (20, true)⟩,
  ⟨some 24, .pick (.t 20) (.t 23) (.k (.d (.bool false))), none⟩,
  ⟨some 25, .mov (.t 24), none⟩,
  ⟨some 26, .faddr 7 (.t 1), some (25, true)⟩,
  ⟨some 27, .load none (.t 26), some (25, true)⟩,
  ⟨some 28, .len (.t 27), some (25, true)⟩,
  ⟨some 29, .bin .leq (.t 28) (.k (.d (.int .i64 4))), some (25, true)⟩,
  ⟨some 30, .pick (.t 25) (.t 29) (.k (.d (.bool false))), none⟩,
  ⟨some 31, .mov (.t 30), none⟩,
  ⟨some 32, .faddr 8 (.t 1), some (31, true)⟩,
  ⟨some 33, .load none (.t 32), some (31, true)⟩,
  ⟨some 34, .len (.t 33), some (31, true)⟩,
  ⟨some 35, .bin .leq (.t 34) (.k (.d (.int .i64 6))), some (31, true)⟩,
  ⟨some 36, .pick (.t 31) (.t 35) (.k (.d (.bool false))), none⟩,
  ⟨some 37, .mov (.t 36), none⟩,
  ⟨some 38, .faddr 7 (.t 1), some (37, true)⟩,
  ⟨some 39, .load none (.t 38), some (37, true)⟩,
  ⟨some 40, .call (.k (.d (.func (.func 103) [] []))) [(.t 39), (.k (.d (.func (.func 104) [] [])))], some (37, true)⟩,
  ⟨some 41, .not (.t 40), some (37, true)⟩,
  ⟨some 42, .pick (.t 37) (.t 41) (.k (.d (.bool false))), none⟩,
  ⟨some 43, .mov (.t 42), none⟩,
  ⟨some 44, .faddr 8 (.t 1), some (43, true)⟩,
  ⟨some 45, .load none (.t 44), some (43, true)⟩,
  ⟨some 46, .call (.k (.d (.func (.func 106) [] []))) [(.t 45), (.k (.d (.func (.func 107) [] [])))], some (43, true)⟩,
  ⟨some 47, .not (.t 46), some (43, true)⟩,
  ⟨some 48, .pick (.t 43) (.t 47) (.k (.d (.bool false))), none⟩,
  ⟨some 2, .mov (.t 48), none⟩]
noncomputable def s80 : SCode := (.seq (.region s80r0 1 []) (.seq (.region s80r1 0 []) .ret))
theorem e80 : AWp P k0 s80 Q st = AWp P k0 (.seq (.region s80r0 1 []) (.seq (.region s80r1 0 []) .ret)) Q st := rfl
theorem u80r0 : goReg P s80r0 o p Q st = goLit P (litOf s80r0.eq_1) o p Q st := goReg_of _
theorem u80r1 : goReg P s80r1 o p Q st = goLit P (litOf s80r1.eq_1) o p Q st := goReg_of _
attribute [go_sem] u80r0 u80r1 e80
set_option maxRecDepth 100000 in
theorem F80 : FnIs Try.prog 80 Try.f80 [] news s80 [.tmp 2] 49 := ⟨follows, Try.func80, by kernel_rfl, by kernel_rfl, by kernel_rfl, by kernel_rfl⟩

noncomputable def s47r0 : List SOper := [
  ⟨some 1, .box 1 (.t 0), none⟩,
  ⟨some 2, .mov (.k (.d (.bool false))), none⟩]
noncomputable def s47r1 : List SOper := [
  ⟨some 4, .build [.nilfunc] [(0, 1, (.k (.d (.func (.func 80) [] []))))], none⟩,
  ⟨some 5, .build [.nilfunc] [(0, 1, (.k (.d (.func (.func 81) [] []))))], none⟩,
  ⟨some 6, .build [.nilfunc] [(0, 1, (.k (.d (.func (.func 82) [] []))))], none⟩,
  ⟨some 7, .build [.nilfunc] [(0, 1, (.k (.d (.func (.func 82) [] []))))], none⟩,
  ⟨some 8, .buildSlice false 1 5 [.nilfunc] [(1, 1, (.t 4)), (2, 1, (.t 5)), (3, 1, (.t 6)), (4, 1, (.t 7))], none⟩,
  ⟨some 3, .mov (.t 8), none⟩]
noncomputable def s47r2 : List SOper := [
  ⟨some 9, .faddr 0 (.t 1), none⟩,
  ⟨some 10, .load none (.t 9), none⟩,
  ⟨some 11, .bin .geq (.t 10) (.k (.d (.int .i64 1))), none⟩,
  ⟨some 12, .mov (.t 11), none⟩,
  ⟨some 13, .faddr 0 (.t 1), some (12, true)⟩,
  ⟨some 14, .load none (.t 13), some (12, true)⟩,
  ⟨some 15, .bin .leq (.t 14) (.k (.d (.int .i64 4))), some (12, true)⟩,
  ⟨some 16, .pick (.t 12) (.t 15) (.k (.d (.bool false))), none⟩,
  ⟨some 17, .mov (.t 16), none⟩,
  ⟨some 18, .faddr 1 (.t 1), some (17, true)⟩,
  ⟨some 19, .load none (.t 18), some (17, true)⟩,
  ⟨some 20, .bin .geq (.t 19) (.k (.d (.int .i64 1))), some (17, true)⟩,
  ⟨some 21, .pick (.t 17) (.t 20) (.k (.d (.bool false))), none⟩,
  ⟨some 22, .mov (.t 21), none⟩,
  ⟨some 23, .faddr 1 (.t 1), some (22, true)⟩,
  ⟨some 24, .load none (.t 23), some (22, true)⟩,
  ⟨some 25, .bin .leq (.t 24) (.k (.d (.int .i64 32))), some (22, true)⟩,
  ⟨some 26, .pick (.t 22) (.t 25) (.k (.d (.bool false))), none⟩,
  ⟨some 27, .mov (.t 26), none⟩,
  ⟨some 28, .mov (.t 3), some (27, true)⟩,
  ⟨some 29, .faddr 0 (.t 1), some (27, true)⟩,
  ⟨some 30, .load none (.t 29), some (27, true)⟩,
  ⟨some 31, .iaddr 1 (.t 28) (.t 30), some (27, true)⟩,
  ⟨some 32, .faddr 0 (.t 31), some (27, true)⟩,
  ⟨some 33, .load none (.t 32), some (27, true)⟩,
  ⟨some 34, .load (some 9) (.t 1), some (27, true)⟩,
  ⟨some 35, .call (.t 33) [(.t 34)], some (27, true)⟩,
  ⟨some 36, .pick (.t 27) (.t 35) (.k (.d (.bool false))), none⟩,
  ⟨some 2, .mov (.t 36), none⟩]
noncomputable def s47 : SCode := (.seq (.region s47r0 1 []) (.seq (.region s47r1 0 []) (.seq (.region s47r2 0 []) .ret)))
theorem e47 : AWp P k0 s47 Q st = AWp P k0 (.seq (.region s47r0 1 []) (.seq (.region s47r1 0 []) (.seq (.region s47r2 0 []) .ret))) Q st := rfl
theorem u47r0 : goReg P s47r0 o p Q st = goLit P (litOf s47r0.eq_1) o p Q st := goReg_of _
theorem u47r1 : goReg P s47r1 o p Q st = goLit P (litOf s47r1.eq_1) o p Q st := goReg_of _
theorem u47r2 : goReg P s47r2 o p Q st = goLit P (litOf s47r2.eq_1) o p Q st := goReg_of _
attribute [go_sem] u47r0 u47r1 u47r2 e47
set_option maxRecDepth 100000 in
theorem F47 : FnIs Try.prog 47 Try.f47 [] news s47 [.tmp 2] 37 := ⟨follows, Try.func47, by kernel_rfl, by kernel_rfl, by kernel_rfl, by kernel_rfl⟩

end

def data (p : Pk) : Bool := numbered p && (p.epoch == 0 || p.epoch == 1) && decide (p.label ≥ 0) && decide (p.label < 40) && decide ((p.values.length : Int) ≤ 4) && decide ((p.clock.length : Int) ≤ 6) && !(p.values.any fun v => !proper v) && !(p.clock.any fun n => decide (n < 0) || decide (n > 1099511627776))

theorem data_ok (p : Pk) (h1 : p.values.length ≤ maxLen) (h2 : p.clock.length ≤ maxLen) : ACall Try.prog 80 [.d (.agg (encPk p))] [] (.d (.bool (data p))) [] := by
  first | refine F80.go ?_ | refine F80.goT ?_
  simp only [encPk, go_sem, Nat.reduceAdd, Nat.reduceMul, Nat.reduceSub, Nat.reduceEqDiff, Nat.reduceLT, Nat.reduceLeDiff, Nat.reduceBEq, reduceIte, reduceCtorEq, Int.reduceAdd, Int.reduceLT, Int.reduceLE, Int.reduceGT, Int.reduceGE, Int.reduceEq, Int.reduceNe, Int.reduceBEq, Int.reduceBNe, Int.reduceToNat, Int.reduceNeg]
  refine callO_pure (numbered_ok p) F102.body (fun h => h) (fun _ => ⟨matchA_refl, trivial⟩) (noPtr_pk p) rfl rfl ?_
  simp only [go_sem, Nat.reduceAdd, Nat.reduceMul, Nat.reduceSub, Nat.reduceEqDiff, Nat.reduceLT, Nat.reduceLeDiff, Nat.reduceBEq, reduceIte, reduceCtorEq, Int.reduceAdd, Int.reduceLT, Int.reduceLE, Int.reduceGT, Int.reduceGE, Int.reduceEq, Int.reduceNe, Int.reduceBEq, Int.reduceBNe, Int.reduceToNat, Int.reduceNeg]
  refine ⟨by simp_all, ?_⟩
  refine callO_pure (containsV_ok F104.body data1_ok p.values h1) F103.body (fun h => h) (fun _ => ⟨matchA_refl, matchA_refl, trivial⟩) (by simp [ASlot.noPtr, D.noPtr, D.noPtrL, noPtrR_map encAV_noPtr]) rfl rfl ?_
  simp only [go_sem, Nat.reduceAdd, Nat.reduceMul, Nat.reduceSub, Nat.reduceEqDiff, Nat.reduceLT, Nat.reduceLeDiff, Nat.reduceBEq, reduceIte, reduceCtorEq, Int.reduceAdd, Int.reduceLT, Int.reduceLE, Int.reduceGT, Int.reduceGE, Int.reduceEq, Int.reduceNe, Int.reduceBEq, Int.reduceBNe, Int.reduceToNat, Int.reduceNeg]
  refine callO_pure (containsI_ok F107.body data2_ok p.clock h2) F106.body (fun h => h) (fun _ => ⟨matchA_refl, matchA_refl, trivial⟩) (by simp [ASlot.noPtr, D.noPtr, D.noPtrL, noPtrR_map encI_noPtr]) rfl rfl ?_
  simp only [go_sem, Nat.reduceAdd, Nat.reduceMul, Nat.reduceSub, Nat.reduceEqDiff, Nat.reduceLT, Nat.reduceLeDiff, Nat.reduceBEq, reduceIte, reduceCtorEq, Int.reduceAdd, Int.reduceLT, Int.reduceLE, Int.reduceGT, Int.reduceGE, Int.reduceEq, Int.reduceNe, Int.reduceBEq, Int.reduceBNe, Int.reduceToNat, Int.reduceNeg]
  rfl

def kindOk (p : Pk) : Bool := decide (p.kind ≥ 1) && decide (p.kind ≤ 4) && decide (p.sess ≥ 1) && decide (p.sess ≤ 32)
def packetValid (p : Pk) : Bool := kindOk p && (if p.kind = 1 then data p else if p.kind = 2 then ack p else order p)

theorem packetValid_ok (p : Pk) (h1 : p.values.length ≤ maxLen) (h2 : p.clock.length ≤ maxLen) : ACall Try.prog 47 [.d (.agg (encPk p))] [] (.d (.bool (packetValid p))) [] := by
  first | refine F47.go ?_ | refine F47.goT ?_
  simp only [encPk, go_sem, Nat.reduceAdd, Nat.reduceMul, Nat.reduceSub, Nat.reduceEqDiff, Nat.reduceLT, Nat.reduceLeDiff, Nat.reduceBEq, reduceIte, reduceCtorEq, Int.reduceAdd, Int.reduceLT, Int.reduceLE, Int.reduceGT, Int.reduceGE, Int.reduceEq, Int.reduceNe, Int.reduceBEq, Int.reduceBNe, Int.reduceToNat, Int.reduceNeg]
  have hk : (decide (p.kind ≥ 1) && decide (p.kind ≤ 4) && decide (p.sess ≥ 1) && decide (p.sess ≤ 32)) = kindOk p := rfl
  simp only [hk]
  cases hG : kindOk p with
  | false =>
    simp only [go_sem, Nat.reduceAdd, Nat.reduceMul, Nat.reduceSub, Nat.reduceEqDiff, Nat.reduceLT, Nat.reduceLeDiff, Nat.reduceBEq, reduceIte, reduceCtorEq, Int.reduceAdd, Int.reduceLT, Int.reduceLE, Int.reduceGT, Int.reduceGE, Int.reduceEq, Int.reduceNe, Int.reduceBEq, Int.reduceBNe, Int.reduceToNat, Int.reduceNeg]
    refine callO_off (.bool false) rfl ?_
    simp only [packetValid, hG, go_sem, Nat.reduceAdd, Nat.reduceMul, Nat.reduceSub, Nat.reduceEqDiff, Nat.reduceLT, Nat.reduceLeDiff, Nat.reduceBEq, reduceIte, reduceCtorEq, Int.reduceAdd, Int.reduceLT, Int.reduceLE, Int.reduceGT, Int.reduceGE, Int.reduceEq, Int.reduceNe, Int.reduceBEq, Int.reduceBNe, Int.reduceToNat, Int.reduceNeg]
  | true =>
    have h4 : p.kind = 1 ∨ p.kind = 2 ∨ p.kind = 3 ∨ p.kind = 4 := by simp [kindOk] at hG; omega
    rcases h4 with hp | hp | hp | hp <;> simp only [hp, Int.reduceToNat, Int.reduceLE, Int.reduceLT, go_sem, Nat.reduceAdd, Nat.reduceMul, Nat.reduceSub, Nat.reduceEqDiff, Nat.reduceLT, Nat.reduceLeDiff, Nat.reduceBEq, reduceIte, reduceCtorEq, Int.reduceAdd, Int.reduceLT, Int.reduceLE, Int.reduceGT, Int.reduceGE, Int.reduceEq, Int.reduceNe, Int.reduceBEq, Int.reduceBNe, Int.reduceToNat, Int.reduceNeg]
    · refine callO_pure (data_ok p h1 h2) F80.body (fun h => h) (fun _ => ⟨by simp [matchA, ASlot.eqvD, D.eqv_refl, encPk, hp], trivial⟩) (noPtr_pk p) rfl rfl ?_
      simp only [packetValid, hG, hp, go_sem, Nat.reduceAdd, Nat.reduceMul, Nat.reduceSub, Nat.reduceEqDiff, Nat.reduceLT, Nat.reduceLeDiff, Nat.reduceBEq, reduceIte, reduceCtorEq, Int.reduceAdd, Int.reduceLT, Int.reduceLE, Int.reduceGT, Int.reduceGE, Int.reduceEq, Int.reduceNe, Int.reduceBEq, Int.reduceBNe, Int.reduceToNat, Int.reduceNeg]
    · refine callO_pure (ack_ok p) F81.body (fun h => h) (fun _ => ⟨by simp [matchA, ASlot.eqvD, D.eqv_refl, encPk, hp], trivial⟩) (noPtr_pk p) rfl rfl ?_
      simp only [packetValid, hG, hp, go_sem, Nat.reduceAdd, Nat.reduceMul, Nat.reduceSub, Nat.reduceEqDiff, Nat.reduceLT, Nat.reduceLeDiff, Nat.reduceBEq, reduceIte, reduceCtorEq, Int.reduceAdd, Int.reduceLT, Int.reduceLE, Int.reduceGT, Int.reduceGE, Int.reduceEq, Int.reduceNe, Int.reduceBEq, Int.reduceBNe, Int.reduceToNat, Int.reduceNeg]
    · refine callO_pure (order_ok p) F82.body (fun h => h) (fun _ => ⟨by simp [matchA, ASlot.eqvD, D.eqv_refl, encPk, hp], trivial⟩) (noPtr_pk p) rfl rfl ?_
      simp only [packetValid, hG, hp, go_sem, Nat.reduceAdd, Nat.reduceMul, Nat.reduceSub, Nat.reduceEqDiff, Nat.reduceLT, Nat.reduceLeDiff, Nat.reduceBEq, reduceIte, reduceCtorEq, Int.reduceAdd, Int.reduceLT, Int.reduceLE, Int.reduceGT, Int.reduceGE, Int.reduceEq, Int.reduceNe, Int.reduceBEq, Int.reduceBNe, Int.reduceToNat, Int.reduceNeg]
    · refine callO_pure (order_ok p) F82.body (fun h => h) (fun _ => ⟨by simp [matchA, ASlot.eqvD, D.eqv_refl, encPk, hp], trivial⟩) (noPtr_pk p) rfl rfl ?_
      simp only [packetValid, hG, hp, go_sem, Nat.reduceAdd, Nat.reduceMul, Nat.reduceSub, Nat.reduceEqDiff, Nat.reduceLT, Nat.reduceLeDiff, Nat.reduceBEq, reduceIte, reduceCtorEq, Int.reduceAdd, Int.reduceLT, Int.reduceLE, Int.reduceGT, Int.reduceGE, Int.reduceEq, Int.reduceNe, Int.reduceBEq, Int.reduceBNe, Int.reduceToNat, Int.reduceNeg]
end Go.Proofs.Ythcpckcgjplhiaa

/- Equality and copies of slices of packets' parts; packet.Equal. -/
namespace Go.Proofs.Ythcpckcgjplhiaa
open Go.Abs
set_option linter.unusedSimpArgs false

theorem eq_ne {α : Type} [DecidableEq α] {l m : List α} {i : Nat} (h1 : i < l.length) (h2 : i < m.length) (h : l[i] ≠ m[i]) : decide (l = m) = false := by
  rw [decide_eq_false_iff_not]
  rintro rfl
  exact h rfl

theorem take_eq_succ {α : Type} {l m : List α} {i : Nat} (h : l.take i = m.take i) (h1 : i < l.length) (h2 : i < m.length) (he : l[i] = m[i]) : l.take (i + 1) = m.take (i + 1) := by
  rw [List.take_succ_eq_append_getElem h1, List.take_succ_eq_append_getElem h2, h, he]

theorem beq_AV (v w : AV) : (v.kind == w.kind && (v.n == w.n && v.s == w.s)) = decide (v = w) := by
  obtain ⟨a, b, c⟩ := v
  obtain ⟨d, e, f⟩ := w
  rw [Bool.eq_iff_iff]
  simp

section
variable {P : Program} {k0 o : Nat} {p : List (Nat × Nat)} {Q : SExit → St → Prop} {st : St}
noncomputable def s73r0 : List SOper := [
  ⟨some 4, .mov (.k (.d (.bool false))), none⟩]
noncomputable def s73r1 : List SOper := [
  ⟨some 6, .mov (.t 0), none⟩,
  ⟨some 7, .len (.t 6), none⟩,
  ⟨some 8, .mov (.t 1), none⟩,
  ⟨some 9, .len (.t 8), none⟩,
  ⟨some 10, .bin .neq (.t 7) (.t 9), none⟩]
noncomputable def s73r2 : List SOper := [
  ⟨some 4, .mov (.k (.d (.bool false))), none⟩]
noncomputable def s73r3 : List SOper := [
  ⟨some 11, .mov (.t 0), none⟩,
  ⟨some 12, .len (.t 11), none⟩,
  ⟨some 13, .mov (.k (.d (.int .i64 0))), none⟩]
noncomputable def s73r4 : List SOper := [
  ⟨some 14, .bin .lss (.t 13) (.t 12), none⟩]
noncomputable def s73r5 : List SOper := [
  ⟨some 15, .mov (.t 13), none⟩,
  ⟨some 5, .mov (.t 15), none⟩]
noncomputable def s73r6 : List SOper := [
  ⟨some 16, .mov (.t 0), none⟩,
  ⟨some 17, .mov (.t 5), none⟩,
  ⟨some 18, .iaddr 3 (.t 16) (.t 17), none⟩,
  ⟨some 19, .load (some 3) (.t 18), none⟩,
  ⟨some 20, .mov (.t 1), none⟩,
  ⟨some 21, .mov (.t 5), none⟩,
  ⟨some 22, .iaddr 3 (.t 20) (.t 21), none⟩,
  ⟨some 23, .load (some 3) (.t 22), none⟩,
  ⟨some 24, .eqAgg true [.int, .int, .str] (.t 19) (.t 23), none⟩]
noncomputable def s73r7 : List SOper := [
  ⟨some 4, .mov (.k (.d (.bool false))), none⟩]
noncomputable def s73r8 : List SOper := [
  ⟨some 25, .bin .add (.t 13) (.k (.d (.int .i64 1))), none⟩,
  ⟨some 13, .mov (.t 25), none⟩]
noncomputable def s73l9 : SCode := (.seq (.region s73r4 0 []) (.seq (.cond (.t 14) .skip (.exit 0)) (.seq (.block 1 (.seq (.region s73r5 0 []) (.seq (.region s73r6 0 []) (.cond (.t 24) (.seq (.region s73r7 0 []) .ret) .skip)))) (.region s73r8 0 []))))
theorem e73l9 : AWp P k0 s73l9 Q st = AWp P k0 (.seq (.region s73r4 0 []) (.seq (.cond (.t 14) .skip (.exit 0)) (.seq (.block 1 (.seq (.region s73r5 0 []) (.seq (.region s73r6 0 []) (.cond (.t 24) (.seq (.region s73r7 0 []) .ret) .skip)))) (.region s73r8 0 [])))) Q st := rfl
noncomputable def s73r10 : List SOper := [
  ⟨some 4, .mov (.k (.d (.bool true))), none⟩]
noncomputable def s73 : SCode := (.seq (.region s73r0 0 []) (.seq (.seq (.region s73r1 0 []) (.cond (.t 10) (.seq (.region s73r2 0 []) .ret) .skip)) (.seq (.seq (.region s73r3 0 []) (.block 0 (.loop s73l9))) (.seq (.region s73r10 0 []) .ret))))
theorem e73 : AWp P k0 s73 Q st = AWp P k0 (.seq (.region s73r0 0 []) (.seq (.seq (.region s73r1 0 []) (.cond (.t 10) (.seq (.region s73r2 0 []) .ret) .skip)) (.seq (.seq (.region s73r3 0 []) (.block 0 (.loop s73l9))) (.seq (.region s73r10 0 []) .ret)))) Q st := rfl
theorem u73r0 : goReg P s73r0 o p Q st = goLit P (litOf s73r0.eq_1) o p Q st := goReg_of _
theorem u73r1 : goReg P s73r1 o p Q st = goLit P (litOf s73r1.eq_1) o p Q st := goReg_of _
theorem u73r2 : goReg P s73r2 o p Q st = goLit P (litOf s73r2.eq_1) o p Q st := goReg_of _
theorem u73r3 : goReg P s73r3 o p Q st = goLit P (litOf s73r3.eq_1) o p Q st := goReg_of _
theorem u73r4 : goReg P s73r4 o p Q st = goLit P (litOf s73r4.eq_1) o p Q st := goReg_of _
theorem u73r5 : goReg P s73r5 o p Q st = goLit P (litOf s73r5.eq_1) o p Q st := goReg_of _
theorem u73r6 : goReg P s73r6 o p Q st = goLit P (litOf s73r6.eq_1) o p Q st := goReg_of _
theorem u73r7 : goReg P s73r7 o p Q st = goLit P (litOf s73r7.eq_1) o p Q st := goReg_of _
theorem u73r8 : goReg P s73r8 o p Q st = goLit P (litOf s73r8.eq_1) o p Q st := goReg_of _
theorem u73r10 : goReg P s73r10 o p Q st = goLit P (litOf s73r10.eq_1) o p Q st := goReg_of _
attribute [go_sem] u73r0 u73r1 u73r2 u73r3 u73r4 u73r5 u73r6 u73r7 u73r8 e73l9 u73r10 e73
set_option maxRecDepth 100000 in
theorem F73 : FnIs Try.prog 73 Try.f73 [] news s73 [.tmp 4] 26 := ⟨follows, Try.func73, by kernel_rfl, by kernel_rfl, by kernel_rfl, by kernel_rfl⟩

noncomputable def s74r0 : List SOper := [
  ⟨some 4, .mov (.k (.d (.bool false))), none⟩]
noncomputable def s74r1 : List SOper := [
  ⟨some 6, .mov (.t 0), none⟩,
  ⟨some 7, .len (.t 6), none⟩,
  ⟨some 8, .mov (.t 1), none⟩,
  ⟨some 9, .len (.t 8), none⟩,
  ⟨some 10, .bin .neq (.t 7) (.t 9), none⟩]
noncomputable def s74r2 : List SOper := [
  ⟨some 4, .mov (.k (.d (.bool false))), none⟩]
noncomputable def s74r3 : List SOper := [
  ⟨some 11, .mov (.t 0), none⟩,
  ⟨some 12, .len (.t 11), none⟩,
  ⟨some 13, .mov (.k (.d (.int .i64 0))), none⟩]
noncomputable def s74r4 : List SOper := [
  ⟨some 14, .bin .lss (.t 13) (.t 12), none⟩]
noncomputable def s74r5 : List SOper := [
  ⟨some 15, .mov (.t 13), none⟩,
  ⟨some 5, .mov (.t 15), none⟩]
noncomputable def s74r6 : List SOper := [
  ⟨some 16, .mov (.t 0), none⟩,
  ⟨some 17, .mov (.t 5), none⟩,
  ⟨some 18, .iaddr 1 (.t 16) (.t 17), none⟩,
  ⟨some 19, .load none (.t 18), none⟩,
  ⟨some 20, .mov (.t 1), none⟩,
  ⟨some 21, .mov (.t 5), none⟩,
  ⟨some 22, .iaddr 1 (.t 20) (.t 21), none⟩,
  ⟨some 23, .load none (.t 22), none⟩,
  ⟨some 24, .bin .neq (.t 19) (.t 23), none⟩]
noncomputable def s74r7 : List SOper := [
  ⟨some 4, .mov (.k (.d (.bool false))), none⟩]
noncomputable def s74r8 : List SOper := [
  ⟨some 25, .bin .add (.t 13) (.k (.d (.int .i64 1))), none⟩,
  ⟨some 13, .mov (.t 25), none⟩]
noncomputable def s74l9 : SCode := (.seq (.region s74r4 0 []) (.seq (.cond (.t 14) .skip (.exit 0)) (.seq (.block 1 (.seq (.region s74r5 0 []) (.seq (.region s74r6 0 []) (.cond (.t 24) (.seq (.region s74r7 0 []) .ret) .skip)))) (.region s74r8 0 []))))
theorem e74l9 : AWp P k0 s74l9 Q st = AWp P k0 (.seq (.region s74r4 0 []) (.seq (.cond (.t 14) .skip (.exit 0)) (.seq (.block 1 (.seq (.region s74r5 0 []) (.seq (.region s74r6 0 []) (.cond (.t 24) (.seq (.region s74r7 0 []) .ret) .skip)))) (.region s74r8 0 [])))) Q st := rfl
noncomputable def s74r10 : List SOper := [
  ⟨some 4, .mov (.k (.d (.bool true))), none⟩]
noncomputable def s74 : SCode := (.seq (.region s74r0 0 []) (.seq (.seq (.region s74r1 0 []) (.cond (.t 10) (.seq (.region s74r2 0 []) .ret) .skip)) (.seq (.seq (.region s74r3 0 []) (.block 0 (.loop s74l9))) (.seq (.region s74r10 0 []) .ret))))
theorem e74 : AWp P k0 s74 Q st = AWp P k0 (.seq (.region s74r0 0 []) (.seq (.seq (.region s74r1 0 []) (.cond (.t 10) (.seq (.region s74r2 0 []) .ret) .skip)) (.seq (.seq (.region s74r3 0 []) (.block 0 (.loop s74l9))) (.seq (.region s74r10 0 []) .ret)))) Q st := rfl
theorem u74r0 : goReg P s74r0 o p Q st = goLit P (litOf s74r0.eq_1) o p Q st := goReg_of _
theorem u74r1 : goReg P s74r1 o p Q st = goLit P (litOf s74r1.eq_1) o p Q st := goReg_of _
theorem u74r2 : goReg P s74r2 o p Q st = goLit P (litOf s74r2.eq_1) o p Q st := goReg_of _
theorem u74r3 : goReg P s74r3 o p Q st = goLit P (litOf s74r3.eq_1) o p Q st := goReg_of _
theorem u74r4 : goReg P s74r4 o p Q st = goLit P (litOf s74r4.eq_1) o p Q st := goReg_of _
theorem u74r5 : goReg P s74r5 o p Q st = goLit P (litOf s74r5.eq_1) o p Q st := goReg_of _
theorem u74r6 : goReg P s74r6 o p Q st = goLit P (litOf s74r6.eq_1) o p Q st := goReg_of _
theorem u74r7 : goReg P s74r7 o p Q st = goLit P (litOf s74r7.eq_1) o p Q st := goReg_of _
theorem u74r8 : goReg P s74r8 o p Q st = goLit P (litOf s74r8.eq_1) o p Q st := goReg_of _
theorem u74r10 : goReg P s74r10 o p Q st = goLit P (litOf s74r10.eq_1) o p Q st := goReg_of _
attribute [go_sem] u74r0 u74r1 u74r2 u74r3 u74r4 u74r5 u74r6 u74r7 u74r8 e74l9 u74r10 e74
set_option maxRecDepth 100000 in
theorem F74 : FnIs Try.prog 74 Try.f74 [] news s74 [.tmp 4] 26 := ⟨follows, Try.func74, by kernel_rfl, by kernel_rfl, by kernel_rfl, by kernel_rfl⟩

noncomputable def s97r0 : List SOper := [
  ⟨some 2, .mov (.k (.d .nilsl)), none⟩]
noncomputable def s97r1 : List SOper := [
  ⟨some 3, .mov (.t 0), none⟩,
  ⟨some 4, .eqnilS false (.t 3), none⟩]
noncomputable def s97r2 : List SOper := [
  ⟨some 2, .mov (.k (.d .nilsl)), none⟩]
noncomputable def s97r3 : List SOper := [
  ⟨some 5, .buildSlice false 3 0 [(.int .i64 0), (.int .i64 0), (.str [])] [], none⟩,
  ⟨some 6, .mov (.t 0), none⟩,
  ⟨some 7, .append false 3 32 (.t 5) (.t 6), none⟩,
  ⟨some 2, .mov (.t 7), none⟩]
noncomputable def s97 : SCode := (.seq (.region s97r0 0 []) (.seq (.seq (.region s97r1 0 []) (.cond (.t 4) (.seq (.region s97r2 0 []) .ret) .skip)) (.seq (.region s97r3 0 []) .ret)))
theorem e97 : AWp P k0 s97 Q st = AWp P k0 (.seq (.region s97r0 0 []) (.seq (.seq (.region s97r1 0 []) (.cond (.t 4) (.seq (.region s97r2 0 []) .ret) .skip)) (.seq (.region s97r3 0 []) .ret))) Q st := rfl
theorem u97r0 : goReg P s97r0 o p Q st = goLit P (litOf s97r0.eq_1) o p Q st := goReg_of _
theorem u97r1 : goReg P s97r1 o p Q st = goLit P (litOf s97r1.eq_1) o p Q st := goReg_of _
theorem u97r2 : goReg P s97r2 o p Q st = goLit P (litOf s97r2.eq_1) o p Q st := goReg_of _
theorem u97r3 : goReg P s97r3 o p Q st = goLit P (litOf s97r3.eq_1) o p Q st := goReg_of _
attribute [go_sem] u97r0 u97r1 u97r2 u97r3 e97
set_option maxRecDepth 100000 in
theorem F97 : FnIs Try.prog 97 Try.f97 [] news s97 [.tmp 2] 8 := ⟨follows, Try.func97, by kernel_rfl, by kernel_rfl, by kernel_rfl, by kernel_rfl⟩

noncomputable def s98r0 : List SOper := [
  ⟨some 2, .mov (.k (.d .nilsl)), none⟩]
noncomputable def s98r1 : List SOper := [
  ⟨some 3, .mov (.t 0), none⟩,
  ⟨some 4, .eqnilS false (.t 3), none⟩]
noncomputable def s98r2 : List SOper := [
  ⟨some 2, .mov (.k (.d .nilsl)), none⟩]
noncomputable def s98r3 : List SOper := [
  ⟨some 5, .buildSlice false 1 0 [(.int .i64 0)] [], none⟩,
  ⟨some 6, .mov (.t 0), none⟩,
  ⟨some 7, .append false 1 8 (.t 5) (.t 6), none⟩,
  ⟨some 2, .mov (.t 7), none⟩]
noncomputable def s98 : SCode := (.seq (.region s98r0 0 []) (.seq (.seq (.region s98r1 0 []) (.cond (.t 4) (.seq (.region s98r2 0 []) .ret) .skip)) (.seq (.region s98r3 0 []) .ret)))
theorem e98 : AWp P k0 s98 Q st = AWp P k0 (.seq (.region s98r0 0 []) (.seq (.seq (.region s98r1 0 []) (.cond (.t 4) (.seq (.region s98r2 0 []) .ret) .skip)) (.seq (.region s98r3 0 []) .ret))) Q st := rfl
theorem u98r0 : goReg P s98r0 o p Q st = goLit P (litOf s98r0.eq_1) o p Q st := goReg_of _
theorem u98r1 : goReg P s98r1 o p Q st = goLit P (litOf s98r1.eq_1) o p Q st := goReg_of _
theorem u98r2 : goReg P s98r2 o p Q st = goLit P (litOf s98r2.eq_1) o p Q st := goReg_of _
theorem u98r3 : goReg P s98r3 o p Q st = goLit P (litOf s98r3.eq_1) o p Q st := goReg_of _
attribute [go_sem] u98r0 u98r1 u98r2 u98r3 e98
set_option maxRecDepth 100000 in
theorem F98 : FnIs Try.prog 98 Try.f98 [] news s98 [.tmp 2] 8 := ⟨follows, Try.func98, by kernel_rfl, by kernel_rfl, by kernel_rfl, by kernel_rfl⟩

noncomputable def s36r0 : List SOper := [
  ⟨some 2, .box 2 (.t 0), none⟩,
  ⟨some 3, .box 1 (.t 1), none⟩,
  ⟨some 4, .mov (.k (.d (.bool false))), none⟩]
noncomputable def s36r1 : List SOper := [
  ⟨some 5, .faddr 0 (.t 2), none⟩,
  ⟨some 6, .load none (.t 5), none⟩,
  ⟨some 7, .faddr 0 (.t 3), none⟩,
  ⟨some 8, .load none (.t 7), none⟩,
  ⟨some 9, .bin .eql (.t 6) (.t 8), none⟩,
  ⟨some 10, .mov (.t 9), none⟩,
  ⟨some 11, .faddr 1 (.t 2), some (10, true)⟩,
  ⟨some 12, .load none (.t 11), some (10, true)⟩,
  ⟨some 13, .faddr 1 (.t 3), some (10, true)⟩,
  ⟨some 14, .load none (.t 13), some (10, true)⟩,
  ⟨some 15, .bin .eql (.t 12) (.t 14), some (10, true)⟩,
  ⟨some 16, .pick (.t 10) (.t 15) (.k (.d (.bool false))), none⟩,
  ⟨some 17, .mov (.t 16), none⟩,
  ⟨some 18, .faddr 2 (.t 2), some (17, true)⟩,
  ⟨some 19, .load none (.t 18), some (17, true)⟩,
  ⟨some 20, .faddr 2 (.t 3), some (17, true)⟩,
  ⟨some 21, .load none (.t 20), some (17, true)⟩,
  ⟨some 22, .bin .eql (.t 19) (.t 21), some (17, true)⟩,
  ⟨some 23, .pick (.t 17) (.t 22) (.k (.d (.bool false))), none⟩,
  ⟨some 24, .mov (.t 23), none⟩,
  ⟨some 25, .faddr 3 (.t 2), some (24, true)⟩,
  ⟨some 26, .load none (.t 25), some (24, true)⟩,
  ⟨some 27, .faddr 3 (.t 3), some (24, true)⟩,
  ⟨some 28, .load none (.t 27), some (24, true)⟩,
  ⟨some 29, .bin .eql (.t 26) (.t 28), some (24, true)⟩,
  ⟨some 30, .pick (.t 24) (.t 29) (.k (.d (.bool false))), none⟩,
  ⟨some 31, .mov (.t 30), none⟩,
  ⟨some 32, .faddr 4 (.t 2), some (31, true)⟩,
  ⟨some 33, .load none (.t 32), some (31, true)⟩,
  ⟨some 34, .faddr 4 (.t 3), some (31, true)⟩,
  ⟨some 35, .load none (.t 34), some (31, true)⟩,
  ⟨some 36, .bin .eql (.t 33) (.t 35), some (31, true)⟩,
  ⟨some 37, .pick (.t 31) (.t 36) (.k (.d (.bool false))), none⟩,
  ⟨some 38, .mov (.t 37), none⟩,
  ⟨some 39, .faddr 5 (.t 2), some (38, true)⟩,
  ⟨some 40, .load none (.t 39), some (38, true)⟩,
  ⟨some 41, .faddr 5 (.t 3), some (38, true)⟩,
  ⟨some 42, .load none (.t 41), some (38, true)⟩,
  ⟨some 43, .bin .eql (.t 40) (.t 42), some (38, true)⟩,
  ⟨some 44, .pick (.t 38) (.t 43) (.k (.d (.bool false))), none⟩,
  ⟨some 45, .mov (.t 44), none⟩,
  ⟨some 46, .faddr 6 (.t 2), some (45, true)⟩,
  ⟨some 47, .load none (.t 46), some (45, true)⟩,
  ⟨some 48, .faddr 6 (.t 3), some (45, true)⟩,
  ⟨some 49, .load none (.t 48), some (45, true)⟩,
  ⟨some 50, .bin .eql (.t 47) (.t 49), some (45, true)⟩,
  ⟨some 51, .pick (.t 45) (.t 50) (.k (.d (.bool false))), none⟩,
  ⟨some 52, .mov (.t 51), none⟩,
  ⟨some 53, .faddr 7 (.t 2), some (52, true)⟩,
  ⟨some 54, .load none (.t 53), some (52, true)⟩,
  ⟨some 55, .faddr 7 (.t 3), some (52, true)⟩,
  ⟨some 56, .load none (.t 55), some (52, true)⟩,
  ⟨some 57, .call (.k (.d (.func (.func 73) [] []))) [(.t 54), (.t 56)], some (52, true)⟩,
  ⟨some 58, .pick (.t 52) (.t 57) (.k (.d (.bool false))), none⟩,
  ⟨some 59, .mov (.t 58), none⟩,
  ⟨some 60, .faddr 8 (.t 2), some (59, true)⟩,
  ⟨some 61, .load none (.t 60), some (59, true)⟩,
  ⟨some 62, .faddr 8 (.t 3), some (59, true)⟩,
  ⟨some 63, .load none (.t 62), some (59, true)⟩,
  ⟨some 64, .call (.k (.d (.func (.func 74) [] []))) [(.t 61), (.t 63)], some (59, true)⟩,
  ⟨some 65, .pick (.t 59) (.t 64) (.k (.d (.bool false))), none⟩,
  ⟨some 4, .mov (.t 65), none⟩]
noncomputable def s36 : SCode := (.seq (.region s36r0 2 []) (.seq (.region s36r1 0 []) .ret))
theorem e36 : AWp P k0 s36 Q st = AWp P k0 (.seq (.region s36r0 2 []) (.seq (.region s36r1 0 []) .ret)) Q st := rfl
theorem u36r0 : goReg P s36r0 o p Q st = goLit P (litOf s36r0.eq_1) o p Q st := goReg_of _
theorem u36r1 : goReg P s36r1 o p Q st = goLit P (litOf s36r1.eq_1) o p Q st := goReg_of _
attribute [go_sem] u36r0 u36r1 e36
set_option maxRecDepth 100000 in
theorem F36 : FnIs Try.prog 36 Try.f36 [] news s36 [.tmp 4] 66 := ⟨follows, Try.func36, by kernel_rfl, by kernel_rfl, by kernel_rfl, by kernel_rfl⟩

end

def Seq {α : Type} (es : Nat) (enc : α → List D) (l m : List α) (i : { i : Nat // l.take i = m.take i }) : St :=
  ⟨[(0, true, .d (.sl es (l.map enc))), (1, true, .d (.sl es (m.map enc))), (12, true, .d (.int .i64 l.length)), (13, true, .d (.int .i64 (i.val : Nat)))], [], [], 1⟩

theorem eqV_ok (l m : List AV) (hl : l.length ≤ maxLen) :
    ACall Try.prog 73 [.d (.sl 3 (l.map encAV)), .d (.sl 3 (m.map encAV))] [] (.d (.bool (decide (l = m)))) [] := by
  first | refine F73.go ?_ | refine F73.goT ?_
  simp only [go_sem, Nat.reduceAdd, Nat.reduceMul, Nat.reduceSub, Nat.reduceEqDiff, Nat.reduceLT, Nat.reduceLeDiff, Nat.reduceBEq, reduceIte, reduceCtorEq, Int.reduceAdd, Int.reduceLT, Int.reduceLE, Int.reduceGT, Int.reduceGE, Int.reduceEq, Int.reduceNe, Int.reduceBEq, Int.reduceBNe, Int.reduceToNat, Int.reduceNeg]
  refine AWp_cond _ rfl rfl (fun h => ?_) (fun h => ?_)
  · have hne : decide (l = m) = false := by rw [decide_eq_false_iff_not]; rintro rfl; simp at h
    simp only [hne, go_sem, Nat.reduceAdd, Nat.reduceMul, Nat.reduceSub, Nat.reduceEqDiff, Nat.reduceLT, Nat.reduceLeDiff, Nat.reduceBEq, reduceIte, reduceCtorEq, Int.reduceAdd, Int.reduceLT, Int.reduceLE, Int.reduceGT, Int.reduceGE, Int.reduceEq, Int.reduceNe, Int.reduceBEq, Int.reduceBNe, Int.reduceToNat, Int.reduceNeg]
  · have hlm : l.length = m.length := by simp at h; omega
    simp only [go_sem, Nat.reduceAdd, Nat.reduceMul, Nat.reduceSub, Nat.reduceEqDiff, Nat.reduceLT, Nat.reduceLeDiff, Nat.reduceBEq, reduceIte, reduceCtorEq, Int.reduceAdd, Int.reduceLT, Int.reduceLE, Int.reduceGT, Int.reduceGE, Int.reduceEq, Int.reduceNe, Int.reduceBEq, Int.reduceBNe, Int.reduceToNat, Int.reduceNeg]
    refine AWp_loop (Seq 3 encAV l m) (fun i => l.length - i.val) ⟨0, rfl⟩ ?_ (fun i => ?_)
    · simp only [Seq, noPtrR_map encAV_noPtr, go_sem, Nat.reduceAdd, Nat.reduceMul, Nat.reduceSub, Nat.reduceEqDiff, Nat.reduceLT, Nat.reduceLeDiff, Nat.reduceBEq, reduceIte, reduceCtorEq, Int.reduceAdd, Int.reduceLT, Int.reduceLE, Int.reduceGT, Int.reduceGE, Int.reduceEq, Int.reduceNe, Int.reduceBEq, Int.reduceBNe, Int.reduceToNat, Int.reduceNeg]
    · obtain ⟨i, hi⟩ := i
      simp only [Seq, go_sem, Nat.reduceAdd, Nat.reduceMul, Nat.reduceSub, Nat.reduceEqDiff, Nat.reduceLT, Nat.reduceLeDiff, Nat.reduceBEq, reduceIte, reduceCtorEq, Int.reduceAdd, Int.reduceLT, Int.reduceLE, Int.reduceGT, Int.reduceGE, Int.reduceEq, Int.reduceNe, Int.reduceBEq, Int.reduceBNe, Int.reduceToNat, Int.reduceNeg]
      refine AWp_cond _ rfl rfl (fun h => ?_) (fun h => ?_)
      · have hil : i < l.length := by simpa using h
        have him : i < m.length := by omega
        simp only [getD_map encAV l hil, getD_map encAV m him, encAV, beq_AV, go_sem, Nat.reduceAdd, Nat.reduceMul, Nat.reduceSub, Nat.reduceEqDiff, Nat.reduceLT, Nat.reduceLeDiff, Nat.reduceBEq, reduceIte, reduceCtorEq, Int.reduceAdd, Int.reduceLT, Int.reduceLE, Int.reduceGT, Int.reduceGE, Int.reduceEq, Int.reduceNe, Int.reduceBEq, Int.reduceBNe, Int.reduceToNat, Int.reduceNeg]
        refine ⟨by omega, by omega, ?_⟩
        refine AWp_cond _ rfl rfl (fun h2 => ?_) (fun h2 => ?_)
        · have hne : l[i] ≠ m[i] := by simpa using h2
          simp only [eq_ne hil him hne, go_sem, Nat.reduceAdd, Nat.reduceMul, Nat.reduceSub, Nat.reduceEqDiff, Nat.reduceLT, Nat.reduceLeDiff, Nat.reduceBEq, reduceIte, reduceCtorEq, Int.reduceAdd, Int.reduceLT, Int.reduceLE, Int.reduceGT, Int.reduceGE, Int.reduceEq, Int.reduceNe, Int.reduceBEq, Int.reduceBNe, Int.reduceToNat, Int.reduceNeg]
        · have he : l[i] = m[i] := by simpa using h2
          simp only [go_sem, Nat.reduceAdd, Nat.reduceMul, Nat.reduceSub, Nat.reduceEqDiff, Nat.reduceLT, Nat.reduceLeDiff, Nat.reduceBEq, reduceIte, reduceCtorEq, Int.reduceAdd, Int.reduceLT, Int.reduceLE, Int.reduceGT, Int.reduceGE, Int.reduceEq, Int.reduceNe, Int.reduceBEq, Int.reduceBNe, Int.reduceToNat, Int.reduceNeg]
          refine ⟨⟨i + 1, take_eq_succ hi hil him he⟩, ?_, by dsimp only; omega⟩
          simp only [Seq, wrap_succ (show i < 9223372036854775807 by unfold maxLen at hl; omega), noPtrR_map encAV_noPtr, go_sem, Nat.reduceAdd, Nat.reduceMul, Nat.reduceSub, Nat.reduceEqDiff, Nat.reduceLT, Nat.reduceLeDiff, Nat.reduceBEq, reduceIte, reduceCtorEq, Int.reduceAdd, Int.reduceLT, Int.reduceLE, Int.reduceGT, Int.reduceGE, Int.reduceEq, Int.reduceNe, Int.reduceBEq, Int.reduceBNe, Int.reduceToNat, Int.reduceNeg]
      · have he : decide (l = m) = true := by
          have : l.length ≤ i := by simpa using h
          rw [List.take_of_length_le this, List.take_of_length_le (by omega)] at hi
          simp [hi]
        simp only [he, go_sem, Nat.reduceAdd, Nat.reduceMul, Nat.reduceSub, Nat.reduceEqDiff, Nat.reduceLT, Nat.reduceLeDiff, Nat.reduceBEq, reduceIte, reduceCtorEq, Int.reduceAdd, Int.reduceLT, Int.reduceLE, Int.reduceGT, Int.reduceGE, Int.reduceEq, Int.reduceNe, Int.reduceBEq, Int.reduceBNe, Int.reduceToNat, Int.reduceNeg]

theorem cloneV_ok (l : List AV) (hl : l.length ≤ 1000000) :
    ACall Try.prog 97 [.d (.sl 3 (l.map encAV))] [] (.d (.sl 3 (l.map encAV))) [] := by
  first | refine F97.go ?_ | refine F97.goT ?_
  simp only [go_sem, Nat.reduceAdd, Nat.reduceMul, Nat.reduceSub, Nat.reduceEqDiff, Nat.reduceLT, Nat.reduceLeDiff, Nat.reduceBEq, reduceIte, reduceCtorEq, Int.reduceAdd, Int.reduceLT, Int.reduceLE, Int.reduceGT, Int.reduceGE, Int.reduceEq, Int.reduceNe, Int.reduceBEq, Int.reduceBNe, Int.reduceToNat, Int.reduceNeg]
  refine nilO_of rfl rfl (fun b hb => ?_)
  try (refine ev ?_; try exact True.intro)
  refine AWp_cond _ rfl rfl (fun h => ?_) (fun h => ?_)
  · try simp only [hb h, go_sem, Nat.reduceAdd, Nat.reduceMul, Nat.reduceSub, Nat.reduceEqDiff, Nat.reduceLT, Nat.reduceLeDiff, Nat.reduceBEq, reduceIte, reduceCtorEq, Int.reduceAdd, Int.reduceLT, Int.reduceLE, Int.reduceGT, Int.reduceGE, Int.reduceEq, Int.reduceNe, Int.reduceBEq, Int.reduceBNe, Int.reduceToNat, Int.reduceNeg]
  · try (refine ev ?_; try exact True.intro)
    omega

theorem cloneI_ok (l : List Int) (hl : l.length ≤ 1000000) :
    ACall Try.prog 98 [.d (.sl 1 (l.map encI))] [] (.d (.sl 1 (l.map encI))) [] := by
  first | refine F98.go ?_ | refine F98.goT ?_
  simp only [go_sem, Nat.reduceAdd, Nat.reduceMul, Nat.reduceSub, Nat.reduceEqDiff, Nat.reduceLT, Nat.reduceLeDiff, Nat.reduceBEq, reduceIte, reduceCtorEq, Int.reduceAdd, Int.reduceLT, Int.reduceLE, Int.reduceGT, Int.reduceGE, Int.reduceEq, Int.reduceNe, Int.reduceBEq, Int.reduceBNe, Int.reduceToNat, Int.reduceNeg]
  refine nilO_of rfl rfl (fun b hb => ?_)
  try (refine ev ?_; try exact True.intro)
  refine AWp_cond _ rfl rfl (fun h => ?_) (fun h => ?_)
  · try simp only [hb h, go_sem, Nat.reduceAdd, Nat.reduceMul, Nat.reduceSub, Nat.reduceEqDiff, Nat.reduceLT, Nat.reduceLeDiff, Nat.reduceBEq, reduceIte, reduceCtorEq, Int.reduceAdd, Int.reduceLT, Int.reduceLE, Int.reduceGT, Int.reduceGE, Int.reduceEq, Int.reduceNe, Int.reduceBEq, Int.reduceBNe, Int.reduceToNat, Int.reduceNeg]
  · try (refine ev ?_; try exact True.intro)
    omega

theorem eqI_ok (l m : List Int) (hl : l.length ≤ maxLen) :
    ACall Try.prog 74 [.d (.sl 1 (l.map encI)), .d (.sl 1 (m.map encI))] [] (.d (.bool (decide (l = m)))) [] := by
  first | refine F74.go ?_ | refine F74.goT ?_
  simp only [go_sem, Nat.reduceAdd, Nat.reduceMul, Nat.reduceSub, Nat.reduceEqDiff, Nat.reduceLT, Nat.reduceLeDiff, Nat.reduceBEq, reduceIte, reduceCtorEq, Int.reduceAdd, Int.reduceLT, Int.reduceLE, Int.reduceGT, Int.reduceGE, Int.reduceEq, Int.reduceNe, Int.reduceBEq, Int.reduceBNe, Int.reduceToNat, Int.reduceNeg]
  refine AWp_cond _ rfl rfl (fun h => ?_) (fun h => ?_)
  · have hne : decide (l = m) = false := by rw [decide_eq_false_iff_not]; rintro rfl; simp at h
    try simp only [hne, go_sem, Nat.reduceAdd, Nat.reduceMul, Nat.reduceSub, Nat.reduceEqDiff, Nat.reduceLT, Nat.reduceLeDiff, Nat.reduceBEq, reduceIte, reduceCtorEq, Int.reduceAdd, Int.reduceLT, Int.reduceLE, Int.reduceGT, Int.reduceGE, Int.reduceEq, Int.reduceNe, Int.reduceBEq, Int.reduceBNe, Int.reduceToNat, Int.reduceNeg]
  · have hlm : l.length = m.length := by simp at h; omega
    try (refine ev ?_; try exact True.intro)
    refine AWp_loop (Seq 1 encI l m) (fun i => l.length - i.val) ⟨0, rfl⟩ ?_ (fun i => ?_)
    · try simp only [Seq, go_sem, Nat.reduceAdd, Nat.reduceMul, Nat.reduceSub, Nat.reduceEqDiff, Nat.reduceLT, Nat.reduceLeDiff, Nat.reduceBEq, reduceIte, reduceCtorEq, Int.reduceAdd, Int.reduceLT, Int.reduceLE, Int.reduceGT, Int.reduceGE, Int.reduceEq, Int.reduceNe, Int.reduceBEq, Int.reduceBNe, Int.reduceToNat, Int.reduceNeg]
    · obtain ⟨i, hi⟩ := i
      try simp only [Seq, go_sem, Nat.reduceAdd, Nat.reduceMul, Nat.reduceSub, Nat.reduceEqDiff, Nat.reduceLT, Nat.reduceLeDiff, Nat.reduceBEq, reduceIte, reduceCtorEq, Int.reduceAdd, Int.reduceLT, Int.reduceLE, Int.reduceGT, Int.reduceGE, Int.reduceEq, Int.reduceNe, Int.reduceBEq, Int.reduceBNe, Int.reduceToNat, Int.reduceNeg]
      refine AWp_cond _ rfl rfl (fun h => ?_) (fun h => ?_)
      · have hil : i < l.length := by simpa using h
        have him : i < m.length := by omega
        try simp only [getD_map encI l hil, getD_map encI m him, encI, go_sem, Nat.reduceAdd, Nat.reduceMul, Nat.reduceSub, Nat.reduceEqDiff, Nat.reduceLT, Nat.reduceLeDiff, Nat.reduceBEq, reduceIte, reduceCtorEq, Int.reduceAdd, Int.reduceLT, Int.reduceLE, Int.reduceGT, Int.reduceGE, Int.reduceEq, Int.reduceNe, Int.reduceBEq, Int.reduceBNe, Int.reduceToNat, Int.reduceNeg]
        refine ⟨by omega, by omega, ?_⟩
        refine AWp_cond _ rfl rfl (fun h2 => ?_) (fun h2 => ?_)
        · have hne : l[i] ≠ m[i] := by simpa using h2
          try simp only [eq_ne hil him hne, go_sem, Nat.reduceAdd, Nat.reduceMul, Nat.reduceSub, Nat.reduceEqDiff, Nat.reduceLT, Nat.reduceLeDiff, Nat.reduceBEq, reduceIte, reduceCtorEq, Int.reduceAdd, Int.reduceLT, Int.reduceLE, Int.reduceGT, Int.reduceGE, Int.reduceEq, Int.reduceNe, Int.reduceBEq, Int.reduceBNe, Int.reduceToNat, Int.reduceNeg]
        · have he : l[i] = m[i] := by simpa using h2
          try (refine ev ?_; try exact True.intro)
          refine ⟨⟨i + 1, take_eq_succ hi hil him he⟩, ?_, by dsimp only; omega⟩
          try simp only [Seq, wrap_succ (show i < 9223372036854775807 by unfold maxLen at hl; omega), go_sem, Nat.reduceAdd, Nat.reduceMul, Nat.reduceSub, Nat.reduceEqDiff, Nat.reduceLT, Nat.reduceLeDiff, Nat.reduceBEq, reduceIte, reduceCtorEq, Int.reduceAdd, Int.reduceLT, Int.reduceLE, Int.reduceGT, Int.reduceGE, Int.reduceEq, Int.reduceNe, Int.reduceBEq, Int.reduceBNe, Int.reduceToNat, Int.reduceNeg]
      · have he : decide (l = m) = true := by
          have : l.length ≤ i := by simpa using h
          rw [List.take_of_length_le this, List.take_of_length_le (by omega)] at hi
          simp [hi]
        try simp only [he, go_sem, Nat.reduceAdd, Nat.reduceMul, Nat.reduceSub, Nat.reduceEqDiff, Nat.reduceLT, Nat.reduceLeDiff, Nat.reduceBEq, reduceIte, reduceCtorEq, Int.reduceAdd, Int.reduceLT, Int.reduceLE, Int.reduceGT, Int.reduceGE, Int.reduceEq, Int.reduceNe, Int.reduceBEq, Int.reduceBNe, Int.reduceToNat, Int.reduceNeg]

theorem beq_Pk (p q : Pk) : (p.kind == q.kind && p.sess == q.sess && p.epoch == q.epoch && p.from_ == q.from_ && p.to == q.to && p.seq == q.seq && p.label == q.label && decide (p.values = q.values) && decide (p.clock = q.clock)) = decide (p = q) := by
  obtain ⟨a1, a2, a3, a4, a5, a6, a7, a8, a9⟩ := p
  obtain ⟨b1, b2, b3, b4, b5, b6, b7, b8, b9⟩ := q
  rw [Bool.eq_iff_iff]
  simp [and_assoc]

set_option maxRecDepth 10000 in
theorem pkEqual_ok (p q : Pk) (h1 : p.values.length ≤ maxLen) (h2 : p.clock.length ≤ maxLen) :
    ACall Try.prog 36 [.d (.agg (encPk p)), .d (.agg (encPk q))] [] (.d (.bool (decide (p = q)))) [] := by
  first | refine F36.go ?_ | refine F36.goT ?_
  simp only [encPk, go_sem, Nat.reduceAdd, Nat.reduceMul, Nat.reduceSub, Nat.reduceEqDiff, Nat.reduceLT, Nat.reduceLeDiff, Nat.reduceBEq, reduceIte, reduceCtorEq, Int.reduceAdd, Int.reduceLT, Int.reduceLE, Int.reduceGT, Int.reduceGE, Int.reduceEq, Int.reduceNe, Int.reduceBEq, Int.reduceBNe, Int.reduceToNat, Int.reduceNeg]
  (repeat (with_reducible refine ob ?_)); refine cl F73 (eqV_ok p.values q.values h1) ?_
  try (refine ev ?_; try exact True.intro)
  (repeat (with_reducible refine ob ?_)); refine cl F74 (eqI_ok p.clock q.clock h2) ?_
  try simp only [beq_Pk, go_sem, Nat.reduceAdd, Nat.reduceMul, Nat.reduceSub, Nat.reduceEqDiff, Nat.reduceLT, Nat.reduceLeDiff, Nat.reduceBEq, reduceIte, reduceCtorEq, Int.reduceAdd, Int.reduceLT, Int.reduceLE, Int.reduceGT, Int.reduceGE, Int.reduceEq, Int.reduceNe, Int.reduceBEq, Int.reduceBNe, Int.reduceToNat, Int.reduceNeg]
end Go.Proofs.Ythcpckcgjplhiaa

/- Queues: what the functions of package queue answer. -/
namespace Go.Proofs.Ythcpckcgjplhiaa
open Go.Abs
set_option linter.unusedSimpArgs false

/-- All numbers below n pass. -/
def allTo (g : Nat → Bool) (n : Nat) : Bool := (List.range n).all g
theorem allTo_succ (g : Nat → Bool) (n : Nat) : allTo g (n + 1) = (allTo g n && g n) := by simp [allTo, List.range_succ]
theorem allTo_step {g : Nat → Bool} {n : Nat} (h : allTo g n = true) (hg : g n = true) : allTo g (n + 1) = true := by rw [allTo_succ, h, hg]; rfl
theorem allTo_no {g : Nat → Bool} {i n : Nat} (hi : i < n) (hg : g i = false) : allTo g n = false := by
  simp only [allTo, List.all_eq_false]
  exact ⟨i, by simpa using hi, by simp [hg]⟩
theorem allTo_iff {g : Nat → Bool} {n : Nat} : allTo g n = true ↔ ∀ i, i < n → g i = true := by simp [allTo]

structure Qu where
  acc : Int
  cons : Int
  items : List Pk
  deriving DecidableEq, Inhabited

def encQ (q : Qu) : List D := [.int .i64 q.acc, .int .i64 q.cons, .sl 9 (q.items.map encPk)]
theorem encQ_noPtr (q : Qu) : D.noPtrL (encQ q) = true := by simp only [encQ, go_sem, Nat.reduceAdd, Nat.reduceMul, Nat.reduceSub, Nat.reduceEqDiff, Nat.reduceLT, Nat.reduceLeDiff, Nat.reduceBEq, reduceIte, reduceCtorEq, Int.reduceAdd, Int.reduceLT, Int.reduceLE, Int.reduceGT, Int.reduceGE, Int.reduceEq, Int.reduceNe, Int.reduceBEq, Int.reduceBNe, Int.reduceToNat, Int.reduceNeg]
attribute [go_sem] encQ_noPtr

/-- Few values. -/
def Pk.Sm (p : Pk) : Prop := p.values.length ≤ 1000 ∧ p.clock.length ≤ 1000
def Qu.Sm (q : Qu) : Prop := q.items.length ≤ 1000 ∧ ∀ p ∈ q.items, p.Sm
theorem Pk.Sm.v {p : Pk} (h : p.Sm) : p.values.length ≤ maxLen := by have := h.1; unfold maxLen; omega
theorem Pk.Sm.c {p : Pk} (h : p.Sm) : p.clock.length ≤ maxLen := by have := h.2; unfold maxLen; omega

section
variable {P : Program} {k0 o : Nat} {p : List (Nat × Nat)} {Q : SExit → St → Prop} {st : St}
noncomputable def s70r0 : List SOper := [
  ⟨some 1, .box 1 (.t 0), none⟩,
  ⟨some 2, .mov (.k (.d (.bool false))), none⟩]
noncomputable def s70r1 : List SOper := [
  ⟨some 3, .faddr 0 (.t 1), none⟩,
  ⟨some 4, .load none (.t 3), none⟩,
  ⟨some 5, .bin .eql (.t 4) (.k (.d (.int .i64 1))), none⟩,
  ⟨some 6, .mov (.t 5), none⟩,
  ⟨some 7, .load (some 9) (.t 1), some (6, true)⟩,
  ⟨some 8, .call (.k (.d (.func (.func 47) [] []))) [(.t 7)], some (6, true)⟩,
  ⟨some 9, .pick (.t 6) (.t 8) (.k (.d (.bool false))), none⟩,
  ⟨some 2, .mov (.t 9), none⟩]
noncomputable def s70 : SCode := (.seq (.region s70r0 1 []) (.seq (.region s70r1 0 []) .ret))
theorem e70 : AWp P k0 s70 Q st = AWp P k0 (.seq (.region s70r0 1 []) (.seq (.region s70r1 0 []) .ret)) Q st := rfl
theorem u70r0 : goReg P s70r0 o p Q st = goLit P (litOf s70r0.eq_1) o p Q st := goReg_of _
theorem u70r1 : goReg P s70r1 o p Q st = goLit P (litOf s70r1.eq_1) o p Q st := goReg_of _
attribute [go_sem] u70r0 u70r1 e70
set_option maxRecDepth 100000 in
theorem F70 : FnIs Try.prog 70 Try.f70 [] news s70 [.tmp 2] 10 := ⟨follows, Try.func70, by kernel_rfl, by kernel_rfl, by kernel_rfl, by kernel_rfl⟩

noncomputable def s71r0 : List SOper := [
  ⟨some 2, .box 2 (.t 0), none⟩,
  ⟨some 3, .box 1 (.t 1), none⟩,
  ⟨some 4, .mov (.k (.d (.bool false))), none⟩]
noncomputable def s71r1 : List SOper := [
  ⟨some 5, .faddr 1 (.t 2), none⟩,
  ⟨some 6, .load none (.t 5), none⟩,
  ⟨some 7, .faddr 1 (.t 3), none⟩,
  ⟨some 8, .load none (.t 7), none⟩,
  ⟨some 9, .bin .eql (.t 6) (.t 8), none⟩,
  ⟨some 10, .mov (.t 9), none⟩,
  ⟨some 11, .faddr 3 (.t 2), some (10, true)⟩,
  ⟨some 12, .load none (.t 11), some (10, true)⟩,
  ⟨some 13, .faddr 3 (.t 3), some (10, true)⟩,
  ⟨some 14, .load none (.t 13), some (10, true)⟩,
  ⟨some 15, .bin .eql (.t 12) (.t 14), some (10, true)⟩,
  ⟨some 16, .pick (.t 10) (.t 15) (.k (.d (.bool false))), none⟩,
  ⟨some 17, .mov (.t 16), none⟩,
  ⟨some 18, .faddr 4 (.t 2), some (17, true)⟩,
  ⟨some 19, .load none (.t 18), some (17, true)⟩,
  ⟨some 20, .faddr 4 (.t 3), some (17, true)⟩,
  ⟨some 21, .load none (.t 20), some (17, true)⟩,
  ⟨some 22, .bin .eql (.t 19) (.t 21), some (17, true)⟩,
  ⟨some 23, .pick (.t 17) (.t 22) (.k (.d (.bool false))), none⟩,
  ⟨some 4, .mov (.t 23), none⟩]
noncomputable def s71 : SCode := (.seq (.region s71r0 2 []) (.seq (.region s71r1 0 []) .ret))
theorem e71 : AWp P k0 s71 Q st = AWp P k0 (.seq (.region s71r0 2 []) (.seq (.region s71r1 0 []) .ret)) Q st := rfl
theorem u71r0 : goReg P s71r0 o p Q st = goLit P (litOf s71r0.eq_1) o p Q st := goReg_of _
theorem u71r1 : goReg P s71r1 o p Q st = goLit P (litOf s71r1.eq_1) o p Q st := goReg_of _
attribute [go_sem] u71r0 u71r1 e71
set_option maxRecDepth 100000 in
theorem F71 : FnIs Try.prog 71 Try.f71 [] news s71 [.tmp 4] 24 := ⟨follows, Try.func71, by kernel_rfl, by kernel_rfl, by kernel_rfl, by kernel_rfl⟩

noncomputable def s32r0 : List SOper := [
  ⟨some 1, .box 1 (.t 0), none⟩,
  ⟨some 2, .mov (.k (.d (.bool false))), none⟩]
noncomputable def s32r1 : List SOper := [
  ⟨some 5, .faddr 2 (.t 1), none⟩,
  ⟨some 6, .load none (.t 5), none⟩,
  ⟨some 7, .len (.t 6), none⟩,
  ⟨some 8, .mov (.k (.d (.int .i64 0))), none⟩]
noncomputable def s32r2 : List SOper := [
  ⟨some 9, .bin .lss (.t 8) (.t 7), none⟩]
noncomputable def s32r3 : List SOper := [
  ⟨some 10, .mov (.t 8), none⟩,
  ⟨some 11, .iaddr 9 (.t 6) (.t 8), none⟩,
  ⟨some 12, .load (some 9) (.t 11), none⟩,
  ⟨some 4, .alloc 1 [(.d (.int .i64 0)), (.d (.int .i64 0)), (.d (.int .i64 0)), (.d (.int .i64 0)), (.d (.int .i64 0)), (.d (.int .i64 0)), (.d (.int .i64 0)), (.d .nilsl), (.d .nilsl)], none⟩,
  ⟨some 3, .mov (.t 10), none⟩,
  ⟨none, .store (some 9) (.t 4) (.t 12), none⟩]
noncomputable def s32r4 : List SOper := [
  ⟨some 13, .load (some 9) (.t 4), none⟩,
  ⟨some 14, .call (.k (.d (.func (.func 70) [] []))) [(.t 13)], none⟩,
  ⟨some 15, .not (.t 14), none⟩,
  ⟨some 16, .mov (.t 15), none⟩,
  ⟨some 17, .load (some 9) (.t 4), some (16, false)⟩,
  ⟨some 18, .faddr 2 (.t 1), some (16, false)⟩,
  ⟨some 19, .load none (.t 18), some (16, false)⟩,
  ⟨some 20, .iaddr 9 (.t 19) (.k (.d (.int .i64 0))), some (16, false)⟩,
  ⟨some 21, .load (some 9) (.t 20), some (16, false)⟩,
  ⟨some 22, .call (.k (.d (.func (.func 71) [] []))) [(.t 17), (.t 21)], some (16, false)⟩,
  ⟨some 23, .not (.t 22), some (16, false)⟩,
  ⟨some 24, .pick (.t 16) (.k (.d (.bool true))) (.t 23), none⟩,
  ⟨some 25, .mov (.t 24), none⟩,
  ⟨some 26, .faddr 5 (.t 4), some (25, false)⟩,
  ⟨some 27, .load none (.t 26), some (25, false)⟩,
  ⟨some 28, .faddr 1 (.t 1), some (25, false)⟩,
  ⟨some 29, .load none (.t 28), some (25, false)⟩,
  ⟨some 30, .bin .add (.t 29) (.k (.d (.int .i64 1))), some (25, false)⟩,
  ⟨some 31, .mov (.t 3), some (25, false)⟩,
  ⟨some 32, .bin .add (.t 30) (.t 31), some (25, false)⟩,
  ⟨some 33, .bin .neq (.t 27) (.t 32), some (25, false)⟩,
  ⟨some 34, .pick (.t 25) (.k (.d (.bool true))) (.t 33), none⟩]
noncomputable def s32r5 : List SOper := [
  ⟨some 2, .mov (.k (.d (.bool false))), none⟩]
noncomputable def s32r6 : List SOper := [
  ⟨some 35, .bin .add (.t 8) (.k (.d (.int .i64 1))), none⟩,
  ⟨some 8, .mov (.t 35), none⟩]
noncomputable def s32l7 : SCode := (.seq (.region s32r2 0 []) (.seq (.cond (.t 9) .skip (.exit 0)) (.seq (.block 1 (.seq (.region s32r3 1 []) (.seq (.region s32r4 0 []) (.cond (.t 34) (.seq (.region s32r5 0 []) .ret) .skip)))) (.region s32r6 0 []))))
theorem e32l7 : AWp P k0 s32l7 Q st = AWp P k0 (.seq (.region s32r2 0 []) (.seq (.cond (.t 9) .skip (.exit 0)) (.seq (.block 1 (.seq (.region s32r3 1 []) (.seq (.region s32r4 0 []) (.cond (.t 34) (.seq (.region s32r5 0 []) .ret) .skip)))) (.region s32r6 0 [])))) Q st := rfl
noncomputable def s32r8 : List SOper := [
  ⟨some 36, .faddr 1 (.t 1), none⟩,
  ⟨some 37, .load none (.t 36), none⟩,
  ⟨some 38, .bin .geq (.t 37) (.k (.d (.int .i64 0))), none⟩,
  ⟨some 39, .mov (.t 38), none⟩,
  ⟨some 40, .faddr 1 (.t 1), some (39, true)⟩,
  ⟨some 41, .load none (.t 40), some (39, true)⟩,
  ⟨some 42, .faddr 0 (.t 1), some (39, true)⟩,
  ⟨some 43, .load none (.t 42), some (39, true)⟩,
  ⟨some 44, .bin .leq (.t 41) (.t 43), some (39, true)⟩,
  ⟨some 45, .pick (.t 39) (.t 44) (.k (.d (.bool false))), none⟩,
  ⟨some 46, .mov (.t 45), none⟩,
  ⟨some 47, .faddr 0 (.t 1), some (46, true)⟩,
  ⟨some 48, .load none (.t 47), some (46, true)⟩,
  ⟨some 49, .bin .leq (.t 48) (.k (.d (.int .i64 1099511627776))), some (46, true)⟩,
  ⟨some 50, .pick (.t 46) (.t 49) (.k (.d (.bool false))), none⟩,
  ⟨some 51, .mov (.t 50), none⟩,
  ⟨some 52, .faddr 2 (.t 1), some (51, true)⟩,
  ⟨some 53, .load none (.t 52), some (51, true)⟩,
  ⟨some 54, .len (.t 53), some (51, true)⟩,
  ⟨some 55, .faddr 0 (.t 1), some (51, true)⟩,
  ⟨some 56, .load none (.t 55), some (51, true)⟩,
  ⟨some 57, .faddr 1 (.t 1), some (51, true)⟩,
  ⟨some 58, .load none (.t 57), some (51, true)⟩,
  ⟨some 59, .bin .sub (.t 56) (.t 58), some (51, true)⟩,
  ⟨some 60, .bin .eql (.t 54) (.t 59), some (51, true)⟩,
  ⟨some 61, .pick (.t 51) (.t 60) (.k (.d (.bool false))), none⟩,
  ⟨some 62, .mov (.t 61), none⟩,
  ⟨some 63, .faddr 2 (.t 1), some (62, true)⟩,
  ⟨some 64, .load none (.t 63), some (62, true)⟩,
  ⟨some 65, .len (.t 64), some (62, true)⟩,
  ⟨some 66, .bin .leq (.t 65) (.k (.d (.int .i64 4))), some (62, true)⟩,
  ⟨some 67, .pick (.t 62) (.t 66) (.k (.d (.bool false))), none⟩,
  ⟨some 2, .mov (.t 67), none⟩]
noncomputable def s32 : SCode := (.seq (.region s32r0 1 []) (.seq (.seq (.region s32r1 0 []) (.block 0 (.loop s32l7))) (.seq (.region s32r8 0 []) .ret)))
theorem e32 : AWp P k0 s32 Q st = AWp P k0 (.seq (.region s32r0 1 []) (.seq (.seq (.region s32r1 0 []) (.block 0 (.loop s32l7))) (.seq (.region s32r8 0 []) .ret))) Q st := rfl
theorem u32r0 : goReg P s32r0 o p Q st = goLit P (litOf s32r0.eq_1) o p Q st := goReg_of _
theorem u32r1 : goReg P s32r1 o p Q st = goLit P (litOf s32r1.eq_1) o p Q st := goReg_of _
theorem u32r2 : goReg P s32r2 o p Q st = goLit P (litOf s32r2.eq_1) o p Q st := goReg_of _
theorem u32r3 : goReg P s32r3 o p Q st = goLit P (litOf s32r3.eq_1) o p Q st := goReg_of _
theorem u32r4 : goReg P s32r4 o p Q st = goLit P (litOf s32r4.eq_1) o p Q st := goReg_of _
theorem u32r5 : goReg P s32r5 o p Q st = goLit P (litOf s32r5.eq_1) o p Q st := goReg_of _
theorem u32r6 : goReg P s32r6 o p Q st = goLit P (litOf s32r6.eq_1) o p Q st := goReg_of _
theorem u32r8 : goReg P s32r8 o p Q st = goLit P (litOf s32r8.eq_1) o p Q st := goReg_of _
attribute [go_sem] u32r0 u32r1 u32r2 u32r3 u32r4 u32r5 u32r6 e32l7 u32r8 e32
set_option maxRecDepth 100000 in
theorem F32 : FnIs Try.prog 32 Try.f32 [] news s32 [.tmp 2] 68 := ⟨follows, Try.func32, by kernel_rfl, by kernel_rfl, by kernel_rfl, by kernel_rfl⟩

noncomputable def s72r0 : List SOper := [
  ⟨some 1, .box 2 (.t 0), none⟩,
  ⟨some 2, .alloc 1 [(.d (.int .i64 0)), (.d (.int .i64 0)), (.d (.int .i64 0)), (.d (.int .i64 0)), (.d (.int .i64 0)), (.d (.int .i64 0)), (.d (.int .i64 0)), (.d .nilsl), (.d .nilsl)], none⟩]
noncomputable def s72r1 : List SOper := [
  ⟨some 3, .faddr 7 (.t 1), none⟩,
  ⟨some 4, .load none (.t 3), none⟩,
  ⟨some 5, .call (.k (.d (.func (.func 97) [] []))) [(.t 4)], none⟩,
  ⟨some 6, .faddr 8 (.t 1), none⟩,
  ⟨some 7, .load none (.t 6), none⟩,
  ⟨some 8, .call (.k (.d (.func (.func 98) [] []))) [(.t 7)], none⟩,
  ⟨some 9, .faddr 7 (.t 1), none⟩,
  ⟨none, .store none (.t 9) (.t 5), none⟩,
  ⟨some 10, .faddr 8 (.t 1), none⟩,
  ⟨none, .store none (.t 10) (.t 8), none⟩]
noncomputable def s72r2 : List SOper := [
  ⟨some 11, .load (some 9) (.t 1), none⟩,
  ⟨none, .store (some 9) (.t 2) (.t 11), none⟩]
noncomputable def s72 : SCode := (.seq (.region s72r0 2 []) (.seq (.region s72r1 0 [(2, 4)]) (.seq (.region s72r2 0 []) .ret)))
theorem e72 : AWp P k0 s72 Q st = AWp P k0 (.seq (.region s72r0 2 []) (.seq (.region s72r1 0 [(2, 4)]) (.seq (.region s72r2 0 []) .ret))) Q st := rfl
theorem u72r0 : goReg P s72r0 o p Q st = goLit P (litOf s72r0.eq_1) o p Q st := goReg_of _
theorem u72r1 : goReg P s72r1 o p Q st = goLit P (litOf s72r1.eq_1) o p Q st := goReg_of _
theorem u72r2 : goReg P s72r2 o p Q st = goLit P (litOf s72r2.eq_1) o p Q st := goReg_of _
attribute [go_sem] u72r0 u72r1 u72r2 e72
set_option maxRecDepth 100000 in
theorem F72 : FnIs Try.prog 72 Try.f72 [] news s72 [.cell 2 (some 9)] 12 := ⟨follows, Try.func72, by kernel_rfl, by kernel_rfl, by kernel_rfl, by kernel_rfl⟩

noncomputable def s68r0 : List SOper := [
  ⟨some 2, .mov (.k (.d .nilsl)), none⟩]
noncomputable def s68r1 : List SOper := [
  ⟨some 3, .mov (.k (.d .nilsl)), none⟩]
noncomputable def s68r2 : List SOper := [
  ⟨some 6, .mov (.t 0), none⟩,
  ⟨some 7, .len (.t 6), none⟩,
  ⟨some 8, .mov (.k (.d (.int .i64 0))), none⟩]
noncomputable def s68r3 : List SOper := [
  ⟨some 9, .bin .lss (.t 8) (.t 7), none⟩]
noncomputable def s68r4 : List SOper := [
  ⟨some 10, .iaddr 9 (.t 6) (.t 8), none⟩,
  ⟨some 11, .load (some 9) (.t 10), none⟩,
  ⟨some 5, .alloc 1 [(.d (.int .i64 0)), (.d (.int .i64 0)), (.d (.int .i64 0)), (.d (.int .i64 0)), (.d (.int .i64 0)), (.d (.int .i64 0)), (.d (.int .i64 0)), (.d .nilsl), (.d .nilsl)], none⟩,
  ⟨none, .store (some 9) (.t 5) (.t 11), none⟩]
noncomputable def s68r5 : List SOper := [
  ⟨some 12, .mov (.t 3), none⟩,
  ⟨some 13, .load (some 9) (.t 5), none⟩,
  ⟨some 14, .call (.k (.d (.func (.func 72) [] []))) [(.t 13)], none⟩,
  ⟨some 15, .buildSlice false 9 1 [(.int .i64 0), (.int .i64 0), (.int .i64 0), (.int .i64 0), (.int .i64 0), (.int .i64 0), (.int .i64 0), .nilsl, .nilsl] [(0, 9, (.t 14))], none⟩,
  ⟨some 16, .append false 9 104 (.t 12) (.t 15), none⟩,
  ⟨some 3, .mov (.t 16), none⟩]
noncomputable def s68r6 : List SOper := [
  ⟨some 17, .bin .add (.t 8) (.k (.d (.int .i64 1))), none⟩,
  ⟨some 8, .mov (.t 17), none⟩]
noncomputable def s68l7 : SCode := (.seq (.region s68r3 0 []) (.seq (.cond (.t 9) .skip (.exit 0)) (.seq (.block 1 (.seq (.region s68r4 1 []) (.region s68r5 0 []))) (.region s68r6 0 []))))
theorem e68l7 : AWp P k0 s68l7 Q st = AWp P k0 (.seq (.region s68r3 0 []) (.seq (.cond (.t 9) .skip (.exit 0)) (.seq (.block 1 (.seq (.region s68r4 1 []) (.region s68r5 0 []))) (.region s68r6 0 [])))) Q st := rfl
noncomputable def s68r8 : List SOper := [
  ⟨some 18, .mov (.t 3), none⟩,
  ⟨some 2, .mov (.t 18), none⟩]
noncomputable def s68 : SCode := (.seq (.region s68r0 0 []) (.seq (.region s68r1 0 []) (.seq (.seq (.region s68r2 0 []) (.block 0 (.loop s68l7))) (.seq (.region s68r8 0 []) .ret))))
theorem e68 : AWp P k0 s68 Q st = AWp P k0 (.seq (.region s68r0 0 []) (.seq (.region s68r1 0 []) (.seq (.seq (.region s68r2 0 []) (.block 0 (.loop s68l7))) (.seq (.region s68r8 0 []) .ret)))) Q st := rfl
theorem u68r0 : goReg P s68r0 o p Q st = goLit P (litOf s68r0.eq_1) o p Q st := goReg_of _
theorem u68r1 : goReg P s68r1 o p Q st = goLit P (litOf s68r1.eq_1) o p Q st := goReg_of _
theorem u68r2 : goReg P s68r2 o p Q st = goLit P (litOf s68r2.eq_1) o p Q st := goReg_of _
theorem u68r3 : goReg P s68r3 o p Q st = goLit P (litOf s68r3.eq_1) o p Q st := goReg_of _
theorem u68r4 : goReg P s68r4 o p Q st = goLit P (litOf s68r4.eq_1) o p Q st := goReg_of _
theorem u68r5 : goReg P s68r5 o p Q st = goLit P (litOf s68r5.eq_1) o p Q st := goReg_of _
theorem u68r6 : goReg P s68r6 o p Q st = goLit P (litOf s68r6.eq_1) o p Q st := goReg_of _
theorem u68r8 : goReg P s68r8 o p Q st = goLit P (litOf s68r8.eq_1) o p Q st := goReg_of _
attribute [go_sem] u68r0 u68r1 u68r2 u68r3 u68r4 u68r5 u68r6 e68l7 u68r8 e68
set_option maxRecDepth 100000 in
theorem F68 : FnIs Try.prog 68 Try.f68 [] news s68 [.tmp 2] 19 := ⟨follows, Try.func68, by kernel_rfl, by kernel_rfl, by kernel_rfl, by kernel_rfl⟩

end

def message (p : Pk) : Bool := p.kind == 1 && packetValid p
theorem message_ok (p : Pk) (hp : p.Sm) : ACall Try.prog 70 [.d (.agg (encPk p))] [] (.d (.bool (message p))) [] := by
  first | refine F70.go ?_ | refine F70.goT ?_
  simp only [encPk, go_sem, Nat.reduceAdd, Nat.reduceMul, Nat.reduceSub, Nat.reduceEqDiff, Nat.reduceLT, Nat.reduceLeDiff, Nat.reduceBEq, reduceIte, reduceCtorEq, Int.reduceAdd, Int.reduceLT, Int.reduceLE, Int.reduceGT, Int.reduceGE, Int.reduceEq, Int.reduceNe, Int.reduceBEq, Int.reduceBNe, Int.reduceToNat, Int.reduceNeg]
  (repeat (with_reducible refine ob ?_)); first | refine cl F47 (packetValid_ok p hp.v hp.c) ?_ | refine clF F47 (packetValid_ok p hp.v hp.c) (fun _ => by simp only [encPk, encQ, go_sem, Nat.reduceAdd, Nat.reduceMul, Nat.reduceSub, Nat.reduceEqDiff, Nat.reduceLT, Nat.reduceLeDiff, Nat.reduceBEq, reduceIte, reduceCtorEq, Int.reduceAdd, Int.reduceLT, Int.reduceLE, Int.reduceGT, Int.reduceGE, Int.reduceEq, Int.reduceNe, Int.reduceBEq, Int.reduceBNe, Int.reduceToNat, Int.reduceNeg]) ?_
  try (refine ev ?_; try exact True.intro)
  rfl

def alike (p q : Pk) : Bool := p.sess == q.sess && p.from_ == q.from_ && p.to == q.to
theorem alike_ok (p q : Pk) : ACall Try.prog 71 [.d (.agg (encPk p)), .d (.agg (encPk q))] [] (.d (.bool (alike p q))) [] := by
  first | refine F71.go ?_ | refine F71.goT ?_
  simp only [encPk, go_sem, Nat.reduceAdd, Nat.reduceMul, Nat.reduceSub, Nat.reduceEqDiff, Nat.reduceLT, Nat.reduceLeDiff, Nat.reduceBEq, reduceIte, reduceCtorEq, Int.reduceAdd, Int.reduceLT, Int.reduceLE, Int.reduceGT, Int.reduceGE, Int.reduceEq, Int.reduceNe, Int.reduceBEq, Int.reduceBNe, Int.reduceToNat, Int.reduceNeg]
  rfl

def qItem (q : Qu) (i : Nat) : Bool :=
  message (q.items.getD i default) && alike (q.items.getD i default) (q.items.getD 0 default) && (q.items.getD i default).seq == IntKind.i64.wrap (IntKind.i64.wrap (q.cons + 1) + (i : Int))
def qValid (q : Qu) : Bool := allTo (qItem q) q.items.length && (decide (q.cons ≥ 0) && decide (q.cons ≤ q.acc) && decide (q.acc ≤ 1099511627776) && ((q.items.length : Int) == IntKind.i64.wrap (q.acc - q.cons)) && decide ((q.items.length : Int) ≤ 4))

def SqValid (q : Qu) (i : { i : Nat // allTo (qItem q) i = true }) : St :=
  ⟨[(1, true, .d (.ptr 0 0)), (6, true, .d (.sl 9 (q.items.map encPk))), (7, true, .d (.int .i64 q.items.length)), (8, true, .d (.int .i64 (i.val : Nat)))],
   [.row [.d (.int .i64 q.acc), .d (.int .i64 q.cons), .d (.sl 9 (q.items.map encPk))]], [], 1⟩

theorem getD_lt {α : Type} {l : List α} {i : Nat} (h : i < l.length) (d : α) : l.getD i d = l[i] := by simp [List.getD, h]

set_option maxRecDepth 10000 in
theorem qValid_ok (q : Qu) (hq : q.Sm) : ACall Try.prog 32 [.d (.agg (encQ q))] [] (.d (.bool (qValid q))) [] := by
  have hl := hq.1
  first | refine F32.go ?_ | refine F32.goT ?_
  simp only [encQ, go_sem, Nat.reduceAdd, Nat.reduceMul, Nat.reduceSub, Nat.reduceEqDiff, Nat.reduceLT, Nat.reduceLeDiff, Nat.reduceBEq, reduceIte, reduceCtorEq, Int.reduceAdd, Int.reduceLT, Int.reduceLE, Int.reduceGT, Int.reduceGE, Int.reduceEq, Int.reduceNe, Int.reduceBEq, Int.reduceBNe, Int.reduceToNat, Int.reduceNeg]
  refine AWp_loop (SqValid q) (fun i => q.items.length - i.val) ⟨0, rfl⟩ ?_ (fun i => ?_)
  · try simp only [SqValid, go_sem, Nat.reduceAdd, Nat.reduceMul, Nat.reduceSub, Nat.reduceEqDiff, Nat.reduceLT, Nat.reduceLeDiff, Nat.reduceBEq, reduceIte, reduceCtorEq, Int.reduceAdd, Int.reduceLT, Int.reduceLE, Int.reduceGT, Int.reduceGE, Int.reduceEq, Int.reduceNe, Int.reduceBEq, Int.reduceBNe, Int.reduceToNat, Int.reduceNeg]
  · obtain ⟨i, hi⟩ := i
    try simp only [SqValid, go_sem, Nat.reduceAdd, Nat.reduceMul, Nat.reduceSub, Nat.reduceEqDiff, Nat.reduceLT, Nat.reduceLeDiff, Nat.reduceBEq, reduceIte, reduceCtorEq, Int.reduceAdd, Int.reduceLT, Int.reduceLE, Int.reduceGT, Int.reduceGE, Int.reduceEq, Int.reduceNe, Int.reduceBEq, Int.reduceBNe, Int.reduceToNat, Int.reduceNeg]
    refine AWp_cond _ rfl rfl (fun h => ?_) (fun h => ?_)
    · have hil : i < q.items.length := by simpa using h
      have h0 : 0 < q.items.length := by omega
      have hw : IntKind.i64.wrap (IntKind.i64.wrap (q.cons + 1) + (i : Int)) = IntKind.i64.wrap (IntKind.i64.wrap (q.cons + 1) + (i : Int)) := rfl
      simp only [getD_map encPk q.items hil, getD_map encPk q.items h0, Int.toNat_zero, encPk, go_sem, Nat.reduceAdd, Nat.reduceMul, Nat.reduceSub, Nat.reduceEqDiff, Nat.reduceLT, Nat.reduceLeDiff, Nat.reduceBEq, reduceIte, reduceCtorEq, Int.reduceAdd, Int.reduceLT, Int.reduceLE, Int.reduceGT, Int.reduceGE, Int.reduceEq, Int.reduceNe, Int.reduceBEq, Int.reduceBNe, Int.reduceToNat, Int.reduceNeg]
      refine ⟨by omega, ?_⟩
      (repeat (with_reducible refine ob ?_)); first | refine cl F70 (message_ok q.items[i] (hq.2 _ (List.getElem_mem hil))) ?_ | refine clF F70 (message_ok q.items[i] (hq.2 _ (List.getElem_mem hil))) (fun _ => by simp only [encPk, encQ, go_sem, Nat.reduceAdd, Nat.reduceMul, Nat.reduceSub, Nat.reduceEqDiff, Nat.reduceLT, Nat.reduceLeDiff, Nat.reduceBEq, reduceIte, reduceCtorEq, Int.reduceAdd, Int.reduceLT, Int.reduceLE, Int.reduceGT, Int.reduceGE, Int.reduceEq, Int.reduceNe, Int.reduceBEq, Int.reduceBNe, Int.reduceToNat, Int.reduceNeg]) ?_
      try simp only [getD_map encPk q.items h0, go_sem, Nat.reduceAdd, Nat.reduceMul, Nat.reduceSub, Nat.reduceEqDiff, Nat.reduceLT, Nat.reduceLeDiff, Nat.reduceBEq, reduceIte, reduceCtorEq, Int.reduceAdd, Int.reduceLT, Int.reduceLE, Int.reduceGT, Int.reduceGE, Int.reduceEq, Int.reduceNe, Int.reduceBEq, Int.reduceBNe, Int.reduceToNat, Int.reduceNeg]
      refine ⟨fun _ => ⟨by omega, by omega⟩, by simp [encPk], ?_⟩
      simp only [encPk, go_sem, Nat.reduceAdd, Nat.reduceMul, Nat.reduceSub, Nat.reduceEqDiff, Nat.reduceLT, Nat.reduceLeDiff, Nat.reduceBEq, reduceIte, reduceCtorEq, Int.reduceAdd, Int.reduceLT, Int.reduceLE, Int.reduceGT, Int.reduceGE, Int.reduceEq, Int.reduceNe, Int.reduceBEq, Int.reduceBNe, Int.reduceToNat, Int.reduceNeg]
      (repeat (with_reducible refine ob ?_)); first | refine cl F71 (alike_ok q.items[i] q.items[0]) ?_ | refine clF F71 (alike_ok q.items[i] q.items[0]) (fun _ => by simp only [encPk, encQ, go_sem, Nat.reduceAdd, Nat.reduceMul, Nat.reduceSub, Nat.reduceEqDiff, Nat.reduceLT, Nat.reduceLeDiff, Nat.reduceBEq, reduceIte, reduceCtorEq, Int.reduceAdd, Int.reduceLT, Int.reduceLE, Int.reduceGT, Int.reduceGE, Int.reduceEq, Int.reduceNe, Int.reduceBEq, Int.reduceBNe, Int.reduceToNat, Int.reduceNeg]) ?_
      try (refine ev ?_; try exact True.intro)
      (repeat (with_reducible refine ob ?_))
      have hx : (!message q.items[i] || !alike q.items[i] q.items[0] || q.items[i].seq != IntKind.i64.wrap (IntKind.i64.wrap (q.cons + 1) + (i : Int))) = !qItem q i := by
        simp only [qItem, getD_lt hil, getD_lt h0, Bool.not_and]; rfl
      refine AWp_cond (!qItem q i) rfl ?_ (fun h2 => ?_) (fun h2 => ?_)
      · try simp only [hx, go_sem, Nat.reduceAdd, Nat.reduceMul, Nat.reduceSub, Nat.reduceEqDiff, Nat.reduceLT, Nat.reduceLeDiff, Nat.reduceBEq, reduceIte, reduceCtorEq, Int.reduceAdd, Int.reduceLT, Int.reduceLE, Int.reduceGT, Int.reduceGE, Int.reduceEq, Int.reduceNe, Int.reduceBEq, Int.reduceBNe, Int.reduceToNat, Int.reduceNeg]
      · have hg : qItem q i = false := by simpa using h2
        simp only [qValid, allTo_no hil hg, go_sem, Nat.reduceAdd, Nat.reduceMul, Nat.reduceSub, Nat.reduceEqDiff, Nat.reduceLT, Nat.reduceLeDiff, Nat.reduceBEq, reduceIte, reduceCtorEq, Int.reduceAdd, Int.reduceLT, Int.reduceLE, Int.reduceGT, Int.reduceGE, Int.reduceEq, Int.reduceNe, Int.reduceBEq, Int.reduceBNe, Int.reduceToNat, Int.reduceNeg]
      · have hg : qItem q i = true := by simpa using h2
        try (refine ev ?_; try exact True.intro)
        refine ⟨⟨i + 1, allTo_step hi hg⟩, ?_, by dsimp only; omega⟩
        try simp only [SqValid, wrap_succ (show i < 9223372036854775807 by omega), go_sem, Nat.reduceAdd, Nat.reduceMul, Nat.reduceSub, Nat.reduceEqDiff, Nat.reduceLT, Nat.reduceLeDiff, Nat.reduceBEq, reduceIte, reduceCtorEq, Int.reduceAdd, Int.reduceLT, Int.reduceLE, Int.reduceGT, Int.reduceGE, Int.reduceEq, Int.reduceNe, Int.reduceBEq, Int.reduceBNe, Int.reduceToNat, Int.reduceNeg]
    · have hil : q.items.length ≤ i := by simpa using h
      have ha : allTo (qItem q) q.items.length = true := allTo_iff.2 fun j hj => allTo_iff.1 hi j (by omega)
      try (refine ev ?_; try exact True.intro)
      (repeat (with_reducible refine ob ?_))
      simp only [qValid, ha, go_sem, Nat.reduceAdd, Nat.reduceMul, Nat.reduceSub, Nat.reduceEqDiff, Nat.reduceLT, Nat.reduceLeDiff, Nat.reduceBEq, reduceIte, reduceCtorEq, Int.reduceAdd, Int.reduceLT, Int.reduceLE, Int.reduceGT, Int.reduceGE, Int.reduceEq, Int.reduceNe, Int.reduceBEq, Int.reduceBNe, Int.reduceToNat, Int.reduceNeg]

theorem clone_ok (p : Pk) (hp : p.Sm) : ACall Try.prog 72 [.d (.agg (encPk p))] [] (.d (.agg (encPk p))) [] := by
  obtain ⟨h1, h2⟩ := hp
  first | refine F72.go ?_ | refine F72.goT ?_
  simp only [encPk, go_sem, Nat.reduceAdd, Nat.reduceMul, Nat.reduceSub, Nat.reduceEqDiff, Nat.reduceLT, Nat.reduceLeDiff, Nat.reduceBEq, reduceIte, reduceCtorEq, Int.reduceAdd, Int.reduceLT, Int.reduceLE, Int.reduceGT, Int.reduceGE, Int.reduceEq, Int.reduceNe, Int.reduceBEq, Int.reduceBNe, Int.reduceToNat, Int.reduceNeg]
  (repeat (with_reducible refine ob ?_)); first | refine cl F97 (cloneV_ok p.values (by omega)) ?_ | refine clF F97 (cloneV_ok p.values (by omega)) (fun _ => by simp only [encPk, encQ, go_sem, Nat.reduceAdd, Nat.reduceMul, Nat.reduceSub, Nat.reduceEqDiff, Nat.reduceLT, Nat.reduceLeDiff, Nat.reduceBEq, reduceIte, reduceCtorEq, Int.reduceAdd, Int.reduceLT, Int.reduceLE, Int.reduceGT, Int.reduceGE, Int.reduceEq, Int.reduceNe, Int.reduceBEq, Int.reduceBNe, Int.reduceToNat, Int.reduceNeg]) ?_
  try (refine ev ?_; try exact True.intro)
  (repeat (with_reducible refine ob ?_)); first | refine cl F98 (cloneI_ok p.clock (by omega)) ?_ | refine clF F98 (cloneI_ok p.clock (by omega)) (fun _ => by simp only [encPk, encQ, go_sem, Nat.reduceAdd, Nat.reduceMul, Nat.reduceSub, Nat.reduceEqDiff, Nat.reduceLT, Nat.reduceLeDiff, Nat.reduceBEq, reduceIte, reduceCtorEq, Int.reduceAdd, Int.reduceLT, Int.reduceLE, Int.reduceGT, Int.reduceGE, Int.reduceEq, Int.reduceNe, Int.reduceBEq, Int.reduceBNe, Int.reduceToNat, Int.reduceNeg]) ?_
  try (refine ev ?_; try exact True.intro)

def Sclones (l : List Pk) (i : { i : Nat // i ≤ l.length }) : St :=
  ⟨[(3, true, .own 0 9 ((l.take i.val).map encPk)), (6, true, .d (.sl 9 (l.map encPk))), (7, true, .d (.int .i64 l.length)), (8, true, .d (.int .i64 (i.val : Nat)))], [], [0], 1⟩

set_option maxRecDepth 10000 in
theorem clones_ok (l : List Pk) (hl : l.length ≤ 1000) (hp : ∀ p ∈ l, p.Sm) : ACall Try.prog 68 [.d (.sl 9 (l.map encPk))] [] (.own 0 9 (l.map encPk)) [] := by
  first | refine F68.go ?_ | refine F68.goT ?_
  simp only [go_sem, Nat.reduceAdd, Nat.reduceMul, Nat.reduceSub, Nat.reduceEqDiff, Nat.reduceLT, Nat.reduceLeDiff, Nat.reduceBEq, reduceIte, reduceCtorEq, Int.reduceAdd, Int.reduceLT, Int.reduceLE, Int.reduceGT, Int.reduceGE, Int.reduceEq, Int.reduceNe, Int.reduceBEq, Int.reduceBNe, Int.reduceToNat, Int.reduceNeg]
  refine AWp_loop (Sclones l) (fun i => l.length - i.val) ⟨0, Nat.zero_le _⟩ ?_ (fun i => ?_)
  · try simp only [Sclones, go_sem, Nat.reduceAdd, Nat.reduceMul, Nat.reduceSub, Nat.reduceEqDiff, Nat.reduceLT, Nat.reduceLeDiff, Nat.reduceBEq, reduceIte, reduceCtorEq, Int.reduceAdd, Int.reduceLT, Int.reduceLE, Int.reduceGT, Int.reduceGE, Int.reduceEq, Int.reduceNe, Int.reduceBEq, Int.reduceBNe, Int.reduceToNat, Int.reduceNeg]
    trace_state
  · obtain ⟨i, hi⟩ := i
    try simp only [Sclones, go_sem, Nat.reduceAdd, Nat.reduceMul, Nat.reduceSub, Nat.reduceEqDiff, Nat.reduceLT, Nat.reduceLeDiff, Nat.reduceBEq, reduceIte, reduceCtorEq, Int.reduceAdd, Int.reduceLT, Int.reduceLE, Int.reduceGT, Int.reduceGE, Int.reduceEq, Int.reduceNe, Int.reduceBEq, Int.reduceBNe, Int.reduceToNat, Int.reduceNeg]
    refine AWp_cond _ rfl rfl (fun h => ?_) (fun h => ?_)
    · have hil : i < l.length := by simpa using h
      simp only [getD_map encPk l hil, encPk, go_sem, Nat.reduceAdd, Nat.reduceMul, Nat.reduceSub, Nat.reduceEqDiff, Nat.reduceLT, Nat.reduceLeDiff, Nat.reduceBEq, reduceIte, reduceCtorEq, Int.reduceAdd, Int.reduceLT, Int.reduceLE, Int.reduceGT, Int.reduceGE, Int.reduceEq, Int.reduceNe, Int.reduceBEq, Int.reduceBNe, Int.reduceToNat, Int.reduceNeg]
      (repeat (with_reducible refine ob ?_))
      (repeat (with_reducible refine ob ?_)); first | refine cl F72 (clone_ok l[i] (hp _ (List.getElem_mem hil))) ?_ | refine clF F72 (clone_ok l[i] (hp _ (List.getElem_mem hil))) (fun _ => by simp only [encPk, encQ, go_sem, Nat.reduceAdd, Nat.reduceMul, Nat.reduceSub, Nat.reduceEqDiff, Nat.reduceLT, Nat.reduceLeDiff, Nat.reduceBEq, reduceIte, reduceCtorEq, Int.reduceAdd, Int.reduceLT, Int.reduceLE, Int.reduceGT, Int.reduceGE, Int.reduceEq, Int.reduceNe, Int.reduceBEq, Int.reduceBNe, Int.reduceToNat, Int.reduceNeg]) ?_
      simp only [encPk, go_sem, Nat.reduceAdd, Nat.reduceMul, Nat.reduceSub, Nat.reduceEqDiff, Nat.reduceLT, Nat.reduceLeDiff, Nat.reduceBEq, reduceIte, reduceCtorEq, Int.reduceAdd, Int.reduceLT, Int.reduceLE, Int.reduceGT, Int.reduceGE, Int.reduceEq, Int.reduceNe, Int.reduceBEq, Int.reduceBNe, Int.reduceToNat, Int.reduceNeg]
      have hlt : (l.take i).length ≤ 1000 := by simp; omega
      refine ⟨⟨by omega, by omega⟩, ⟨i + 1, hil⟩, ?_, by dsimp only; omega⟩
      simp only [Sclones, map_take_succ encPk l hil, encPk, wrap_succ (show i < 9223372036854775807 by omega), go_sem, Nat.reduceAdd, Nat.reduceMul, Nat.reduceSub, Nat.reduceEqDiff, Nat.reduceLT, Nat.reduceLeDiff, Nat.reduceBEq, reduceIte, reduceCtorEq, Int.reduceAdd, Int.reduceLT, Int.reduceLE, Int.reduceGT, Int.reduceGE, Int.reduceEq, Int.reduceNe, Int.reduceBEq, Int.reduceBNe, Int.reduceToNat, Int.reduceNeg]
    · have hil : i = l.length := by have : l.length ≤ i := by simpa using h
                                    omega
      subst hil
      try simp only [List.take_length, go_sem, Nat.reduceAdd, Nat.reduceMul, Nat.reduceSub, Nat.reduceEqDiff, Nat.reduceLT, Nat.reduceLeDiff, Nat.reduceBEq, reduceIte, reduceCtorEq, Int.reduceAdd, Int.reduceLT, Int.reduceLE, Int.reduceGT, Int.reduceGE, Int.reduceEq, Int.reduceNe, Int.reduceBEq, Int.reduceBNe, Int.reduceToNat, Int.reduceNeg]

end Go.Proofs.Ythcpckcgjplhiaa

/- Queues: Offer, First, Consume. -/
namespace Go.Proofs.Ythcpckcgjplhiaa
open Go.Abs
set_option linter.unusedSimpArgs false

def qEmpty : Qu := ⟨0, 0, []⟩
theorem pkDefault_enc : encPk default = [.int .i64 0, .int .i64 0, .int .i64 0, .int .i64 0, .int .i64 0, .int .i64 0, .int .i64 0, .sl 3 [], .sl 1 []] := rfl

section
variable {P : Program} {k0 o : Nat} {p : List (Nat × Nat)} {Q : SExit → St → Prop} {st : St}
noncomputable def s33r0 : List SOper := [
  ⟨some 2, .box 3 (.t 0), none⟩,
  ⟨some 3, .box 2 (.t 1), none⟩,
  ⟨some 4, .alloc 1 [(.d (.int .i64 0)), (.d (.int .i64 0)), (.d .nilsl)], none⟩,
  ⟨some 5, .mov (.k (.d (.int .i64 0))), none⟩]
noncomputable def s33r1 : List SOper := [
  ⟨some 7, .load (some 3) (.t 2), none⟩,
  ⟨some 8, .call (.k (.d (.func (.func 32) [] []))) [(.t 7)], none⟩,
  ⟨some 9, .not (.t 8), none⟩,
  ⟨some 10, .mov (.t 9), none⟩,
  ⟨some 11, .load (some 9) (.t 3), some (10, false)⟩,
  ⟨some 12, .call (.k (.d (.func (.func 70) [] []))) [(.t 11)], some (10, false)⟩,
  ⟨some 13, .not (.t 12), some (10, false)⟩,
  ⟨some 14, .pick (.t 10) (.k (.d (.bool true))) (.t 13), none⟩,
  ⟨some 15, .mov (.t 14), none⟩,
  ⟨some 16, .faddr 2 (.t 2), some (15, false)⟩,
  ⟨some 17, .load none (.t 16), some (15, false)⟩,
  ⟨some 18, .len (.t 17), some (15, false)⟩,
  ⟨some 19, .bin .gtr (.t 18) (.k (.d (.int .i64 0))), some (15, false)⟩,
  ⟨some 20, .mov (.t 19), some (15, false)⟩,
  ⟨some 21, .load (some 9) (.t 3), some (20, true)⟩,
  ⟨some 22, .faddr 2 (.t 2), some (20, true)⟩,
  ⟨some 23, .load none (.t 22), some (20, true)⟩,
  ⟨some 24, .iaddr 9 (.t 23) (.k (.d (.int .i64 0))), some (20, true)⟩,
  ⟨some 25, .load (some 9) (.t 24), some (20, true)⟩,
  ⟨some 26, .call (.k (.d (.func (.func 71) [] []))) [(.t 21), (.t 25)], some (20, true)⟩,
  ⟨some 27, .not (.t 26), some (20, true)⟩,
  ⟨some 28, .pick (.t 20) (.t 27) (.k (.d (.bool false))), some (15, false)⟩,
  ⟨some 29, .pick (.t 15) (.k (.d (.bool true))) (.t 28), none⟩,
  ⟨some 6, .mov (.t 29), none⟩]
noncomputable def s33r2 : List SOper := [
  ⟨some 30, .build [(.int .i64 0), (.int .i64 0), .nilsl] [], none⟩,
  ⟨none, .store (some 3) (.t 4) (.t 30), none⟩,
  ⟨some 5, .mov (.k (.d (.int .i64 1))), none⟩]
noncomputable def s33r3 : List SOper := [
  ⟨some 32, .faddr 5 (.t 3), none⟩,
  ⟨some 33, .load none (.t 32), none⟩,
  ⟨some 34, .faddr 0 (.t 2), none⟩,
  ⟨some 35, .load none (.t 34), none⟩,
  ⟨some 36, .bin .leq (.t 33) (.t 35), none⟩,
  ⟨some 31, .mov (.t 36), none⟩]
noncomputable def s33r4 : List SOper := [
  ⟨some 37, .build [(.int .i64 0), (.int .i64 0), .nilsl] [], none⟩,
  ⟨none, .store (some 3) (.t 4) (.t 37), none⟩,
  ⟨some 5, .mov (.k (.d (.int .i64 21))), none⟩]
noncomputable def s33r5 : List SOper := [
  ⟨some 39, .faddr 5 (.t 3), none⟩,
  ⟨some 40, .load none (.t 39), none⟩,
  ⟨some 41, .faddr 0 (.t 2), none⟩,
  ⟨some 42, .load none (.t 41), none⟩,
  ⟨some 43, .bin .add (.t 42) (.k (.d (.int .i64 1))), none⟩,
  ⟨some 44, .bin .gtr (.t 40) (.t 43), none⟩,
  ⟨some 38, .mov (.t 44), none⟩]
noncomputable def s33r6 : List SOper := [
  ⟨some 45, .build [(.int .i64 0), (.int .i64 0), .nilsl] [], none⟩,
  ⟨none, .store (some 3) (.t 4) (.t 45), none⟩,
  ⟨some 5, .mov (.k (.d (.int .i64 22))), none⟩]
noncomputable def s33r7 : List SOper := [
  ⟨some 47, .faddr 2 (.t 2), none⟩,
  ⟨some 48, .load none (.t 47), none⟩,
  ⟨some 49, .len (.t 48), none⟩,
  ⟨some 50, .bin .eql (.t 49) (.k (.d (.int .i64 4))), none⟩,
  ⟨some 46, .mov (.t 50), none⟩]
noncomputable def s33r8 : List SOper := [
  ⟨some 51, .build [(.int .i64 0), (.int .i64 0), .nilsl] [], none⟩,
  ⟨none, .store (some 3) (.t 4) (.t 51), none⟩,
  ⟨some 5, .mov (.k (.d (.int .i64 19))), none⟩]
noncomputable def s33r9 : List SOper := [
  ⟨some 52, .faddr 5 (.t 3), none⟩,
  ⟨some 53, .load none (.t 52), none⟩,
  ⟨some 54, .faddr 1 (.t 2), none⟩,
  ⟨some 55, .load none (.t 54), none⟩,
  ⟨some 56, .faddr 2 (.t 2), none⟩,
  ⟨some 57, .load none (.t 56), none⟩,
  ⟨some 58, .call (.k (.d (.func (.func 68) [] []))) [(.t 57)], none⟩,
  ⟨some 59, .load (some 9) (.t 3), none⟩,
  ⟨some 60, .call (.k (.d (.func (.func 72) [] []))) [(.t 59)], none⟩,
  ⟨some 61, .buildSlice false 9 1 [(.int .i64 0), (.int .i64 0), (.int .i64 0), (.int .i64 0), (.int .i64 0), (.int .i64 0), (.int .i64 0), .nilsl, .nilsl] [(0, 9, (.t 60))], none⟩,
  ⟨some 62, .append false 9 104 (.t 58) (.t 61), none⟩,
  ⟨some 63, .build [(.int .i64 0), (.int .i64 0), .nilsl] [(0, 1, (.t 53)), (1, 1, (.t 55)), (2, 1, (.t 62))], none⟩,
  ⟨none, .store (some 3) (.t 4) (.t 63), none⟩,
  ⟨some 5, .mov (.k (.d (.int .i64 0))), none⟩]
noncomputable def s33 : SCode := (.seq (.region s33r0 3 []) (.seq (.block 0 (.seq (.region s33r1 0 []) (.cond (.t 6) (.seq (.region s33r2 0 []) .ret) (.seq (.region s33r3 0 []) (.cond (.t 31) (.seq (.region s33r4 0 []) .ret) (.seq (.region s33r5 0 []) (.cond (.t 38) (.seq (.region s33r6 0 []) .ret) (.seq (.region s33r7 0 []) (.cond (.t 46) (.seq (.region s33r8 0 []) .ret) .skip))))))))) (.seq (.region s33r9 0 [(1, 6), (3, 6), (6, 7), (1, 8), (3, 8)]) .ret)))
theorem e33 : AWp P k0 s33 Q st = AWp P k0 (.seq (.region s33r0 3 []) (.seq (.block 0 (.seq (.region s33r1 0 []) (.cond (.t 6) (.seq (.region s33r2 0 []) .ret) (.seq (.region s33r3 0 []) (.cond (.t 31) (.seq (.region s33r4 0 []) .ret) (.seq (.region s33r5 0 []) (.cond (.t 38) (.seq (.region s33r6 0 []) .ret) (.seq (.region s33r7 0 []) (.cond (.t 46) (.seq (.region s33r8 0 []) .ret) .skip))))))))) (.seq (.region s33r9 0 [(1, 6), (3, 6), (6, 7), (1, 8), (3, 8)]) .ret))) Q st := rfl
theorem u33r0 : goReg P s33r0 o p Q st = goLit P (litOf s33r0.eq_1) o p Q st := goReg_of _
theorem u33r1 : goReg P s33r1 o p Q st = goLit P (litOf s33r1.eq_1) o p Q st := goReg_of _
theorem u33r2 : goReg P s33r2 o p Q st = goLit P (litOf s33r2.eq_1) o p Q st := goReg_of _
theorem u33r3 : goReg P s33r3 o p Q st = goLit P (litOf s33r3.eq_1) o p Q st := goReg_of _
theorem u33r4 : goReg P s33r4 o p Q st = goLit P (litOf s33r4.eq_1) o p Q st := goReg_of _
theorem u33r5 : goReg P s33r5 o p Q st = goLit P (litOf s33r5.eq_1) o p Q st := goReg_of _
theorem u33r6 : goReg P s33r6 o p Q st = goLit P (litOf s33r6.eq_1) o p Q st := goReg_of _
theorem u33r7 : goReg P s33r7 o p Q st = goLit P (litOf s33r7.eq_1) o p Q st := goReg_of _
theorem u33r8 : goReg P s33r8 o p Q st = goLit P (litOf s33r8.eq_1) o p Q st := goReg_of _
theorem u33r9 : goReg P s33r9 o p Q st = goLit P (litOf s33r9.eq_1) o p Q st := goReg_of _
attribute [go_sem] u33r0 u33r1 u33r2 u33r3 u33r4 u33r5 u33r6 u33r7 u33r8 u33r9 e33
set_option maxRecDepth 100000 in
theorem F33 : FnIs Try.prog 33 Try.f33 [] news s33 [.cell 4 (some 3), .tmp 5] 64 := ⟨follows, Try.func33, by kernel_rfl, by kernel_rfl, by kernel_rfl, by kernel_rfl⟩

noncomputable def s35r0 : List SOper := [
  ⟨some 1, .box 2 (.t 0), none⟩,
  ⟨some 2, .alloc 1 [(.d (.int .i64 0)), (.d (.int .i64 0)), (.d (.int .i64 0)), (.d (.int .i64 0)), (.d (.int .i64 0)), (.d (.int .i64 0)), (.d (.int .i64 0)), (.d .nilsl), (.d .nilsl)], none⟩,
  ⟨some 3, .mov (.k (.d (.bool false))), none⟩]
noncomputable def s35r1 : List SOper := [
  ⟨some 4, .faddr 2 (.t 1), none⟩,
  ⟨some 5, .load none (.t 4), none⟩,
  ⟨some 6, .len (.t 5), none⟩,
  ⟨some 7, .bin .eql (.t 6) (.k (.d (.int .i64 0))), none⟩]
noncomputable def s35r2 : List SOper := [
  ⟨some 8, .build [(.int .i64 0), (.int .i64 0), (.int .i64 0), (.int .i64 0), (.int .i64 0), (.int .i64 0), (.int .i64 0), .nilsl, .nilsl] [], none⟩,
  ⟨none, .store (some 9) (.t 2) (.t 8), none⟩,
  ⟨some 3, .mov (.k (.d (.bool false))), none⟩]
noncomputable def s35r3 : List SOper := [
  ⟨some 9, .faddr 2 (.t 1), none⟩,
  ⟨some 10, .load none (.t 9), none⟩,
  ⟨some 11, .iaddr 9 (.t 10) (.k (.d (.int .i64 0))), none⟩,
  ⟨some 12, .load (some 9) (.t 11), none⟩,
  ⟨some 13, .call (.k (.d (.func (.func 72) [] []))) [(.t 12)], none⟩,
  ⟨none, .store (some 9) (.t 2) (.t 13), none⟩,
  ⟨some 3, .mov (.k (.d (.bool true))), none⟩]
noncomputable def s35 : SCode := (.seq (.region s35r0 2 []) (.seq (.seq (.region s35r1 0 []) (.cond (.t 7) (.seq (.region s35r2 0 []) .ret) .skip)) (.seq (.region s35r3 0 []) .ret)))
theorem e35 : AWp P k0 s35 Q st = AWp P k0 (.seq (.region s35r0 2 []) (.seq (.seq (.region s35r1 0 []) (.cond (.t 7) (.seq (.region s35r2 0 []) .ret) .skip)) (.seq (.region s35r3 0 []) .ret))) Q st := rfl
theorem u35r0 : goReg P s35r0 o p Q st = goLit P (litOf s35r0.eq_1) o p Q st := goReg_of _
theorem u35r1 : goReg P s35r1 o p Q st = goLit P (litOf s35r1.eq_1) o p Q st := goReg_of _
theorem u35r2 : goReg P s35r2 o p Q st = goLit P (litOf s35r2.eq_1) o p Q st := goReg_of _
theorem u35r3 : goReg P s35r3 o p Q st = goLit P (litOf s35r3.eq_1) o p Q st := goReg_of _
attribute [go_sem] u35r0 u35r1 u35r2 u35r3 e35
set_option maxRecDepth 100000 in
theorem F35 : FnIs Try.prog 35 Try.f35 [] news s35 [.cell 2 (some 9), .tmp 3] 14 := ⟨follows, Try.func35, by kernel_rfl, by kernel_rfl, by kernel_rfl, by kernel_rfl⟩

end

def qOffer (q : Qu) (p : Pk) : Qu × Int :=
  if !qValid q || !message p || (decide ((q.items.length : Int) > 0) && !alike p (q.items.getD 0 default)) then (qEmpty, 1)
  else if decide (p.seq ≤ q.acc) then (qEmpty, 21)
  else if decide (p.seq > IntKind.i64.wrap (q.acc + 1)) then (qEmpty, 22)
  else if (q.items.length : Int) == 4 then (qEmpty, 19)
  else (⟨p.seq, q.cons, q.items ++ [p]⟩, 0)

theorem getD_map_any {α β : Type} (f : α → β) (l : List α) (i : Nat) (h : i < l.length) (d : β) (d' : α) : (l.map f).getD i d = f (l.getD i d') := by
  rw [getD_map f l h, getD_lt h]

set_option maxRecDepth 10000 in
theorem qOffer_ok (q : Qu) (p : Pk) (hq : q.Sm) (hp : p.Sm) : ACall Try.prog 33 [.d (.agg (encQ q)), .d (.agg (encPk p))] [] (.tup [.d (.agg (encQ (qOffer q p).1)), .d (.int .i64 (qOffer q p).2)]) [] := by
  have hl := hq.1
  first | refine F33.go ?_ | refine F33.goT ?_
  simp only [encQ, encPk, go_sem, Nat.reduceAdd, Nat.reduceMul, Nat.reduceSub, Nat.reduceEqDiff, Nat.reduceLT, Nat.reduceLeDiff, Nat.reduceBEq, reduceIte, reduceCtorEq, Int.reduceAdd, Int.reduceLT, Int.reduceLE, Int.reduceGT, Int.reduceGE, Int.reduceEq, Int.reduceNe, Int.reduceBEq, Int.reduceBNe, Int.reduceToNat, Int.reduceNeg]
  (repeat (with_reducible refine ob ?_)); first | refine cl F32 (qValid_ok q hq) ?_ | refine clF F32 (qValid_ok q hq) (fun _ => by simp only [encPk, encQ, go_sem, Nat.reduceAdd, Nat.reduceMul, Nat.reduceSub, Nat.reduceEqDiff, Nat.reduceLT, Nat.reduceLeDiff, Nat.reduceBEq, reduceIte, reduceCtorEq, Int.reduceAdd, Int.reduceLT, Int.reduceLE, Int.reduceGT, Int.reduceGE, Int.reduceEq, Int.reduceNe, Int.reduceBEq, Int.reduceBNe, Int.reduceToNat, Int.reduceNeg]) ?_
  try (refine ev ?_; try exact True.intro)
  (repeat (with_reducible refine ob ?_)); first | refine cl F70 (message_ok p hp) ?_ | refine clF F70 (message_ok p hp) (fun _ => by simp only [encPk, encQ, go_sem, Nat.reduceAdd, Nat.reduceMul, Nat.reduceSub, Nat.reduceEqDiff, Nat.reduceLT, Nat.reduceLeDiff, Nat.reduceBEq, reduceIte, reduceCtorEq, Int.reduceAdd, Int.reduceLT, Int.reduceLE, Int.reduceGT, Int.reduceGE, Int.reduceEq, Int.reduceNe, Int.reduceBEq, Int.reduceBNe, Int.reduceToNat, Int.reduceNeg]) ?_
  obtain ⟨acc, cons, items⟩ := q
  cases items with
  | nil =>
    try (refine ev ?_; try exact True.intro)
    (repeat (with_reducible refine ob ?_))
    refine callO_off (.bool false) rfl ?_
    try (refine ev ?_; try exact True.intro)
    (repeat (with_reducible refine ob ?_))
    refine AWp_cond _ rfl rfl (fun h1 => ?_) (fun h1 => ?_)
    · try simp only [qOffer, h1, qEmpty, go_sem, Nat.reduceAdd, Nat.reduceMul, Nat.reduceSub, Nat.reduceEqDiff, Nat.reduceLT, Nat.reduceLeDiff, Nat.reduceBEq, reduceIte, reduceCtorEq, Int.reduceAdd, Int.reduceLT, Int.reduceLE, Int.reduceGT, Int.reduceGE, Int.reduceEq, Int.reduceNe, Int.reduceBEq, Int.reduceBNe, Int.reduceToNat, Int.reduceNeg]
    try (refine ev ?_; try exact True.intro)
    refine AWp_cond _ rfl rfl (fun h2 => ?_) (fun h2 => ?_)
    · try simp only [qOffer, h1, h2, qEmpty, go_sem, Nat.reduceAdd, Nat.reduceMul, Nat.reduceSub, Nat.reduceEqDiff, Nat.reduceLT, Nat.reduceLeDiff, Nat.reduceBEq, reduceIte, reduceCtorEq, Int.reduceAdd, Int.reduceLT, Int.reduceLE, Int.reduceGT, Int.reduceGE, Int.reduceEq, Int.reduceNe, Int.reduceBEq, Int.reduceBNe, Int.reduceToNat, Int.reduceNeg]
    try (refine ev ?_; try exact True.intro)
    refine AWp_cond _ rfl rfl (fun h3 => ?_) (fun h3 => ?_)
    · try simp only [qOffer, h1, h2, h3, qEmpty, go_sem, Nat.reduceAdd, Nat.reduceMul, Nat.reduceSub, Nat.reduceEqDiff, Nat.reduceLT, Nat.reduceLeDiff, Nat.reduceBEq, reduceIte, reduceCtorEq, Int.reduceAdd, Int.reduceLT, Int.reduceLE, Int.reduceGT, Int.reduceGE, Int.reduceEq, Int.reduceNe, Int.reduceBEq, Int.reduceBNe, Int.reduceToNat, Int.reduceNeg]
    try (refine ev ?_; try exact True.intro)
    refine AWp_cond _ rfl rfl (fun h4 => ?_) (fun h4 => ?_)
    · first | exact Bool.noConfusion h4 | try simp only [qOffer, h1, h2, h3, h4, qEmpty, go_sem, Nat.reduceAdd, Nat.reduceMul, Nat.reduceSub, Nat.reduceEqDiff, Nat.reduceLT, Nat.reduceLeDiff, Nat.reduceBEq, reduceIte, reduceCtorEq, Int.reduceAdd, Int.reduceLT, Int.reduceLE, Int.reduceGT, Int.reduceGE, Int.reduceEq, Int.reduceNe, Int.reduceBEq, Int.reduceBNe, Int.reduceToNat, Int.reduceNeg]
    try (refine ev ?_; try exact True.intro)
    refine callO_any (clones_ok [] hq.1 hq.2) F68.body rfl ⟨by simp only [encPk, encQ, go_sem, Nat.reduceAdd, Nat.reduceMul, Nat.reduceSub, Nat.reduceEqDiff, Nat.reduceLT, Nat.reduceLeDiff, Nat.reduceBEq, reduceIte, reduceCtorEq, Int.reduceAdd, Int.reduceLT, Int.reduceLE, Int.reduceGT, Int.reduceGE, Int.reduceEq, Int.reduceNe, Int.reduceBEq, Int.reduceBNe, Int.reduceToNat, Int.reduceNeg], by try (refine ev ?_; try exact True.intro), by try (refine ev ?_; try exact True.intro), by try (refine ev ?_; try exact True.intro)⟩ (by try (refine ev ?_; try exact True.intro)) (by simp [ASlot.toks]) ?_
    simp only [retok, renT, go_sem, Nat.reduceAdd, Nat.reduceMul, Nat.reduceSub, Nat.reduceEqDiff, Nat.reduceLT, Nat.reduceLeDiff, Nat.reduceBEq, reduceIte, reduceCtorEq, Int.reduceAdd, Int.reduceLT, Int.reduceLE, Int.reduceGT, Int.reduceGE, Int.reduceEq, Int.reduceNe, Int.reduceBEq, Int.reduceBNe, Int.reduceToNat, Int.reduceNeg]
    (repeat (with_reducible refine ob ?_)); first | refine cl F72 (clone_ok p hp) ?_ | refine clF F72 (clone_ok p hp) (fun _ => by simp only [encPk, encQ, go_sem, Nat.reduceAdd, Nat.reduceMul, Nat.reduceSub, Nat.reduceEqDiff, Nat.reduceLT, Nat.reduceLeDiff, Nat.reduceBEq, reduceIte, reduceCtorEq, Int.reduceAdd, Int.reduceLT, Int.reduceLE, Int.reduceGT, Int.reduceGE, Int.reduceEq, Int.reduceNe, Int.reduceBEq, Int.reduceBNe, Int.reduceToNat, Int.reduceNeg]) ?_
    simp only [encPk, qOffer, h1, h2, h3, h4, beq_self_eq_true, List.map_append, go_sem, Nat.reduceAdd, Nat.reduceMul, Nat.reduceSub, Nat.reduceEqDiff, Nat.reduceLT, Nat.reduceLeDiff, Nat.reduceBEq, reduceIte, reduceCtorEq, Int.reduceAdd, Int.reduceLT, Int.reduceLE, Int.reduceGT, Int.reduceGE, Int.reduceEq, Int.reduceNe, Int.reduceBEq, Int.reduceBNe, Int.reduceToNat, Int.reduceNeg]
    try (simp only [List.length_cons] at hl; omega)
  | cons x l =>
    try (refine ev ?_; try exact True.intro)
    refine ⟨by simp_all, fun h => ⟨h, by omega⟩, fun h => ⟨h, by simp [encPk]⟩, ?_⟩
    simp only [encPk, go_sem, Nat.reduceAdd, Nat.reduceMul, Nat.reduceSub, Nat.reduceEqDiff, Nat.reduceLT, Nat.reduceLeDiff, Nat.reduceBEq, reduceIte, reduceCtorEq, Int.reduceAdd, Int.reduceLT, Int.reduceLE, Int.reduceGT, Int.reduceGE, Int.reduceEq, Int.reduceNe, Int.reduceBEq, Int.reduceBNe, Int.reduceToNat, Int.reduceNeg]
    (repeat (with_reducible refine ob ?_)); first | refine cl F71 (alike_ok p x) ?_ | refine clF F71 (alike_ok p x) (fun _ => by simp only [encPk, encQ, go_sem, Nat.reduceAdd, Nat.reduceMul, Nat.reduceSub, Nat.reduceEqDiff, Nat.reduceLT, Nat.reduceLeDiff, Nat.reduceBEq, reduceIte, reduceCtorEq, Int.reduceAdd, Int.reduceLT, Int.reduceLE, Int.reduceGT, Int.reduceGE, Int.reduceEq, Int.reduceNe, Int.reduceBEq, Int.reduceBNe, Int.reduceToNat, Int.reduceNeg]) ?_
    try (refine ev ?_; try exact True.intro)
    (repeat (with_reducible refine ob ?_))
    refine AWp_cond _ rfl rfl (fun h1 => ?_) (fun h1 => ?_)
    · try simp only [qOffer, h1, qEmpty, go_sem, Nat.reduceAdd, Nat.reduceMul, Nat.reduceSub, Nat.reduceEqDiff, Nat.reduceLT, Nat.reduceLeDiff, Nat.reduceBEq, reduceIte, reduceCtorEq, Int.reduceAdd, Int.reduceLT, Int.reduceLE, Int.reduceGT, Int.reduceGE, Int.reduceEq, Int.reduceNe, Int.reduceBEq, Int.reduceBNe, Int.reduceToNat, Int.reduceNeg]
    try (refine ev ?_; try exact True.intro)
    refine AWp_cond _ rfl rfl (fun h2 => ?_) (fun h2 => ?_)
    · try simp only [qOffer, h1, h2, qEmpty, go_sem, Nat.reduceAdd, Nat.reduceMul, Nat.reduceSub, Nat.reduceEqDiff, Nat.reduceLT, Nat.reduceLeDiff, Nat.reduceBEq, reduceIte, reduceCtorEq, Int.reduceAdd, Int.reduceLT, Int.reduceLE, Int.reduceGT, Int.reduceGE, Int.reduceEq, Int.reduceNe, Int.reduceBEq, Int.reduceBNe, Int.reduceToNat, Int.reduceNeg]
    try (refine ev ?_; try exact True.intro)
    refine AWp_cond _ rfl rfl (fun h3 => ?_) (fun h3 => ?_)
    · try simp only [qOffer, h1, h2, h3, qEmpty, go_sem, Nat.reduceAdd, Nat.reduceMul, Nat.reduceSub, Nat.reduceEqDiff, Nat.reduceLT, Nat.reduceLeDiff, Nat.reduceBEq, reduceIte, reduceCtorEq, Int.reduceAdd, Int.reduceLT, Int.reduceLE, Int.reduceGT, Int.reduceGE, Int.reduceEq, Int.reduceNe, Int.reduceBEq, Int.reduceBNe, Int.reduceToNat, Int.reduceNeg]
    try (refine ev ?_; try exact True.intro)
    refine AWp_cond _ rfl rfl (fun h4 => ?_) (fun h4 => ?_)
    · first | exact Bool.noConfusion h4 | try simp only [qOffer, h1, h2, h3, h4, qEmpty, go_sem, Nat.reduceAdd, Nat.reduceMul, Nat.reduceSub, Nat.reduceEqDiff, Nat.reduceLT, Nat.reduceLeDiff, Nat.reduceBEq, reduceIte, reduceCtorEq, Int.reduceAdd, Int.reduceLT, Int.reduceLE, Int.reduceGT, Int.reduceGE, Int.reduceEq, Int.reduceNe, Int.reduceBEq, Int.reduceBNe, Int.reduceToNat, Int.reduceNeg]
    try (refine ev ?_; try exact True.intro)
    refine callO_any (clones_ok (x :: l) hq.1 hq.2) F68.body rfl ⟨by simp only [encPk, encQ, go_sem, Nat.reduceAdd, Nat.reduceMul, Nat.reduceSub, Nat.reduceEqDiff, Nat.reduceLT, Nat.reduceLeDiff, Nat.reduceBEq, reduceIte, reduceCtorEq, Int.reduceAdd, Int.reduceLT, Int.reduceLE, Int.reduceGT, Int.reduceGE, Int.reduceEq, Int.reduceNe, Int.reduceBEq, Int.reduceBNe, Int.reduceToNat, Int.reduceNeg], by try (refine ev ?_; try exact True.intro), by try (refine ev ?_; try exact True.intro), by try (refine ev ?_; try exact True.intro)⟩ (by try (refine ev ?_; try exact True.intro)) (by simp [ASlot.toks]) ?_
    simp only [retok, renT, go_sem, Nat.reduceAdd, Nat.reduceMul, Nat.reduceSub, Nat.reduceEqDiff, Nat.reduceLT, Nat.reduceLeDiff, Nat.reduceBEq, reduceIte, reduceCtorEq, Int.reduceAdd, Int.reduceLT, Int.reduceLE, Int.reduceGT, Int.reduceGE, Int.reduceEq, Int.reduceNe, Int.reduceBEq, Int.reduceBNe, Int.reduceToNat, Int.reduceNeg]
    (repeat (with_reducible refine ob ?_)); first | refine cl F72 (clone_ok p hp) ?_ | refine clF F72 (clone_ok p hp) (fun _ => by simp only [encPk, encQ, go_sem, Nat.reduceAdd, Nat.reduceMul, Nat.reduceSub, Nat.reduceEqDiff, Nat.reduceLT, Nat.reduceLeDiff, Nat.reduceBEq, reduceIte, reduceCtorEq, Int.reduceAdd, Int.reduceLT, Int.reduceLE, Int.reduceGT, Int.reduceGE, Int.reduceEq, Int.reduceNe, Int.reduceBEq, Int.reduceBNe, Int.reduceToNat, Int.reduceNeg]) ?_
    simp only [encPk, qOffer, h1, h2, h3, h4, beq_self_eq_true, List.map_append, go_sem, Nat.reduceAdd, Nat.reduceMul, Nat.reduceSub, Nat.reduceEqDiff, Nat.reduceLT, Nat.reduceLeDiff, Nat.reduceBEq, reduceIte, reduceCtorEq, Int.reduceAdd, Int.reduceLT, Int.reduceLE, Int.reduceGT, Int.reduceGE, Int.reduceEq, Int.reduceNe, Int.reduceBEq, Int.reduceBNe, Int.reduceToNat, Int.reduceNeg]
    try (simp only [List.length_cons] at hl; omega)

def qFirst (q : Qu) : Pk × Bool := match q.items with
  | [] => (default, false)
  | p :: _ => (p, true)

theorem qFirst_ok (q : Qu) (hq : q.Sm) : ACall Try.prog 35 [.d (.agg (encQ q))] [] (.tup [.d (.agg (encPk (qFirst q).1)), .d (.bool (qFirst q).2)]) [] := by
  first | refine F35.go ?_ | refine F35.goT ?_
  obtain ⟨acc, cons, items⟩ := q
  cases items with
  | nil =>
    simp only [encQ, qFirst, pkDefault_enc, go_sem, Nat.reduceAdd, Nat.reduceMul, Nat.reduceSub, Nat.reduceEqDiff, Nat.reduceLT, Nat.reduceLeDiff, Nat.reduceBEq, reduceIte, reduceCtorEq, Int.reduceAdd, Int.reduceLT, Int.reduceLE, Int.reduceGT, Int.reduceGE, Int.reduceEq, Int.reduceNe, Int.reduceBEq, Int.reduceBNe, Int.reduceToNat, Int.reduceNeg]
    refine AWp_cond _ rfl rfl (fun h1 => ?_) (fun h1 => Bool.noConfusion h1)
    try (refine ev ?_; try exact True.intro)
  | cons p l =>
    simp only [encQ, qFirst, go_sem, Nat.reduceAdd, Nat.reduceMul, Nat.reduceSub, Nat.reduceEqDiff, Nat.reduceLT, Nat.reduceLeDiff, Nat.reduceBEq, reduceIte, reduceCtorEq, Int.reduceAdd, Int.reduceLT, Int.reduceLE, Int.reduceGT, Int.reduceGE, Int.reduceEq, Int.reduceNe, Int.reduceBEq, Int.reduceBNe, Int.reduceToNat, Int.reduceNeg]
    refine AWp_cond _ rfl rfl (fun h1 => ?_) (fun h1 => ?_)
    · simp at h1; omega
    simp only [encPk, go_sem, Nat.reduceAdd, Nat.reduceMul, Nat.reduceSub, Nat.reduceEqDiff, Nat.reduceLT, Nat.reduceLeDiff, Nat.reduceBEq, reduceIte, reduceCtorEq, Int.reduceAdd, Int.reduceLT, Int.reduceLE, Int.reduceGT, Int.reduceGE, Int.reduceEq, Int.reduceNe, Int.reduceBEq, Int.reduceBNe, Int.reduceToNat, Int.reduceNeg]
    (repeat (with_reducible refine ob ?_))
    (repeat (with_reducible refine ob ?_)); first | refine cl F72 (clone_ok p (hq.2 _ (by simp))) ?_ | refine clF F72 (clone_ok p (hq.2 _ (by simp))) (fun _ => by simp only [encPk, encQ, go_sem, Nat.reduceAdd, Nat.reduceMul, Nat.reduceSub, Nat.reduceEqDiff, Nat.reduceLT, Nat.reduceLeDiff, Nat.reduceBEq, reduceIte, reduceCtorEq, Int.reduceAdd, Int.reduceLT, Int.reduceLE, Int.reduceGT, Int.reduceGE, Int.reduceEq, Int.reduceNe, Int.reduceBEq, Int.reduceBNe, Int.reduceToNat, Int.reduceNeg]) ?_
    simp only [encPk, go_sem, Nat.reduceAdd, Nat.reduceMul, Nat.reduceSub, Nat.reduceEqDiff, Nat.reduceLT, Nat.reduceLeDiff, Nat.reduceBEq, reduceIte, reduceCtorEq, Int.reduceAdd, Int.reduceLT, Int.reduceLE, Int.reduceGT, Int.reduceGE, Int.reduceEq, Int.reduceNe, Int.reduceBEq, Int.reduceBNe, Int.reduceToNat, Int.reduceNeg]
end Go.Proofs.Ythcpckcgjplhiaa

/- Queues: Consume, Equal. -/
namespace Go.Proofs.Ythcpckcgjplhiaa
open Go.Abs
set_option linter.unusedSimpArgs false
attribute [go_sem] List.getD_nil

section
variable {P : Program} {k0 o : Nat} {p : List (Nat × Nat)} {Q : SExit → St → Prop} {st : St}
noncomputable def s27r0 : List SOper := [
  ⟨some 2, .box 2 (.t 0), none⟩,
  ⟨some 4, .alloc 1 [(.d (.int .i64 0)), (.d (.int .i64 0)), (.d .nilsl)], none⟩,
  ⟨some 5, .mov (.k (.d (.int .i64 0))), none⟩]
noncomputable def s27r1 : List SOper := [
  ⟨some 7, .load (some 3) (.t 2), none⟩,
  ⟨some 8, .call (.k (.d (.func (.func 32) [] []))) [(.t 7)], none⟩,
  ⟨some 9, .not (.t 8), none⟩,
  ⟨some 6, .mov (.t 9), none⟩]
noncomputable def s27r2 : List SOper := [
  ⟨some 10, .build [(.int .i64 0), (.int .i64 0), .nilsl] [], none⟩,
  ⟨none, .store (some 3) (.t 4) (.t 10), none⟩,
  ⟨some 5, .mov (.k (.d (.int .i64 1))), none⟩]
noncomputable def s27r3 : List SOper := [
  ⟨some 12, .mov (.t 1), none⟩,
  ⟨some 13, .bin .geq (.t 12) (.k (.d (.int .i64 1))), none⟩,
  ⟨some 14, .mov (.t 13), none⟩,
  ⟨some 15, .mov (.t 1), some (14, true)⟩,
  ⟨some 16, .faddr 1 (.t 2), some (14, true)⟩,
  ⟨some 17, .load none (.t 16), some (14, true)⟩,
  ⟨some 18, .bin .leq (.t 15) (.t 17), some (14, true)⟩,
  ⟨some 19, .pick (.t 14) (.t 18) (.k (.d (.bool false))), none⟩,
  ⟨some 11, .mov (.t 19), none⟩]
noncomputable def s27r4 : List SOper := [
  ⟨some 20, .build [(.int .i64 0), (.int .i64 0), .nilsl] [], none⟩,
  ⟨none, .store (some 3) (.t 4) (.t 20), none⟩,
  ⟨some 5, .mov (.k (.d (.int .i64 21))), none⟩]
noncomputable def s27r5 : List SOper := [
  ⟨some 22, .faddr 2 (.t 2), none⟩,
  ⟨some 23, .load none (.t 22), none⟩,
  ⟨some 24, .len (.t 23), none⟩,
  ⟨some 25, .bin .eql (.t 24) (.k (.d (.int .i64 0))), none⟩,
  ⟨some 26, .mov (.t 25), none⟩,
  ⟨some 27, .mov (.t 1), some (26, false)⟩,
  ⟨some 28, .faddr 2 (.t 2), some (26, false)⟩,
  ⟨some 29, .load none (.t 28), some (26, false)⟩,
  ⟨some 30, .iaddr 9 (.t 29) (.k (.d (.int .i64 0))), some (26, false)⟩,
  ⟨some 31, .faddr 5 (.t 30), some (26, false)⟩,
  ⟨some 32, .load none (.t 31), some (26, false)⟩,
  ⟨some 33, .bin .neq (.t 27) (.t 32), some (26, false)⟩,
  ⟨some 34, .pick (.t 26) (.k (.d (.bool true))) (.t 33), none⟩,
  ⟨some 21, .mov (.t 34), none⟩]
noncomputable def s27r6 : List SOper := [
  ⟨some 35, .build [(.int .i64 0), (.int .i64 0), .nilsl] [], none⟩,
  ⟨none, .store (some 3) (.t 4) (.t 35), none⟩,
  ⟨some 5, .mov (.k (.d (.int .i64 22))), none⟩]
noncomputable def s27r7 : List SOper := [
  ⟨some 36, .faddr 0 (.t 2), none⟩,
  ⟨some 37, .load none (.t 36), none⟩,
  ⟨some 38, .mov (.t 1), none⟩,
  ⟨some 39, .faddr 2 (.t 2), none⟩,
  ⟨some 40, .load none (.t 39), none⟩,
  ⟨some 41, .slice 9 (.t 40) (some (.k (.d (.int .i64 1)))) none none, none⟩,
  ⟨some 42, .call (.k (.d (.func (.func 68) [] []))) [(.t 41)], none⟩,
  ⟨some 43, .build [(.int .i64 0), (.int .i64 0), .nilsl] [(0, 1, (.t 37)), (1, 1, (.t 38)), (2, 1, (.t 42))], none⟩,
  ⟨none, .store (some 3) (.t 4) (.t 43), none⟩,
  ⟨some 5, .mov (.k (.d (.int .i64 0))), none⟩]
noncomputable def s27 : SCode := (.seq (.region s27r0 2 []) (.seq (.block 0 (.seq (.region s27r1 0 []) (.cond (.t 6) (.seq (.region s27r2 0 []) .ret) (.seq (.region s27r3 0 []) (.cond (.t 11) (.seq (.region s27r4 0 []) .ret) (.seq (.region s27r5 0 []) (.cond (.t 21) (.seq (.region s27r6 0 []) .ret) .skip))))))) (.seq (.region s27r7 0 [(1, 6)]) .ret)))
theorem e27 : AWp P k0 s27 Q st = AWp P k0 (.seq (.region s27r0 2 []) (.seq (.block 0 (.seq (.region s27r1 0 []) (.cond (.t 6) (.seq (.region s27r2 0 []) .ret) (.seq (.region s27r3 0 []) (.cond (.t 11) (.seq (.region s27r4 0 []) .ret) (.seq (.region s27r5 0 []) (.cond (.t 21) (.seq (.region s27r6 0 []) .ret) .skip))))))) (.seq (.region s27r7 0 [(1, 6)]) .ret))) Q st := rfl
theorem u27r0 : goReg P s27r0 o p Q st = goLit P (litOf s27r0.eq_1) o p Q st := goReg_of _
theorem u27r1 : goReg P s27r1 o p Q st = goLit P (litOf s27r1.eq_1) o p Q st := goReg_of _
theorem u27r2 : goReg P s27r2 o p Q st = goLit P (litOf s27r2.eq_1) o p Q st := goReg_of _
theorem u27r3 : goReg P s27r3 o p Q st = goLit P (litOf s27r3.eq_1) o p Q st := goReg_of _
theorem u27r4 : goReg P s27r4 o p Q st = goLit P (litOf s27r4.eq_1) o p Q st := goReg_of _
theorem u27r5 : goReg P s27r5 o p Q st = goLit P (litOf s27r5.eq_1) o p Q st := goReg_of _
theorem u27r6 : goReg P s27r6 o p Q st = goLit P (litOf s27r6.eq_1) o p Q st := goReg_of _
theorem u27r7 : goReg P s27r7 o p Q st = goLit P (litOf s27r7.eq_1) o p Q st := goReg_of _
attribute [go_sem] u27r0 u27r1 u27r2 u27r3 u27r4 u27r5 u27r6 u27r7 e27
set_option maxRecDepth 100000 in
theorem F27 : FnIs Try.prog 27 Try.f27 [] news s27 [.cell 4 (some 3), .tmp 5] 44 := ⟨follows, Try.func27, by kernel_rfl, by kernel_rfl, by kernel_rfl, by kernel_rfl⟩

noncomputable def s77r0 : List SOper := [
  ⟨some 6, .mov (.k (.d (.bool false))), none⟩]
noncomputable def s77r1 : List SOper := [
  ⟨some 10, .mov (.t 0), none⟩,
  ⟨some 11, .len (.t 10), none⟩,
  ⟨some 12, .mov (.t 1), none⟩,
  ⟨some 13, .len (.t 12), none⟩,
  ⟨some 14, .bin .neq (.t 11) (.t 13), none⟩]
noncomputable def s77r2 : List SOper := [
  ⟨some 6, .mov (.k (.d (.bool false))), none⟩]
noncomputable def s77r3 : List SOper := [
  ⟨some 15, .mov (.t 0), none⟩,
  ⟨some 16, .len (.t 15), none⟩,
  ⟨some 17, .mov (.k (.d (.int .i64 0))), none⟩]
noncomputable def s77r4 : List SOper := [
  ⟨some 18, .bin .lss (.t 17) (.t 16), none⟩]
noncomputable def s77r5 : List SOper := [
  ⟨some 19, .mov (.t 17), none⟩,
  ⟨some 20, .iaddr 9 (.t 15) (.t 17), none⟩,
  ⟨some 21, .load (some 9) (.t 20), none⟩,
  ⟨some 8, .alloc 1 [(.d (.int .i64 0)), (.d (.int .i64 0)), (.d (.int .i64 0)), (.d (.int .i64 0)), (.d (.int .i64 0)), (.d (.int .i64 0)), (.d (.int .i64 0)), (.d .nilsl), (.d .nilsl)], none⟩,
  ⟨some 7, .mov (.t 19), none⟩,
  ⟨none, .store (some 9) (.t 8) (.t 21), none⟩]
noncomputable def s77r6 : List SOper := [
  ⟨some 22, .mov (.t 1), none⟩,
  ⟨some 23, .mov (.t 7), none⟩,
  ⟨some 24, .iaddr 9 (.t 22) (.t 23), none⟩,
  ⟨some 25, .load (some 9) (.t 24), none⟩,
  ⟨some 9, .alloc 1 [(.d (.int .i64 0)), (.d (.int .i64 0)), (.d (.int .i64 0)), (.d (.int .i64 0)), (.d (.int .i64 0)), (.d (.int .i64 0)), (.d (.int .i64 0)), (.d .nilsl), (.d .nilsl)], none⟩,
  ⟨none, .store (some 9) (.t 9) (.t 25), none⟩]
noncomputable def s77r7 : List SOper := [
  ⟨some 26, .mov (.t 2), none⟩,
  ⟨some 27, .load (some 9) (.t 8), none⟩,
  ⟨some 28, .load (some 9) (.t 9), none⟩,
  ⟨some 29, .call (.t 26) [(.t 27), (.t 28)], none⟩,
  ⟨some 30, .not (.t 29), none⟩]
noncomputable def s77r8 : List SOper := [
  ⟨some 6, .mov (.k (.d (.bool false))), none⟩]
noncomputable def s77r9 : List SOper := [
  ⟨some 31, .bin .add (.t 17) (.k (.d (.int .i64 1))), none⟩,
  ⟨some 17, .mov (.t 31), none⟩]
noncomputable def s77l10 : SCode := (.seq (.region s77r4 0 []) (.seq (.cond (.t 18) .skip (.exit 0)) (.seq (.block 1 (.seq (.region s77r5 1 []) (.seq (.region s77r6 1 []) (.seq (.region s77r7 0 []) (.cond (.t 30) (.seq (.region s77r8 0 []) .ret) .skip))))) (.region s77r9 0 []))))
theorem e77l10 : AWp P k0 s77l10 Q st = AWp P k0 (.seq (.region s77r4 0 []) (.seq (.cond (.t 18) .skip (.exit 0)) (.seq (.block 1 (.seq (.region s77r5 1 []) (.seq (.region s77r6 1 []) (.seq (.region s77r7 0 []) (.cond (.t 30) (.seq (.region s77r8 0 []) .ret) .skip))))) (.region s77r9 0 [])))) Q st := rfl
noncomputable def s77r11 : List SOper := [
  ⟨some 6, .mov (.k (.d (.bool true))), none⟩]
noncomputable def s77 : SCode := (.seq (.region s77r0 0 []) (.seq (.seq (.region s77r1 0 []) (.cond (.t 14) (.seq (.region s77r2 0 []) .ret) .skip)) (.seq (.seq (.region s77r3 0 []) (.block 0 (.loop s77l10))) (.seq (.region s77r11 0 []) .ret))))
theorem e77 : AWp P k0 s77 Q st = AWp P k0 (.seq (.region s77r0 0 []) (.seq (.seq (.region s77r1 0 []) (.cond (.t 14) (.seq (.region s77r2 0 []) .ret) .skip)) (.seq (.seq (.region s77r3 0 []) (.block 0 (.loop s77l10))) (.seq (.region s77r11 0 []) .ret)))) Q st := rfl
theorem u77r0 : goReg P s77r0 o p Q st = goLit P (litOf s77r0.eq_1) o p Q st := goReg_of _
theorem u77r1 : goReg P s77r1 o p Q st = goLit P (litOf s77r1.eq_1) o p Q st := goReg_of _
theorem u77r2 : goReg P s77r2 o p Q st = goLit P (litOf s77r2.eq_1) o p Q st := goReg_of _
theorem u77r3 : goReg P s77r3 o p Q st = goLit P (litOf s77r3.eq_1) o p Q st := goReg_of _
theorem u77r4 : goReg P s77r4 o p Q st = goLit P (litOf s77r4.eq_1) o p Q st := goReg_of _
theorem u77r5 : goReg P s77r5 o p Q st = goLit P (litOf s77r5.eq_1) o p Q st := goReg_of _
theorem u77r6 : goReg P s77r6 o p Q st = goLit P (litOf s77r6.eq_1) o p Q st := goReg_of _
theorem u77r7 : goReg P s77r7 o p Q st = goLit P (litOf s77r7.eq_1) o p Q st := goReg_of _
theorem u77r8 : goReg P s77r8 o p Q st = goLit P (litOf s77r8.eq_1) o p Q st := goReg_of _
theorem u77r9 : goReg P s77r9 o p Q st = goLit P (litOf s77r9.eq_1) o p Q st := goReg_of _
theorem u77r11 : goReg P s77r11 o p Q st = goLit P (litOf s77r11.eq_1) o p Q st := goReg_of _
attribute [go_sem] u77r0 u77r1 u77r2 u77r3 u77r4 u77r5 u77r6 u77r7 u77r8 u77r9 e77l10 u77r11 e77
set_option maxRecDepth 100000 in
theorem F77 : FnIs Try.prog 77 Try.f77 [] news s77 [.tmp 6] 32 := ⟨follows, Try.func77, by kernel_rfl, by kernel_rfl, by kernel_rfl, by kernel_rfl⟩

noncomputable def s40r0 : List SOper := [
  ⟨some 2, .box 2 (.t 0), none⟩,
  ⟨some 3, .box 1 (.t 1), none⟩,
  ⟨some 4, .mov (.k (.d (.bool false))), none⟩]
noncomputable def s40r1 : List SOper := [
  ⟨some 5, .faddr 0 (.t 2), none⟩,
  ⟨some 6, .load none (.t 5), none⟩,
  ⟨some 7, .faddr 0 (.t 3), none⟩,
  ⟨some 8, .load none (.t 7), none⟩,
  ⟨some 9, .bin .eql (.t 6) (.t 8), none⟩,
  ⟨some 10, .mov (.t 9), none⟩,
  ⟨some 11, .faddr 1 (.t 2), some (10, true)⟩,
  ⟨some 12, .load none (.t 11), some (10, true)⟩,
  ⟨some 13, .faddr 1 (.t 3), some (10, true)⟩,
  ⟨some 14, .load none (.t 13), some (10, true)⟩,
  ⟨some 15, .bin .eql (.t 12) (.t 14), some (10, true)⟩,
  ⟨some 16, .pick (.t 10) (.t 15) (.k (.d (.bool false))), none⟩,
  ⟨some 17, .mov (.t 16), none⟩,
  ⟨some 18, .faddr 2 (.t 2), some (17, true)⟩,
  ⟨some 19, .load none (.t 18), some (17, true)⟩,
  ⟨some 20, .faddr 2 (.t 3), some (17, true)⟩,
  ⟨some 21, .load none (.t 20), some (17, true)⟩,
  ⟨some 22, .call (.k (.d (.func (.func 77) [] []))) [(.t 19), (.t 21), (.k (.d (.func (.func 36) [] [])))], some (17, true)⟩,
  ⟨some 23, .pick (.t 17) (.t 22) (.k (.d (.bool false))), none⟩,
  ⟨some 4, .mov (.t 23), none⟩]
noncomputable def s40 : SCode := (.seq (.region s40r0 2 []) (.seq (.region s40r1 0 []) .ret))
theorem e40 : AWp P k0 s40 Q st = AWp P k0 (.seq (.region s40r0 2 []) (.seq (.region s40r1 0 []) .ret)) Q st := rfl
theorem u40r0 : goReg P s40r0 o p Q st = goLit P (litOf s40r0.eq_1) o p Q st := goReg_of _
theorem u40r1 : goReg P s40r1 o p Q st = goLit P (litOf s40r1.eq_1) o p Q st := goReg_of _
attribute [go_sem] u40r0 u40r1 e40
set_option maxRecDepth 100000 in
theorem F40 : FnIs Try.prog 40 Try.f40 [] news s40 [.tmp 4] 24 := ⟨follows, Try.func40, by kernel_rfl, by kernel_rfl, by kernel_rfl, by kernel_rfl⟩

end

def qConsume (q : Qu) (seq : Int) : Qu × Int :=
  if !qValid q then (qEmpty, 1)
  else if decide (seq ≥ 1) && decide (seq ≤ q.cons) then (qEmpty, 21)
  else if (q.items.length : Int) == 0 || seq != (q.items.getD 0 default).seq then (qEmpty, 22)
  else (⟨q.acc, seq, q.items.drop 1⟩, 0)

set_option maxRecDepth 10000 in
theorem qConsume_ok (q : Qu) (seq : Int) (hq : q.Sm) : ACall Try.prog 27 [.d (.agg (encQ q)), .d (.int .i64 seq)] [] (.tup [.d (.agg (encQ (qConsume q seq).1)), .d (.int .i64 (qConsume q seq).2)]) [] := by
  have hl := hq.1
  first | refine F27.go ?_ | refine F27.goT ?_
  simp only [encQ, go_sem, Nat.reduceAdd, Nat.reduceMul, Nat.reduceSub, Nat.reduceEqDiff, Nat.reduceLT, Nat.reduceLeDiff, Nat.reduceBEq, reduceIte, reduceCtorEq, Int.reduceAdd, Int.reduceLT, Int.reduceLE, Int.reduceGT, Int.reduceGE, Int.reduceEq, Int.reduceNe, Int.reduceBEq, Int.reduceBNe, Int.reduceToNat, Int.reduceNeg]
  (repeat (with_reducible refine ob ?_)); first | refine cl F32 (qValid_ok q hq) ?_ | refine clF F32 (qValid_ok q hq) (fun _ => by simp only [encPk, encQ, go_sem, Nat.reduceAdd, Nat.reduceMul, Nat.reduceSub, Nat.reduceEqDiff, Nat.reduceLT, Nat.reduceLeDiff, Nat.reduceBEq, reduceIte, reduceCtorEq, Int.reduceAdd, Int.reduceLT, Int.reduceLE, Int.reduceGT, Int.reduceGE, Int.reduceEq, Int.reduceNe, Int.reduceBEq, Int.reduceBNe, Int.reduceToNat, Int.reduceNeg]) ?_
  try (refine ev ?_; try exact True.intro)
  refine AWp_cond _ rfl rfl (fun h1 => ?_) (fun h1 => ?_)
  · try simp only [qConsume, h1, qEmpty, go_sem, Nat.reduceAdd, Nat.reduceMul, Nat.reduceSub, Nat.reduceEqDiff, Nat.reduceLT, Nat.reduceLeDiff, Nat.reduceBEq, reduceIte, reduceCtorEq, Int.reduceAdd, Int.reduceLT, Int.reduceLE, Int.reduceGT, Int.reduceGE, Int.reduceEq, Int.reduceNe, Int.reduceBEq, Int.reduceBNe, Int.reduceToNat, Int.reduceNeg]
  try (refine ev ?_; try exact True.intro)
  (repeat (with_reducible refine ob ?_))
  refine AWp_cond _ rfl rfl (fun h2 => ?_) (fun h2 => ?_)
  · try simp only [qConsume, h1, h2, qEmpty, go_sem, Nat.reduceAdd, Nat.reduceMul, Nat.reduceSub, Nat.reduceEqDiff, Nat.reduceLT, Nat.reduceLeDiff, Nat.reduceBEq, reduceIte, reduceCtorEq, Int.reduceAdd, Int.reduceLT, Int.reduceLE, Int.reduceGT, Int.reduceGE, Int.reduceEq, Int.reduceNe, Int.reduceBEq, Int.reduceBNe, Int.reduceToNat, Int.reduceNeg]
  obtain ⟨acc, cons, items⟩ := q
  cases items with
  | nil =>
    try (refine ev ?_; try exact True.intro)
    (repeat (with_reducible refine ob ?_))
    refine AWp_cond _ rfl rfl (fun h3 => ?_) (fun h3 => ?_)
    · try simp only [qConsume, h1, h2, qEmpty, go_sem, Nat.reduceAdd, Nat.reduceMul, Nat.reduceSub, Nat.reduceEqDiff, Nat.reduceLT, Nat.reduceLeDiff, Nat.reduceBEq, reduceIte, reduceCtorEq, Int.reduceAdd, Int.reduceLT, Int.reduceLE, Int.reduceGT, Int.reduceGE, Int.reduceEq, Int.reduceNe, Int.reduceBEq, Int.reduceBNe, Int.reduceToNat, Int.reduceNeg]
    · exact Bool.noConfusion h3
  | cons x l =>
    simp only [encPk, go_sem, Nat.reduceAdd, Nat.reduceMul, Nat.reduceSub, Nat.reduceEqDiff, Nat.reduceLT, Nat.reduceLeDiff, Nat.reduceBEq, reduceIte, reduceCtorEq, Int.reduceAdd, Int.reduceLT, Int.reduceLE, Int.reduceGT, Int.reduceGE, Int.reduceEq, Int.reduceNe, Int.reduceBEq, Int.reduceBNe, Int.reduceToNat, Int.reduceNeg]
    (repeat (with_reducible refine ob ?_))
    refine AWp_cond _ rfl rfl (fun h3 => ?_) (fun h3 => ?_)
    · try simp only [qConsume, h1, h2, h3, qEmpty, go_sem, Nat.reduceAdd, Nat.reduceMul, Nat.reduceSub, Nat.reduceEqDiff, Nat.reduceLT, Nat.reduceLeDiff, Nat.reduceBEq, reduceIte, reduceCtorEq, Int.reduceAdd, Int.reduceLT, Int.reduceLE, Int.reduceGT, Int.reduceGE, Int.reduceEq, Int.reduceNe, Int.reduceBEq, Int.reduceBNe, Int.reduceToNat, Int.reduceNeg]
    simp only [encPk, go_sem, Nat.reduceAdd, Nat.reduceMul, Nat.reduceSub, Nat.reduceEqDiff, Nat.reduceLT, Nat.reduceLeDiff, Nat.reduceBEq, reduceIte, reduceCtorEq, Int.reduceAdd, Int.reduceLT, Int.reduceLE, Int.reduceGT, Int.reduceGE, Int.reduceEq, Int.reduceNe, Int.reduceBEq, Int.reduceBNe, Int.reduceToNat, Int.reduceNeg]
    refine ⟨by omega, ?_⟩
    simp only [List.length_cons] at hl
    refine callO_any (clones_ok l (by omega) (fun p hp => hq.2 p (List.mem_cons_of_mem _ hp))) F68.body rfl ⟨by simp only [encPk, encQ, go_sem, Nat.reduceAdd, Nat.reduceMul, Nat.reduceSub, Nat.reduceEqDiff, Nat.reduceLT, Nat.reduceLeDiff, Nat.reduceBEq, reduceIte, reduceCtorEq, Int.reduceAdd, Int.reduceLT, Int.reduceLE, Int.reduceGT, Int.reduceGE, Int.reduceEq, Int.reduceNe, Int.reduceBEq, Int.reduceBNe, Int.reduceToNat, Int.reduceNeg], by try (refine ev ?_; try exact True.intro), by try (refine ev ?_; try exact True.intro), by try (refine ev ?_; try exact True.intro)⟩ (by try (refine ev ?_; try exact True.intro)) (by simp [ASlot.toks]) ?_
    simp only [retok, renT, qConsume, h1, h2, h3, go_sem, Nat.reduceAdd, Nat.reduceMul, Nat.reduceSub, Nat.reduceEqDiff, Nat.reduceLT, Nat.reduceLeDiff, Nat.reduceBEq, reduceIte, reduceCtorEq, Int.reduceAdd, Int.reduceLT, Int.reduceLE, Int.reduceGT, Int.reduceGE, Int.reduceEq, Int.reduceNe, Int.reduceBEq, Int.reduceBNe, Int.reduceToNat, Int.reduceNeg]

/-- Two lists, element by element. -/
def eqAt {α : Type} (f : α → α → Bool) (l m : List α) (i : Nat) : Bool := match l[i]?, m[i]? with | some x, some y => f x y | _, _ => true
def eqBy {α : Type} (f : α → α → Bool) (l m : List α) : Bool := l.length == m.length && allTo (eqAt f l m) l.length

theorem eqBy_eq {α : Type} [DecidableEq α] (l m : List α) : eqBy (fun x y => decide (x = y)) l m = decide (l = m) := by
  rw [Bool.eq_iff_iff]
  simp only [eqBy, Bool.and_eq_true, beq_iff_eq, allTo_iff, decide_eq_true_eq]
  constructor
  · rintro ⟨h1, h2⟩
    refine List.ext_getElem h1 fun i hi hj => ?_
    have := h2 i hi
    simpa [eqAt, hi, hj] using this
  · rintro rfl
    refine ⟨rfl, fun i hi => ?_⟩
    simp [eqAt, hi]

def Seqf (l m : List Pk) (k : FuncId) (i : { i : Nat // allTo (eqAt (fun x y => decide (x = y)) l m) i = true }) : St :=
  ⟨[(1, true, .d (.sl 9 (m.map encPk))), (2, true, .d (.func (.func k) [] [])), (15, true, .d (.sl 9 (l.map encPk))), (16, true, .d (.int .i64 l.length)), (17, true, .d (.int .i64 (i.val : Nat)))], [], [], 1⟩

set_option maxRecDepth 10000 in
theorem eqPks_ok (l m : List Pk) (hl : l.length ≤ 1000) (hp : ∀ p ∈ l, p.Sm) :
    ACall Try.prog 77 [.d (.sl 9 (l.map encPk)), .d (.sl 9 (m.map encPk)), .d (.func (.func 36) [] [])] [] (.d (.bool (decide (l = m)))) [] := by
  first | refine F77.go ?_ | refine F77.goT ?_
  simp only [go_sem, Nat.reduceAdd, Nat.reduceMul, Nat.reduceSub, Nat.reduceEqDiff, Nat.reduceLT, Nat.reduceLeDiff, Nat.reduceBEq, reduceIte, reduceCtorEq, Int.reduceAdd, Int.reduceLT, Int.reduceLE, Int.reduceGT, Int.reduceGE, Int.reduceEq, Int.reduceNe, Int.reduceBEq, Int.reduceBNe, Int.reduceToNat, Int.reduceNeg]
  refine AWp_cond _ rfl rfl (fun h => ?_) (fun h => ?_)
  · have hne : decide (l = m) = false := by rw [decide_eq_false_iff_not]; rintro rfl; simp at h
    try simp only [hne, go_sem, Nat.reduceAdd, Nat.reduceMul, Nat.reduceSub, Nat.reduceEqDiff, Nat.reduceLT, Nat.reduceLeDiff, Nat.reduceBEq, reduceIte, reduceCtorEq, Int.reduceAdd, Int.reduceLT, Int.reduceLE, Int.reduceGT, Int.reduceGE, Int.reduceEq, Int.reduceNe, Int.reduceBEq, Int.reduceBNe, Int.reduceToNat, Int.reduceNeg]
  · have hlm : l.length = m.length := by simp at h; omega
    try (refine ev ?_; try exact True.intro)
    refine AWp_loop (Seqf l m 36) (fun i => l.length - i.val) ⟨0, rfl⟩ ?_ (fun i => ?_)
    · try simp only [Seqf, go_sem, Nat.reduceAdd, Nat.reduceMul, Nat.reduceSub, Nat.reduceEqDiff, Nat.reduceLT, Nat.reduceLeDiff, Nat.reduceBEq, reduceIte, reduceCtorEq, Int.reduceAdd, Int.reduceLT, Int.reduceLE, Int.reduceGT, Int.reduceGE, Int.reduceEq, Int.reduceNe, Int.reduceBEq, Int.reduceBNe, Int.reduceToNat, Int.reduceNeg]
    · obtain ⟨i, hi⟩ := i
      try simp only [Seqf, go_sem, Nat.reduceAdd, Nat.reduceMul, Nat.reduceSub, Nat.reduceEqDiff, Nat.reduceLT, Nat.reduceLeDiff, Nat.reduceBEq, reduceIte, reduceCtorEq, Int.reduceAdd, Int.reduceLT, Int.reduceLE, Int.reduceGT, Int.reduceGE, Int.reduceEq, Int.reduceNe, Int.reduceBEq, Int.reduceBNe, Int.reduceToNat, Int.reduceNeg]
      refine AWp_cond _ rfl rfl (fun h => ?_) (fun h => ?_)
      · have hil : i < l.length := by simpa using h
        have him : i < m.length := by omega
        simp only [getD_map encPk l hil, getD_map encPk m him, encPk, go_sem, Nat.reduceAdd, Nat.reduceMul, Nat.reduceSub, Nat.reduceEqDiff, Nat.reduceLT, Nat.reduceLeDiff, Nat.reduceBEq, reduceIte, reduceCtorEq, Int.reduceAdd, Int.reduceLT, Int.reduceLE, Int.reduceGT, Int.reduceGE, Int.reduceEq, Int.reduceNe, Int.reduceBEq, Int.reduceBNe, Int.reduceToNat, Int.reduceNeg]
        (repeat (with_reducible refine ob ?_))
        (repeat (with_reducible refine ob ?_)); first | refine cl F36 (pkEqual_ok l[i] m[i] (hp _ (List.getElem_mem hil)).v (hp _ (List.getElem_mem hil)).c) ?_ | refine clF F36 (pkEqual_ok l[i] m[i] (hp _ (List.getElem_mem hil)).v (hp _ (List.getElem_mem hil)).c) (fun _ => by simp only [encPk, encQ, go_sem, Nat.reduceAdd, Nat.reduceMul, Nat.reduceSub, Nat.reduceEqDiff, Nat.reduceLT, Nat.reduceLeDiff, Nat.reduceBEq, reduceIte, reduceCtorEq, Int.reduceAdd, Int.reduceLT, Int.reduceLE, Int.reduceGT, Int.reduceGE, Int.reduceEq, Int.reduceNe, Int.reduceBEq, Int.reduceBNe, Int.reduceToNat, Int.reduceNeg]) ?_
        try (refine ev ?_; try exact True.intro)
        refine AWp_cond _ rfl rfl (fun h2 => ?_) (fun h2 => ?_)
        · have hne : l[i] ≠ m[i] := by simpa using h2
          try simp only [eq_ne hil him hne, go_sem, Nat.reduceAdd, Nat.reduceMul, Nat.reduceSub, Nat.reduceEqDiff, Nat.reduceLT, Nat.reduceLeDiff, Nat.reduceBEq, reduceIte, reduceCtorEq, Int.reduceAdd, Int.reduceLT, Int.reduceLE, Int.reduceGT, Int.reduceGE, Int.reduceEq, Int.reduceNe, Int.reduceBEq, Int.reduceBNe, Int.reduceToNat, Int.reduceNeg]
        · have he : l[i] = m[i] := by simpa using h2
          try (refine ev ?_; try exact True.intro)
          refine ⟨⟨i + 1, allTo_step hi (by simp [eqAt, hil, him, he])⟩, ?_, by dsimp only; omega⟩
          try simp only [Seqf, wrap_succ (show i < 9223372036854775807 by omega), go_sem, Nat.reduceAdd, Nat.reduceMul, Nat.reduceSub, Nat.reduceEqDiff, Nat.reduceLT, Nat.reduceLeDiff, Nat.reduceBEq, reduceIte, reduceCtorEq, Int.reduceAdd, Int.reduceLT, Int.reduceLE, Int.reduceGT, Int.reduceGE, Int.reduceEq, Int.reduceNe, Int.reduceBEq, Int.reduceBNe, Int.reduceToNat, Int.reduceNeg]
      · have he : decide (l = m) = true := by
          have : l.length ≤ i := by simpa using h
          rw [← eqBy_eq]
          simp only [eqBy, hlm, beq_self_eq_true, Bool.true_and]
          exact allTo_iff.2 fun j hj => allTo_iff.1 hi j (by omega)
        try simp only [he, go_sem, Nat.reduceAdd, Nat.reduceMul, Nat.reduceSub, Nat.reduceEqDiff, Nat.reduceLT, Nat.reduceLeDiff, Nat.reduceBEq, reduceIte, reduceCtorEq, Int.reduceAdd, Int.reduceLT, Int.reduceLE, Int.reduceGT, Int.reduceGE, Int.reduceEq, Int.reduceNe, Int.reduceBEq, Int.reduceBNe, Int.reduceToNat, Int.reduceNeg]

theorem beq_Qu (a b : Qu) : (a.acc == b.acc && a.cons == b.cons && decide (a.items = b.items)) = decide (a = b) := by
  obtain ⟨a1, a2, a3⟩ := a
  obtain ⟨b1, b2, b3⟩ := b
  rw [Bool.eq_iff_iff]
  simp [and_assoc]

theorem qEqual_ok (a b : Qu) (ha : a.Sm) : ACall Try.prog 40 [.d (.agg (encQ a)), .d (.agg (encQ b))] [] (.d (.bool (decide (a = b)))) [] := by
  first | refine F40.go ?_ | refine F40.goT ?_
  simp only [encQ, go_sem, Nat.reduceAdd, Nat.reduceMul, Nat.reduceSub, Nat.reduceEqDiff, Nat.reduceLT, Nat.reduceLeDiff, Nat.reduceBEq, reduceIte, reduceCtorEq, Int.reduceAdd, Int.reduceLT, Int.reduceLE, Int.reduceGT, Int.reduceGE, Int.reduceEq, Int.reduceNe, Int.reduceBEq, Int.reduceBNe, Int.reduceToNat, Int.reduceNeg]
  (repeat (with_reducible refine ob ?_)); first | refine cl F77 (eqPks_ok a.items b.items ha.1 ha.2) ?_ | refine clF F77 (eqPks_ok a.items b.items ha.1 ha.2) (fun _ => by simp only [encPk, encQ, go_sem, Nat.reduceAdd, Nat.reduceMul, Nat.reduceSub, Nat.reduceEqDiff, Nat.reduceLT, Nat.reduceLeDiff, Nat.reduceBEq, reduceIte, reduceCtorEq, Int.reduceAdd, Int.reduceLT, Int.reduceLE, Int.reduceGT, Int.reduceGE, Int.reduceEq, Int.reduceNe, Int.reduceBEq, Int.reduceBNe, Int.reduceToNat, Int.reduceNeg]) ?_
  try (refine ev ?_; try exact True.intro)
  exact beq_Qu a b
end Go.Proofs.Ythcpckcgjplhiaa

/- The reference's packets. -/
namespace Go.Proofs.Ythcpckcgjplhiaa
open Go.Abs
set_option linter.unusedSimpArgs false

theorem take_all_succ {α : Type} {f : α → Bool} {l : List α} {i : Nat} (h : (l.take i).all f = true) (hi : i < l.length) (hf : f l[i] = true) : (l.take (i + 1)).all f = true := by
  rw [List.take_succ_eq_append_getElem hi, List.all_append, h]
  simp [hf]
theorem all_no {α : Type} {f : α → Bool} {l : List α} {i : Nat} (hi : i < l.length) (hf : f l[i] = false) : l.all f = false := by
  rw [List.all_eq_false]
  exact ⟨l[i], List.getElem_mem hi, by simp [hf]⟩
theorem all_done {α : Type} {f : α → Bool} {l : List α} {i : Nat} (h : (l.take i).all f = true) (hi : l.length ≤ i) : l.all f = true := by
  rwa [List.take_of_length_le hi] at h

section
variable {P : Program} {k0 o : Nat} {p : List (Nat × Nat)} {Q : SExit → St → Prop} {st : St}
noncomputable def s99r0 : List SOper := [
  ⟨some 6, .mov (.k (.d (.bool false))), none⟩]
noncomputable def s99r1 : List SOper := [
  ⟨some 7, .mov (.t 0), none⟩,
  ⟨some 8, .mov (.t 1), none⟩,
  ⟨some 9, .bin .geq (.t 7) (.t 8), none⟩,
  ⟨some 10, .mov (.t 9), none⟩,
  ⟨some 11, .mov (.t 0), some (10, true)⟩,
  ⟨some 12, .mov (.t 2), some (10, true)⟩,
  ⟨some 13, .bin .leq (.t 11) (.t 12), some (10, true)⟩,
  ⟨some 14, .pick (.t 10) (.t 13) (.k (.d (.bool false))), none⟩,
  ⟨some 6, .mov (.t 14), none⟩]
noncomputable def s99 : SCode := (.seq (.region s99r0 0 []) (.seq (.region s99r1 0 []) .ret))
theorem e99 : AWp P k0 s99 Q st = AWp P k0 (.seq (.region s99r0 0 []) (.seq (.region s99r1 0 []) .ret)) Q st := rfl
theorem u99r0 : goReg P s99r0 o p Q st = goLit P (litOf s99r0.eq_1) o p Q st := goReg_of _
theorem u99r1 : goReg P s99r1 o p Q st = goLit P (litOf s99r1.eq_1) o p Q st := goReg_of _
attribute [go_sem] u99r0 u99r1 e99
set_option maxRecDepth 100000 in
theorem F99 : FnIs Try.prog 99 Try.f99 [] news s99 [.tmp 6] 15 := ⟨follows, Try.func99, by kernel_rfl, by kernel_rfl, by kernel_rfl, by kernel_rfl⟩

noncomputable def s100r0 : List SOper := [
  ⟨some 1, .box 1 (.t 0), none⟩,
  ⟨some 2, .mov (.k (.d (.bool false))), none⟩]
noncomputable def s100r1 : List SOper := [
  ⟨some 3, .faddr 3 (.t 1), none⟩,
  ⟨some 4, .load none (.t 3), none⟩,
  ⟨some 5, .call (.k (.d (.func (.func 99) [] []))) [(.t 4), (.k (.d (.int .i64 0))), (.k (.d (.int .i64 5)))], none⟩,
  ⟨some 6, .mov (.t 5), none⟩,
  ⟨some 7, .faddr 4 (.t 1), some (6, true)⟩,
  ⟨some 8, .load none (.t 7), some (6, true)⟩,
  ⟨some 9, .call (.k (.d (.func (.func 99) [] []))) [(.t 8), (.k (.d (.int .i64 0))), (.k (.d (.int .i64 5)))], some (6, true)⟩,
  ⟨some 10, .pick (.t 6) (.t 9) (.k (.d (.bool false))), none⟩,
  ⟨some 11, .mov (.t 10), none⟩,
  ⟨some 12, .faddr 3 (.t 1), some (11, true)⟩,
  ⟨some 13, .load none (.t 12), some (11, true)⟩,
  ⟨some 14, .faddr 4 (.t 1), some (11, true)⟩,
  ⟨some 15, .load none (.t 14), some (11, true)⟩,
  ⟨some 16, .bin .neq (.t 13) (.t 15), some (11, true)⟩,
  ⟨some 17, .pick (.t 11) (.t 16) (.k (.d (.bool false))), none⟩,
  ⟨some 2, .mov (.t 17), none⟩]
noncomputable def s100 : SCode := (.seq (.region s100r0 1 []) (.seq (.region s100r1 0 []) .ret))
theorem e100 : AWp P k0 s100 Q st = AWp P k0 (.seq (.region s100r0 1 []) (.seq (.region s100r1 0 []) .ret)) Q st := rfl
theorem u100r0 : goReg P s100r0 o p Q st = goLit P (litOf s100r0.eq_1) o p Q st := goReg_of _
theorem u100r1 : goReg P s100r1 o p Q st = goLit P (litOf s100r1.eq_1) o p Q st := goReg_of _
attribute [go_sem] u100r0 u100r1 e100
set_option maxRecDepth 100000 in
theorem F100 : FnIs Try.prog 100 Try.f100 [] news s100 [.tmp 2] 18 := ⟨follows, Try.func100, by kernel_rfl, by kernel_rfl, by kernel_rfl, by kernel_rfl⟩

noncomputable def s119r0 : List SOper := [
  ⟨some 1, .box 1 (.t 0), none⟩,
  ⟨some 2, .mov (.k (.d (.bool false))), none⟩]
noncomputable def s119r1 : List SOper := [
  ⟨some 3, .faddr 0 (.t 1), none⟩,
  ⟨some 4, .load none (.t 3), none⟩,
  ⟨some 5, .bin .eql (.t 4) (.k (.d (.int .i64 1))), none⟩,
  ⟨some 6, .mov (.t 5), none⟩,
  ⟨some 7, .faddr 2 (.t 1), some (6, true)⟩,
  ⟨some 8, .load none (.t 7), some (6, true)⟩,
  ⟨some 9, .bin .eql (.t 8) (.k (.d (.str []))), some (6, true)⟩,
  ⟨some 10, .pick (.t 6) (.t 9) (.k (.d (.bool false))), none⟩,
  ⟨some 11, .mov (.t 10), none⟩,
  ⟨some 12, .faddr 0 (.t 1), some (11, false)⟩,
  ⟨some 13, .load none (.t 12), some (11, false)⟩,
  ⟨some 14, .bin .eql (.t 13) (.k (.d (.int .i64 2))), some (11, false)⟩,
  ⟨some 15, .mov (.t 14), some (11, false)⟩,
  ⟨some 16, .faddr 1 (.t 1), some (15, true)⟩,
  ⟨some 17, .load none (.t 16), some (15, true)⟩,
  ⟨some 18, .bin .eql (.t 17) (.k (.d (.int .i64 0))), some (15, true)⟩,
  ⟨some 19, .pick (.t 15) (.t 18) (.k (.d (.bool false))), some (11, false)⟩,
  ⟨some 20, .pick (.t 11) (.k (.d (.bool true))) (.t 19), none⟩,
  ⟨some 2, .mov (.t 20), none⟩]
noncomputable def s119 : SCode := (.seq (.region s119r0 1 []) (.seq (.region s119r1 0 []) .ret))
theorem e119 : AWp P k0 s119 Q st = AWp P k0 (.seq (.region s119r0 1 []) (.seq (.region s119r1 0 []) .ret)) Q st := rfl
theorem u119r0 : goReg P s119r0 o p Q st = goLit P (litOf s119r0.eq_1) o p Q st := goReg_of _
theorem u119r1 : goReg P s119r1 o p Q st = goLit P (litOf s119r1.eq_1) o p Q st := goReg_of _
attribute [go_sem] u119r0 u119r1 e119
set_option maxRecDepth 100000 in
theorem F119 : FnIs Try.prog 119 Try.f119 [] news s119 [.tmp 2] 21 := ⟨follows, Try.func119, by kernel_rfl, by kernel_rfl, by kernel_rfl, by kernel_rfl⟩

noncomputable def s101r0 : List SOper := [
  ⟨some 1, .box 1 (.t 0), none⟩,
  ⟨some 2, .mov (.k (.d (.bool false))), none⟩]
noncomputable def s101r1 : List SOper := [
  ⟨some 5, .faddr 7 (.t 1), none⟩,
  ⟨some 6, .load none (.t 5), none⟩,
  ⟨some 7, .len (.t 6), none⟩,
  ⟨some 8, .bin .gtr (.t 7) (.k (.d (.int .i64 4))), none⟩,
  ⟨some 9, .mov (.t 8), none⟩,
  ⟨some 10, .faddr 8 (.t 1), some (9, false)⟩,
  ⟨some 11, .load none (.t 10), some (9, false)⟩,
  ⟨some 12, .len (.t 11), some (9, false)⟩,
  ⟨some 13, .bin .gtr (.t 12) (.k (.d (.int .i64 6))), some (9, false)⟩,
  ⟨some 14, .pick (.t 9) (.k (.d (.bool true))) (.t 13), none⟩]
noncomputable def s101r2 : List SOper := [
  ⟨some 2, .mov (.k (.d (.bool false))), none⟩]
noncomputable def s101r3 : List SOper := [
  ⟨some 3, .mov (.k (.d (.int .i64 0))), none⟩]
noncomputable def s101r4 : List SOper := [
  ⟨some 15, .mov (.t 3), none⟩,
  ⟨some 16, .faddr 7 (.t 1), none⟩,
  ⟨some 17, .load none (.t 16), none⟩,
  ⟨some 18, .len (.t 17), none⟩,
  ⟨some 19, .bin .lss (.t 15) (.t 18), none⟩]
noncomputable def s101r5 : List SOper := [
  ⟨some 22, .faddr 7 (.t 1), none⟩,
  ⟨some 23, .load none (.t 22), none⟩,
  ⟨some 24, .mov (.t 3), none⟩,
  ⟨some 25, .iaddr 3 (.t 23) (.t 24), none⟩,
  ⟨some 26, .load (some 3) (.t 25), none⟩,
  ⟨some 27, .call (.k (.d (.func (.func 119) [] []))) [(.t 26)], none⟩,
  ⟨some 28, .not (.t 27), none⟩,
  ⟨some 29, .mov (.t 28), none⟩,
  ⟨some 30, .faddr 7 (.t 1), some (29, false)⟩,
  ⟨some 31, .load none (.t 30), some (29, false)⟩,
  ⟨some 32, .mov (.t 3), some (29, false)⟩,
  ⟨some 33, .iaddr 3 (.t 31) (.t 32), some (29, false)⟩,
  ⟨some 34, .faddr 2 (.t 33), some (29, false)⟩,
  ⟨some 35, .load none (.t 34), some (29, false)⟩,
  ⟨some 36, .lenS (.t 35), some (29, false)⟩,
  ⟨some 37, .bin .gtr (.t 36) (.k (.d (.int .i64 40))), some (29, false)⟩,
  ⟨some 38, .pick (.t 29) (.k (.d (.bool true))) (.t 37), none⟩]
noncomputable def s101r6 : List SOper := [
  ⟨some 2, .mov (.k (.d (.bool false))), none⟩]
noncomputable def s101r7 : List SOper := [
  ⟨some 20, .mov (.t 3), none⟩,
  ⟨some 21, .bin .add (.t 20) (.k (.d (.int .i64 1))), none⟩,
  ⟨some 3, .mov (.t 21), none⟩]
noncomputable def s101l8 : SCode := (.seq (.seq (.region s101r4 0 []) (.cond (.t 19) .skip (.exit 0))) (.seq (.block 1 (.seq (.region s101r5 0 []) (.cond (.t 38) (.seq (.region s101r6 0 []) .ret) .skip))) (.region s101r7 0 [])))
theorem e101l8 : AWp P k0 s101l8 Q st = AWp P k0 (.seq (.seq (.region s101r4 0 []) (.cond (.t 19) .skip (.exit 0))) (.seq (.block 1 (.seq (.region s101r5 0 []) (.cond (.t 38) (.seq (.region s101r6 0 []) .ret) .skip))) (.region s101r7 0 []))) Q st := rfl
noncomputable def s101r9 : List SOper := [
  ⟨some 4, .mov (.k (.d (.int .i64 0))), none⟩]
noncomputable def s101r10 : List SOper := [
  ⟨some 39, .mov (.t 4), none⟩,
  ⟨some 40, .faddr 8 (.t 1), none⟩,
  ⟨some 41, .load none (.t 40), none⟩,
  ⟨some 42, .len (.t 41), none⟩,
  ⟨some 43, .bin .lss (.t 39) (.t 42), none⟩]
noncomputable def s101r11 : List SOper := [
  ⟨some 46, .faddr 8 (.t 1), none⟩,
  ⟨some 47, .load none (.t 46), none⟩,
  ⟨some 48, .mov (.t 4), none⟩,
  ⟨some 49, .iaddr 1 (.t 47) (.t 48), none⟩,
  ⟨some 50, .load none (.t 49), none⟩,
  ⟨some 51, .call (.k (.d (.func (.func 99) [] []))) [(.t 50), (.k (.d (.int .i64 0))), (.k (.d (.int .i64 1099511627776)))], none⟩,
  ⟨some 52, .not (.t 51), none⟩]
noncomputable def s101r12 : List SOper := [
  ⟨some 2, .mov (.k (.d (.bool false))), none⟩]
noncomputable def s101r13 : List SOper := [
  ⟨some 44, .mov (.t 4), none⟩,
  ⟨some 45, .bin .add (.t 44) (.k (.d (.int .i64 1))), none⟩,
  ⟨some 4, .mov (.t 45), none⟩]
noncomputable def s101l14 : SCode := (.seq (.seq (.region s101r10 0 []) (.cond (.t 43) .skip (.exit 2))) (.seq (.block 3 (.seq (.region s101r11 0 []) (.cond (.t 52) (.seq (.region s101r12 0 []) .ret) .skip))) (.region s101r13 0 [])))
theorem e101l14 : AWp P k0 s101l14 Q st = AWp P k0 (.seq (.seq (.region s101r10 0 []) (.cond (.t 43) .skip (.exit 2))) (.seq (.block 3 (.seq (.region s101r11 0 []) (.cond (.t 52) (.seq (.region s101r12 0 []) .ret) .skip))) (.region s101r13 0 []))) Q st := rfl
noncomputable def s101r15 : List SOper := [
  ⟨some 2, .mov (.k (.d (.bool true))), none⟩]
noncomputable def s101 : SCode := (.seq (.region s101r0 1 []) (.seq (.seq (.region s101r1 0 []) (.cond (.t 14) (.seq (.region s101r2 0 []) .ret) .skip)) (.seq (.seq (.region s101r3 0 []) (.block 0 (.loop s101l8))) (.seq (.seq (.region s101r9 0 []) (.block 2 (.loop s101l14))) (.seq (.region s101r15 0 []) .ret)))))
theorem e101 : AWp P k0 s101 Q st = AWp P k0 (.seq (.region s101r0 1 []) (.seq (.seq (.region s101r1 0 []) (.cond (.t 14) (.seq (.region s101r2 0 []) .ret) .skip)) (.seq (.seq (.region s101r3 0 []) (.block 0 (.loop s101l8))) (.seq (.seq (.region s101r9 0 []) (.block 2 (.loop s101l14))) (.seq (.region s101r15 0 []) .ret))))) Q st := rfl
theorem u101r0 : goReg P s101r0 o p Q st = goLit P (litOf s101r0.eq_1) o p Q st := goReg_of _
theorem u101r1 : goReg P s101r1 o p Q st = goLit P (litOf s101r1.eq_1) o p Q st := goReg_of _
theorem u101r2 : goReg P s101r2 o p Q st = goLit P (litOf s101r2.eq_1) o p Q st := goReg_of _
theorem u101r3 : goReg P s101r3 o p Q st = goLit P (litOf s101r3.eq_1) o p Q st := goReg_of _
theorem u101r4 : goReg P s101r4 o p Q st = goLit P (litOf s101r4.eq_1) o p Q st := goReg_of _
theorem u101r5 : goReg P s101r5 o p Q st = goLit P (litOf s101r5.eq_1) o p Q st := goReg_of _
theorem u101r6 : goReg P s101r6 o p Q st = goLit P (litOf s101r6.eq_1) o p Q st := goReg_of _
theorem u101r7 : goReg P s101r7 o p Q st = goLit P (litOf s101r7.eq_1) o p Q st := goReg_of _
theorem u101r9 : goReg P s101r9 o p Q st = goLit P (litOf s101r9.eq_1) o p Q st := goReg_of _
theorem u101r10 : goReg P s101r10 o p Q st = goLit P (litOf s101r10.eq_1) o p Q st := goReg_of _
theorem u101r11 : goReg P s101r11 o p Q st = goLit P (litOf s101r11.eq_1) o p Q st := goReg_of _
theorem u101r12 : goReg P s101r12 o p Q st = goLit P (litOf s101r12.eq_1) o p Q st := goReg_of _
theorem u101r13 : goReg P s101r13 o p Q st = goLit P (litOf s101r13.eq_1) o p Q st := goReg_of _
theorem u101r15 : goReg P s101r15 o p Q st = goLit P (litOf s101r15.eq_1) o p Q st := goReg_of _
attribute [go_sem] u101r0 u101r1 u101r2 u101r3 u101r4 u101r5 u101r6 u101r7 e101l8 u101r9 u101r10 u101r11 u101r12 u101r13 e101l14 u101r15 e101
set_option maxRecDepth 100000 in
theorem F101 : FnIs Try.prog 101 Try.f101 [] news s101 [.tmp 2] 53 := ⟨follows, Try.func101, by kernel_rfl, by kernel_rfl, by kernel_rfl, by kernel_rfl⟩

noncomputable def s75r0 : List SOper := [
  ⟨some 1, .box 1 (.t 0), none⟩,
  ⟨some 2, .mov (.k (.d (.bool false))), none⟩]
noncomputable def s75r1 : List SOper := [
  ⟨some 4, .faddr 1 (.t 1), none⟩,
  ⟨some 5, .load none (.t 4), none⟩,
  ⟨some 6, .call (.k (.d (.func (.func 99) [] []))) [(.t 5), (.k (.d (.int .i64 1))), (.k (.d (.int .i64 32)))], none⟩,
  ⟨some 7, .not (.t 6), none⟩]
noncomputable def s75r2 : List SOper := [
  ⟨some 2, .mov (.k (.d (.bool false))), none⟩]
noncomputable def s75r3 : List SOper := [
  ⟨some 8, .faddr 2 (.t 1), none⟩,
  ⟨some 9, .load none (.t 8), none⟩,
  ⟨some 10, .bin .eql (.t 9) (.k (.d (.int .i64 0))), none⟩,
  ⟨some 11, .mov (.t 10), none⟩,
  ⟨some 12, .faddr 7 (.t 1), some (11, true)⟩,
  ⟨some 13, .load none (.t 12), some (11, true)⟩,
  ⟨some 14, .len (.t 13), some (11, true)⟩,
  ⟨some 15, .bin .eql (.t 14) (.k (.d (.int .i64 0))), some (11, true)⟩,
  ⟨some 16, .pick (.t 11) (.t 15) (.k (.d (.bool false))), none⟩,
  ⟨some 17, .mov (.t 16), none⟩,
  ⟨some 18, .faddr 8 (.t 1), some (17, true)⟩,
  ⟨some 19, .load none (.t 18), some (17, true)⟩,
  ⟨some 20, .len (.t 19), some (17, true)⟩,
  ⟨some 21, .bin .eql (.t 20) (.k (.d (.int .i64 0))), some (17, true)⟩,
  ⟨some 22, .pick (.t 17) (.t 21) (.k (.d (.bool false))), none⟩,
  ⟨some 3, .mov (.t 22), none⟩]
noncomputable def s75r4 : List SOper := [
  ⟨some 23, .faddr 0 (.t 1), none⟩,
  ⟨some 24, .load none (.t 23), none⟩]
noncomputable def s75r5 : List SOper := [
  ⟨some 26, .bin .eql (.t 24) (.k (.d (.int .i64 1))), none⟩,
  ⟨some 25, .mov (.t 26), none⟩]
noncomputable def s75r6 : List SOper := [
  ⟨some 27, .faddr 2 (.t 1), none⟩,
  ⟨some 28, .load none (.t 27), none⟩,
  ⟨some 29, .call (.k (.d (.func (.func 99) [] []))) [(.t 28), (.k (.d (.int .i64 0))), (.k (.d (.int .i64 1)))], none⟩,
  ⟨some 30, .mov (.t 29), none⟩,
  ⟨some 31, .load (some 9) (.t 1), some (30, true)⟩,
  ⟨some 32, .call (.k (.d (.func (.func 100) [] []))) [(.t 31)], some (30, true)⟩,
  ⟨some 33, .pick (.t 30) (.t 32) (.k (.d (.bool false))), none⟩,
  ⟨some 34, .mov (.t 33), none⟩,
  ⟨some 35, .faddr 5 (.t 1), some (34, true)⟩,
  ⟨some 36, .load none (.t 35), some (34, true)⟩,
  ⟨some 37, .call (.k (.d (.func (.func 99) [] []))) [(.t 36), (.k (.d (.int .i64 1))), (.k (.d (.int .i64 1099511627776)))], some (34, true)⟩,
  ⟨some 38, .pick (.t 34) (.t 37) (.k (.d (.bool false))), none⟩,
  ⟨some 39, .mov (.t 38), none⟩,
  ⟨some 40, .faddr 6 (.t 1), some (39, true)⟩,
  ⟨some 41, .load none (.t 40), some (39, true)⟩,
  ⟨some 42, .call (.k (.d (.func (.func 99) [] []))) [(.t 41), (.k (.d (.int .i64 0))), (.k (.d (.int .i64 39)))], some (39, true)⟩,
  ⟨some 43, .pick (.t 39) (.t 42) (.k (.d (.bool false))), none⟩,
  ⟨some 44, .mov (.t 43), none⟩,
  ⟨some 45, .load (some 9) (.t 1), some (44, true)⟩,
  ⟨some 46, .call (.k (.d (.func (.func 101) [] []))) [(.t 45)], some (44, true)⟩,
  ⟨some 47, .pick (.t 44) (.t 46) (.k (.d (.bool false))), none⟩,
  ⟨some 2, .mov (.t 47), none⟩]
noncomputable def s75r7 : List SOper := [
  ⟨some 49, .bin .eql (.t 24) (.k (.d (.int .i64 2))), none⟩,
  ⟨some 48, .mov (.t 49), none⟩]
noncomputable def s75r8 : List SOper := [
  ⟨some 50, .load (some 9) (.t 1), none⟩,
  ⟨some 51, .call (.k (.d (.func (.func 100) [] []))) [(.t 50)], none⟩,
  ⟨some 52, .mov (.t 51), none⟩,
  ⟨some 53, .faddr 5 (.t 1), some (52, true)⟩,
  ⟨some 54, .load none (.t 53), some (52, true)⟩,
  ⟨some 55, .call (.k (.d (.func (.func 99) [] []))) [(.t 54), (.k (.d (.int .i64 1))), (.k (.d (.int .i64 1099511627776)))], some (52, true)⟩,
  ⟨some 56, .pick (.t 52) (.t 55) (.k (.d (.bool false))), none⟩,
  ⟨some 57, .mov (.t 56), none⟩,
  ⟨some 58, .faddr 6 (.t 1), some (57, true)⟩,
  ⟨some 59, .load none (.t 58), some (57, true)⟩,
  ⟨some 60, .bin .eql (.t 59) (.k (.d (.int .i64 0))), some (57, true)⟩,
  ⟨some 61, .pick (.t 57) (.t 60) (.k (.d (.bool false))), none⟩,
  ⟨some 62, .mov (.t 61), none⟩,
  ⟨some 63, .mov (.t 3), some (62, true)⟩,
  ⟨some 64, .pick (.t 62) (.t 63) (.k (.d (.bool false))), none⟩,
  ⟨some 2, .mov (.t 64), none⟩]
noncomputable def s75r9 : List SOper := [
  ⟨some 66, .bin .eql (.t 24) (.k (.d (.int .i64 3))), none⟩,
  ⟨some 65, .mov (.t 66), none⟩]
noncomputable def s75r10 : List SOper := [
  ⟨some 67, .bin .eql (.t 24) (.k (.d (.int .i64 4))), none⟩,
  ⟨some 65, .mov (.t 67), none⟩]
noncomputable def s75r11 : List SOper := [
  ⟨some 68, .faddr 3 (.t 1), none⟩,
  ⟨some 69, .load none (.t 68), none⟩,
  ⟨some 70, .call (.k (.d (.func (.func 99) [] []))) [(.t 69), (.k (.d (.int .i64 0))), (.k (.d (.int .i64 5)))], none⟩,
  ⟨some 71, .mov (.t 70), none⟩,
  ⟨some 72, .faddr 4 (.t 1), some (71, true)⟩,
  ⟨some 73, .load none (.t 72), some (71, true)⟩,
  ⟨some 74, .bin .eql (.t 73) (.k (.d (.int .i64 0))), some (71, true)⟩,
  ⟨some 75, .pick (.t 71) (.t 74) (.k (.d (.bool false))), none⟩,
  ⟨some 76, .mov (.t 75), none⟩,
  ⟨some 77, .faddr 5 (.t 1), some (76, true)⟩,
  ⟨some 78, .load none (.t 77), some (76, true)⟩,
  ⟨some 79, .bin .eql (.t 78) (.k (.d (.int .i64 0))), some (76, true)⟩,
  ⟨some 80, .pick (.t 76) (.t 79) (.k (.d (.bool false))), none⟩,
  ⟨some 81, .mov (.t 80), none⟩,
  ⟨some 82, .faddr 6 (.t 1), some (81, true)⟩,
  ⟨some 83, .load none (.t 82), some (81, true)⟩,
  ⟨some 84, .call (.k (.d (.func (.func 99) [] []))) [(.t 83), (.k (.d (.int .i64 1))), (.k (.d (.int .i64 2)))], some (81, true)⟩,
  ⟨some 85, .pick (.t 81) (.t 84) (.k (.d (.bool false))), none⟩,
  ⟨some 86, .mov (.t 85), none⟩,
  ⟨some 87, .mov (.t 3), some (86, true)⟩,
  ⟨some 88, .pick (.t 86) (.t 87) (.k (.d (.bool false))), none⟩,
  ⟨some 2, .mov (.t 88), none⟩]
noncomputable def s75r12 : List SOper := [
  ⟨some 2, .mov (.k (.d (.bool false))), none⟩]
noncomputable def s75 : SCode := (.seq (.region s75r0 1 []) (.seq (.seq (.region s75r1 0 []) (.cond (.t 7) (.seq (.region s75r2 0 []) .ret) .skip)) (.seq (.region s75r3 0 []) (.seq (.seq (.region s75r4 0 []) (.block 0 (.seq (.region s75r5 0 []) (.cond (.t 25) (.seq (.region s75r6 0 []) .ret) (.seq (.region s75r7 0 []) (.cond (.t 48) (.seq (.region s75r8 0 []) .ret) (.seq (.seq (.region s75r9 0 []) (.cond (.t 65) .skip (.region s75r10 0 []))) (.cond (.t 65) (.seq (.region s75r11 0 []) .ret) .skip)))))))) (.seq (.region s75r12 0 []) .ret)))))
theorem e75 : AWp P k0 s75 Q st = AWp P k0 (.seq (.region s75r0 1 []) (.seq (.seq (.region s75r1 0 []) (.cond (.t 7) (.seq (.region s75r2 0 []) .ret) .skip)) (.seq (.region s75r3 0 []) (.seq (.seq (.region s75r4 0 []) (.block 0 (.seq (.region s75r5 0 []) (.cond (.t 25) (.seq (.region s75r6 0 []) .ret) (.seq (.region s75r7 0 []) (.cond (.t 48) (.seq (.region s75r8 0 []) .ret) (.seq (.seq (.region s75r9 0 []) (.cond (.t 65) .skip (.region s75r10 0 []))) (.cond (.t 65) (.seq (.region s75r11 0 []) .ret) .skip)))))))) (.seq (.region s75r12 0 []) .ret))))) Q st := rfl
theorem u75r0 : goReg P s75r0 o p Q st = goLit P (litOf s75r0.eq_1) o p Q st := goReg_of _
theorem u75r1 : goReg P s75r1 o p Q st = goLit P (litOf s75r1.eq_1) o p Q st := goReg_of _
theorem u75r2 : goReg P s75r2 o p Q st = goLit P (litOf s75r2.eq_1) o p Q st := goReg_of _
theorem u75r3 : goReg P s75r3 o p Q st = goLit P (litOf s75r3.eq_1) o p Q st := goReg_of _
theorem u75r4 : goReg P s75r4 o p Q st = goLit P (litOf s75r4.eq_1) o p Q st := goReg_of _
theorem u75r5 : goReg P s75r5 o p Q st = goLit P (litOf s75r5.eq_1) o p Q st := goReg_of _
theorem u75r6 : goReg P s75r6 o p Q st = goLit P (litOf s75r6.eq_1) o p Q st := goReg_of _
theorem u75r7 : goReg P s75r7 o p Q st = goLit P (litOf s75r7.eq_1) o p Q st := goReg_of _
theorem u75r8 : goReg P s75r8 o p Q st = goLit P (litOf s75r8.eq_1) o p Q st := goReg_of _
theorem u75r9 : goReg P s75r9 o p Q st = goLit P (litOf s75r9.eq_1) o p Q st := goReg_of _
theorem u75r10 : goReg P s75r10 o p Q st = goLit P (litOf s75r10.eq_1) o p Q st := goReg_of _
theorem u75r11 : goReg P s75r11 o p Q st = goLit P (litOf s75r11.eq_1) o p Q st := goReg_of _
theorem u75r12 : goReg P s75r12 o p Q st = goLit P (litOf s75r12.eq_1) o p Q st := goReg_of _
attribute [go_sem] u75r0 u75r1 u75r2 u75r3 u75r4 u75r5 u75r6 u75r7 u75r8 u75r9 u75r10 u75r11 u75r12 e75
set_option maxRecDepth 100000 in
theorem F75 : FnIs Try.prog 75 Try.f75 [] news s75 [.tmp 2] 89 := ⟨follows, Try.func75, by kernel_rfl, by kernel_rfl, by kernel_rfl, by kernel_rfl⟩

end

def in46 (n lo hi : Int) : Bool := decide (n ≥ lo) && decide (n ≤ hi)
theorem in46_ok (n lo hi : Int) : ACall Try.prog 99 [.d (.int .i64 n), .d (.int .i64 lo), .d (.int .i64 hi)] [] (.d (.bool (in46 n lo hi))) [] := by
  first | refine F99.go ?_ | refine F99.goT ?_
  simp only [go_sem, Nat.reduceAdd, Nat.reduceMul, Nat.reduceSub, Nat.reduceEqDiff, Nat.reduceLT, Nat.reduceLeDiff, Nat.reduceBEq, reduceIte, reduceCtorEq, Int.reduceAdd, Int.reduceLT, Int.reduceLE, Int.reduceGT, Int.reduceGE, Int.reduceEq, Int.reduceNe, Int.reduceBEq, Int.reduceBNe, Int.reduceToNat, Int.reduceNeg]
  rfl

def pair46 (p : Pk) : Bool := in46 p.from_ 0 5 && in46 p.to 0 5 && p.from_ != p.to
theorem pair46_ok (p : Pk) : ACall Try.prog 100 [.d (.agg (encPk p))] [] (.d (.bool (pair46 p))) [] := by
  first | refine F100.go ?_ | refine F100.goT ?_
  simp only [encPk, go_sem, Nat.reduceAdd, Nat.reduceMul, Nat.reduceSub, Nat.reduceEqDiff, Nat.reduceLT, Nat.reduceLeDiff, Nat.reduceBEq, reduceIte, reduceCtorEq, Int.reduceAdd, Int.reduceLT, Int.reduceLE, Int.reduceGT, Int.reduceGE, Int.reduceEq, Int.reduceNe, Int.reduceBEq, Int.reduceBNe, Int.reduceToNat, Int.reduceNeg]
  (repeat (with_reducible refine ob ?_)); first | refine cl F99 (in46_ok _ _ _) ?_ | refine clF F99 (in46_ok _ _ _) (fun _ => by simp only [encPk, encAV, encI, go_sem, Nat.reduceAdd, Nat.reduceMul, Nat.reduceSub, Nat.reduceEqDiff, Nat.reduceLT, Nat.reduceLeDiff, Nat.reduceBEq, reduceIte, reduceCtorEq, Int.reduceAdd, Int.reduceLT, Int.reduceLE, Int.reduceGT, Int.reduceGE, Int.reduceEq, Int.reduceNe, Int.reduceBEq, Int.reduceBNe, Int.reduceToNat, Int.reduceNeg]) ?_
  try (refine ev ?_; try exact True.intro)
  (repeat (with_reducible refine ob ?_)); first | refine cl F99 (in46_ok _ _ _) ?_ | refine clF F99 (in46_ok _ _ _) (fun _ => by simp only [encPk, encAV, encI, go_sem, Nat.reduceAdd, Nat.reduceMul, Nat.reduceSub, Nat.reduceEqDiff, Nat.reduceLT, Nat.reduceLeDiff, Nat.reduceBEq, reduceIte, reduceCtorEq, Int.reduceAdd, Int.reduceLT, Int.reduceLE, Int.reduceGT, Int.reduceGE, Int.reduceEq, Int.reduceNe, Int.reduceBEq, Int.reduceBNe, Int.reduceToNat, Int.reduceNeg]) ?_
  try (refine ev ?_; try exact True.intro)
  rfl

def proper46 (v : AV) : Bool := v.kind == 1 && v.s == [] || v.kind == 2 && v.n == 0
theorem proper46_ok (v : AV) : ACall Try.prog 119 [.d (.agg (encAV v))] [] (.d (.bool (proper46 v))) [] := by
  first | refine F119.go ?_ | refine F119.goT ?_
  simp only [encAV, go_sem, Nat.reduceAdd, Nat.reduceMul, Nat.reduceSub, Nat.reduceEqDiff, Nat.reduceLT, Nat.reduceLeDiff, Nat.reduceBEq, reduceIte, reduceCtorEq, Int.reduceAdd, Int.reduceLT, Int.reduceLE, Int.reduceGT, Int.reduceGE, Int.reduceEq, Int.reduceNe, Int.reduceBEq, Int.reduceBNe, Int.reduceToNat, Int.reduceNeg]
  (repeat (with_reducible refine ob ?_))
  rfl

def val46 (v : AV) : Bool := !(!proper46 v || decide ((v.s.length : Int) > 40))
def clk46 (n : Int) : Bool := in46 n 0 1099511627776
def content46 (p : Pk) : Bool := !(decide ((p.values.length : Int) > 4) || decide ((p.clock.length : Int) > 6)) && p.values.all val46 && p.clock.all clk46

def pkObj (p : Pk) : AObj := .row [.d (.int .i64 p.kind), .d (.int .i64 p.sess), .d (.int .i64 p.epoch), .d (.int .i64 p.from_), .d (.int .i64 p.to), .d (.int .i64 p.seq), .d (.int .i64 p.label), .d (.sl 3 (p.values.map encAV)), .d (.sl 1 (p.clock.map encI))]
def Scont1 (p : Pk) (i : { i : Nat // (p.values.take i).all val46 = true }) : St := ⟨[(1, true, .d (.ptr 0 0)), (3, true, .d (.int .i64 (i.val : Nat)))], [pkObj p], [], 1⟩
def Scont2 (p : Pk) (i : { i : Nat // (p.clock.take i).all clk46 = true }) : St := ⟨[(1, true, .d (.ptr 0 0)), (4, true, .d (.int .i64 (i.val : Nat)))], [pkObj p], [], 1⟩

theorem content46_ok (p : Pk) (hp : p.Sm) : ACall Try.prog 101 [.d (.agg (encPk p))] [] (.d (.bool (content46 p))) [] := by
  obtain ⟨hp1, hp2⟩ := hp
  first | refine F101.go ?_ | refine F101.goT ?_
  simp only [encPk, go_sem, Nat.reduceAdd, Nat.reduceMul, Nat.reduceSub, Nat.reduceEqDiff, Nat.reduceLT, Nat.reduceLeDiff, Nat.reduceBEq, reduceIte, reduceCtorEq, Int.reduceAdd, Int.reduceLT, Int.reduceLE, Int.reduceGT, Int.reduceGE, Int.reduceEq, Int.reduceNe, Int.reduceBEq, Int.reduceBNe, Int.reduceToNat, Int.reduceNeg]
  (repeat (with_reducible refine ob ?_))
  refine AWp_cond _ rfl rfl (fun h0 => ?_) (fun h0 => ?_)
  · simp only [content46, h0, go_sem, Nat.reduceAdd, Nat.reduceMul, Nat.reduceSub, Nat.reduceEqDiff, Nat.reduceLT, Nat.reduceLeDiff, Nat.reduceBEq, reduceIte, reduceCtorEq, Int.reduceAdd, Int.reduceLT, Int.reduceLE, Int.reduceGT, Int.reduceGE, Int.reduceEq, Int.reduceNe, Int.reduceBEq, Int.reduceBNe, Int.reduceToNat, Int.reduceNeg]
  try (refine ev ?_; try exact True.intro)
  refine AWp_loop (Scont1 p) (fun i => p.values.length - i.val) ⟨0, rfl⟩ ?_ (fun i => ?_)
  · try simp only [Scont1, pkObj, go_sem, Nat.reduceAdd, Nat.reduceMul, Nat.reduceSub, Nat.reduceEqDiff, Nat.reduceLT, Nat.reduceLeDiff, Nat.reduceBEq, reduceIte, reduceCtorEq, Int.reduceAdd, Int.reduceLT, Int.reduceLE, Int.reduceGT, Int.reduceGE, Int.reduceEq, Int.reduceNe, Int.reduceBEq, Int.reduceBNe, Int.reduceToNat, Int.reduceNeg]
  obtain ⟨i, hi⟩ := i
  try simp only [Scont1, pkObj, go_sem, Nat.reduceAdd, Nat.reduceMul, Nat.reduceSub, Nat.reduceEqDiff, Nat.reduceLT, Nat.reduceLeDiff, Nat.reduceBEq, reduceIte, reduceCtorEq, Int.reduceAdd, Int.reduceLT, Int.reduceLE, Int.reduceGT, Int.reduceGE, Int.reduceEq, Int.reduceNe, Int.reduceBEq, Int.reduceBNe, Int.reduceToNat, Int.reduceNeg]
  refine AWp_cond _ rfl rfl (fun h => ?_) (fun h => ?_)
  · have hil : i < p.values.length := by simpa using h
    simp only [getD_map encAV p.values hil, encAV, go_sem, Nat.reduceAdd, Nat.reduceMul, Nat.reduceSub, Nat.reduceEqDiff, Nat.reduceLT, Nat.reduceLeDiff, Nat.reduceBEq, reduceIte, reduceCtorEq, Int.reduceAdd, Int.reduceLT, Int.reduceLE, Int.reduceGT, Int.reduceGE, Int.reduceEq, Int.reduceNe, Int.reduceBEq, Int.reduceBNe, Int.reduceToNat, Int.reduceNeg]
    (repeat (with_reducible refine ob ?_))
    (repeat (with_reducible refine ob ?_)); first | refine cl F119 (proper46_ok p.values[i]) ?_ | refine clF F119 (proper46_ok p.values[i]) (fun _ => by simp only [encPk, encAV, encI, go_sem, Nat.reduceAdd, Nat.reduceMul, Nat.reduceSub, Nat.reduceEqDiff, Nat.reduceLT, Nat.reduceLeDiff, Nat.reduceBEq, reduceIte, reduceCtorEq, Int.reduceAdd, Int.reduceLT, Int.reduceLE, Int.reduceGT, Int.reduceGE, Int.reduceEq, Int.reduceNe, Int.reduceBEq, Int.reduceBNe, Int.reduceToNat, Int.reduceNeg]) ?_
    try simp only [getD_map encAV p.values hil, encAV, go_sem, Nat.reduceAdd, Nat.reduceMul, Nat.reduceSub, Nat.reduceEqDiff, Nat.reduceLT, Nat.reduceLeDiff, Nat.reduceBEq, reduceIte, reduceCtorEq, Int.reduceAdd, Int.reduceLT, Int.reduceLE, Int.reduceGT, Int.reduceGE, Int.reduceEq, Int.reduceNe, Int.reduceBEq, Int.reduceBNe, Int.reduceToNat, Int.reduceNeg]
    (repeat (with_reducible refine ob ?_))
    refine AWp_cond _ rfl rfl (fun h2 => ?_) (fun h2 => ?_)
    · have hg : val46 p.values[i] = false := by simp only [val46, h2]; rfl
      simp only [content46, all_no hil hg, go_sem, Nat.reduceAdd, Nat.reduceMul, Nat.reduceSub, Nat.reduceEqDiff, Nat.reduceLT, Nat.reduceLeDiff, Nat.reduceBEq, reduceIte, reduceCtorEq, Int.reduceAdd, Int.reduceLT, Int.reduceLE, Int.reduceGT, Int.reduceGE, Int.reduceEq, Int.reduceNe, Int.reduceBEq, Int.reduceBNe, Int.reduceToNat, Int.reduceNeg]
    · have hg : val46 p.values[i] = true := by simp only [val46, h2]; rfl
      try (refine ev ?_; try exact True.intro)
      refine ⟨⟨i + 1, take_all_succ hi hil hg⟩, ?_, by dsimp only; omega⟩
      simp only [Scont1, pkObj, wrap_succ (show i < 9223372036854775807 by omega), go_sem, Nat.reduceAdd, Nat.reduceMul, Nat.reduceSub, Nat.reduceEqDiff, Nat.reduceLT, Nat.reduceLeDiff, Nat.reduceBEq, reduceIte, reduceCtorEq, Int.reduceAdd, Int.reduceLT, Int.reduceLE, Int.reduceGT, Int.reduceGE, Int.reduceEq, Int.reduceNe, Int.reduceBEq, Int.reduceBNe, Int.reduceToNat, Int.reduceNeg]
  · have hall : p.values.all val46 = true := all_done hi (by simpa using h)
    try (refine ev ?_; try exact True.intro)
    refine AWp_loop (Scont2 p) (fun i => p.clock.length - i.val) ⟨0, rfl⟩ ?_ (fun i => ?_)
    · try simp only [Scont2, pkObj, go_sem, Nat.reduceAdd, Nat.reduceMul, Nat.reduceSub, Nat.reduceEqDiff, Nat.reduceLT, Nat.reduceLeDiff, Nat.reduceBEq, reduceIte, reduceCtorEq, Int.reduceAdd, Int.reduceLT, Int.reduceLE, Int.reduceGT, Int.reduceGE, Int.reduceEq, Int.reduceNe, Int.reduceBEq, Int.reduceBNe, Int.reduceToNat, Int.reduceNeg]
    obtain ⟨i, hi⟩ := i
    try simp only [Scont2, pkObj, go_sem, Nat.reduceAdd, Nat.reduceMul, Nat.reduceSub, Nat.reduceEqDiff, Nat.reduceLT, Nat.reduceLeDiff, Nat.reduceBEq, reduceIte, reduceCtorEq, Int.reduceAdd, Int.reduceLT, Int.reduceLE, Int.reduceGT, Int.reduceGE, Int.reduceEq, Int.reduceNe, Int.reduceBEq, Int.reduceBNe, Int.reduceToNat, Int.reduceNeg]
    refine AWp_cond _ rfl rfl (fun h => ?_) (fun h => ?_)
    · have hil : i < p.clock.length := by simpa using h
      simp only [getD_map encI p.clock hil, encI, go_sem, Nat.reduceAdd, Nat.reduceMul, Nat.reduceSub, Nat.reduceEqDiff, Nat.reduceLT, Nat.reduceLeDiff, Nat.reduceBEq, reduceIte, reduceCtorEq, Int.reduceAdd, Int.reduceLT, Int.reduceLE, Int.reduceGT, Int.reduceGE, Int.reduceEq, Int.reduceNe, Int.reduceBEq, Int.reduceBNe, Int.reduceToNat, Int.reduceNeg]
      (repeat (with_reducible refine ob ?_))
      (repeat (with_reducible refine ob ?_)); first | refine cl F99 (in46_ok p.clock[i] _ _) ?_ | refine clF F99 (in46_ok p.clock[i] _ _) (fun _ => by simp only [encPk, encAV, encI, go_sem, Nat.reduceAdd, Nat.reduceMul, Nat.reduceSub, Nat.reduceEqDiff, Nat.reduceLT, Nat.reduceLeDiff, Nat.reduceBEq, reduceIte, reduceCtorEq, Int.reduceAdd, Int.reduceLT, Int.reduceLE, Int.reduceGT, Int.reduceGE, Int.reduceEq, Int.reduceNe, Int.reduceBEq, Int.reduceBNe, Int.reduceToNat, Int.reduceNeg]) ?_
      try (refine ev ?_; try exact True.intro)
      refine AWp_cond _ rfl rfl (fun h2 => ?_) (fun h2 => ?_)
      · have hg : clk46 p.clock[i] = false := by simpa [clk46] using h2
        simp only [content46, all_no hil hg, go_sem, Nat.reduceAdd, Nat.reduceMul, Nat.reduceSub, Nat.reduceEqDiff, Nat.reduceLT, Nat.reduceLeDiff, Nat.reduceBEq, reduceIte, reduceCtorEq, Int.reduceAdd, Int.reduceLT, Int.reduceLE, Int.reduceGT, Int.reduceGE, Int.reduceEq, Int.reduceNe, Int.reduceBEq, Int.reduceBNe, Int.reduceToNat, Int.reduceNeg]
      · have hg : clk46 p.clock[i] = true := by simpa [clk46] using h2
        try (refine ev ?_; try exact True.intro)
        refine ⟨⟨i + 1, take_all_succ hi hil hg⟩, ?_, by dsimp only; omega⟩
        simp only [Scont2, pkObj, wrap_succ (show i < 9223372036854775807 by omega), go_sem, Nat.reduceAdd, Nat.reduceMul, Nat.reduceSub, Nat.reduceEqDiff, Nat.reduceLT, Nat.reduceLeDiff, Nat.reduceBEq, reduceIte, reduceCtorEq, Int.reduceAdd, Int.reduceLT, Int.reduceLE, Int.reduceGT, Int.reduceGE, Int.reduceEq, Int.reduceNe, Int.reduceBEq, Int.reduceBNe, Int.reduceToNat, Int.reduceNeg]
    · have hall2 := all_done hi (by simpa using h)
      simp only [content46, h0, hall, hall2, go_sem, Nat.reduceAdd, Nat.reduceMul, Nat.reduceSub, Nat.reduceEqDiff, Nat.reduceLT, Nat.reduceLeDiff, Nat.reduceBEq, reduceIte, reduceCtorEq, Int.reduceAdd, Int.reduceLT, Int.reduceLE, Int.reduceGT, Int.reduceGE, Int.reduceEq, Int.reduceNe, Int.reduceBEq, Int.reduceBNe, Int.reduceToNat, Int.reduceNeg]

def empty46 (p : Pk) : Bool := p.epoch == 0 && (p.values.length : Int) == 0 && (p.clock.length : Int) == 0
def valid46 (p : Pk) : Bool :=
  if !in46 p.sess 1 32 then false
  else if p.kind == 1 then in46 p.epoch 0 1 && pair46 p && in46 p.seq 1 1099511627776 && in46 p.label 0 39 && content46 p
  else if p.kind == 2 then pair46 p && in46 p.seq 1 1099511627776 && p.label == 0 && empty46 p
  else if p.kind == 3 || p.kind == 4 then in46 p.from_ 0 5 && p.to == 0 && p.seq == 0 && in46 p.label 1 2 && empty46 p
  else false

set_option maxRecDepth 10000 in
theorem valid46_ok (p : Pk) (hp : p.Sm) : ACall Try.prog 75 [.d (.agg (encPk p))] [] (.d (.bool (valid46 p))) [] := by
  first | refine F75.go ?_ | refine F75.goT ?_
  simp only [encPk, go_sem, Nat.reduceAdd, Nat.reduceMul, Nat.reduceSub, Nat.reduceEqDiff, Nat.reduceLT, Nat.reduceLeDiff, Nat.reduceBEq, reduceIte, reduceCtorEq, Int.reduceAdd, Int.reduceLT, Int.reduceLE, Int.reduceGT, Int.reduceGE, Int.reduceEq, Int.reduceNe, Int.reduceBEq, Int.reduceBNe, Int.reduceToNat, Int.reduceNeg]
  (repeat (with_reducible refine ob ?_)); first | refine cl F99 (in46_ok _ _ _) ?_ | refine clF F99 (in46_ok _ _ _) (fun _ => by simp only [encPk, encAV, encI, go_sem, Nat.reduceAdd, Nat.reduceMul, Nat.reduceSub, Nat.reduceEqDiff, Nat.reduceLT, Nat.reduceLeDiff, Nat.reduceBEq, reduceIte, reduceCtorEq, Int.reduceAdd, Int.reduceLT, Int.reduceLE, Int.reduceGT, Int.reduceGE, Int.reduceEq, Int.reduceNe, Int.reduceBEq, Int.reduceBNe, Int.reduceToNat, Int.reduceNeg]) ?_
  try (refine ev ?_; try exact True.intro)
  have he : (p.epoch == 0 && (p.values.length : Int) == 0 && (p.clock.length : Int) == 0) = empty46 p := rfl
  refine AWp_cond _ rfl rfl (fun h0 => ?_) (fun h0 => ?_)
  · simp only [valid46, h0, go_sem, Nat.reduceAdd, Nat.reduceMul, Nat.reduceSub, Nat.reduceEqDiff, Nat.reduceLT, Nat.reduceLeDiff, Nat.reduceBEq, reduceIte, reduceCtorEq, Int.reduceAdd, Int.reduceLT, Int.reduceLE, Int.reduceGT, Int.reduceGE, Int.reduceEq, Int.reduceNe, Int.reduceBEq, Int.reduceBNe, Int.reduceToNat, Int.reduceNeg]
  try simp only [he, go_sem, Nat.reduceAdd, Nat.reduceMul, Nat.reduceSub, Nat.reduceEqDiff, Nat.reduceLT, Nat.reduceLeDiff, Nat.reduceBEq, reduceIte, reduceCtorEq, Int.reduceAdd, Int.reduceLT, Int.reduceLE, Int.reduceGT, Int.reduceGE, Int.reduceEq, Int.reduceNe, Int.reduceBEq, Int.reduceBNe, Int.reduceToNat, Int.reduceNeg]
  refine AWp_cond _ rfl rfl (fun h1 => ?_) (fun h1 => ?_)
  · try (refine ev ?_; try exact True.intro)
    (repeat (with_reducible refine ob ?_)); first | refine cl F99 (in46_ok _ _ _) ?_ | refine clF F99 (in46_ok _ _ _) (fun _ => by simp only [encPk, encAV, encI, go_sem, Nat.reduceAdd, Nat.reduceMul, Nat.reduceSub, Nat.reduceEqDiff, Nat.reduceLT, Nat.reduceLeDiff, Nat.reduceBEq, reduceIte, reduceCtorEq, Int.reduceAdd, Int.reduceLT, Int.reduceLE, Int.reduceGT, Int.reduceGE, Int.reduceEq, Int.reduceNe, Int.reduceBEq, Int.reduceBNe, Int.reduceToNat, Int.reduceNeg]) ?_
    try (refine ev ?_; try exact True.intro)
    (repeat (with_reducible refine ob ?_)); first | refine cl F100 (pair46_ok p) ?_ | refine clF F100 (pair46_ok p) (fun _ => by simp only [encPk, encAV, encI, go_sem, Nat.reduceAdd, Nat.reduceMul, Nat.reduceSub, Nat.reduceEqDiff, Nat.reduceLT, Nat.reduceLeDiff, Nat.reduceBEq, reduceIte, reduceCtorEq, Int.reduceAdd, Int.reduceLT, Int.reduceLE, Int.reduceGT, Int.reduceGE, Int.reduceEq, Int.reduceNe, Int.reduceBEq, Int.reduceBNe, Int.reduceToNat, Int.reduceNeg]) ?_
    try (refine ev ?_; try exact True.intro)
    (repeat (with_reducible refine ob ?_)); first | refine cl F99 (in46_ok _ _ _) ?_ | refine clF F99 (in46_ok _ _ _) (fun _ => by simp only [encPk, encAV, encI, go_sem, Nat.reduceAdd, Nat.reduceMul, Nat.reduceSub, Nat.reduceEqDiff, Nat.reduceLT, Nat.reduceLeDiff, Nat.reduceBEq, reduceIte, reduceCtorEq, Int.reduceAdd, Int.reduceLT, Int.reduceLE, Int.reduceGT, Int.reduceGE, Int.reduceEq, Int.reduceNe, Int.reduceBEq, Int.reduceBNe, Int.reduceToNat, Int.reduceNeg]) ?_
    try (refine ev ?_; try exact True.intro)
    (repeat (with_reducible refine ob ?_)); first | refine cl F99 (in46_ok _ _ _) ?_ | refine clF F99 (in46_ok _ _ _) (fun _ => by simp only [encPk, encAV, encI, go_sem, Nat.reduceAdd, Nat.reduceMul, Nat.reduceSub, Nat.reduceEqDiff, Nat.reduceLT, Nat.reduceLeDiff, Nat.reduceBEq, reduceIte, reduceCtorEq, Int.reduceAdd, Int.reduceLT, Int.reduceLE, Int.reduceGT, Int.reduceGE, Int.reduceEq, Int.reduceNe, Int.reduceBEq, Int.reduceBNe, Int.reduceToNat, Int.reduceNeg]) ?_
    try (refine ev ?_; try exact True.intro)
    (repeat (with_reducible refine ob ?_)); first | refine cl F101 (content46_ok p hp) ?_ | refine clF F101 (content46_ok p hp) (fun _ => by simp only [encPk, encAV, encI, go_sem, Nat.reduceAdd, Nat.reduceMul, Nat.reduceSub, Nat.reduceEqDiff, Nat.reduceLT, Nat.reduceLeDiff, Nat.reduceBEq, reduceIte, reduceCtorEq, Int.reduceAdd, Int.reduceLT, Int.reduceLE, Int.reduceGT, Int.reduceGE, Int.reduceEq, Int.reduceNe, Int.reduceBEq, Int.reduceBNe, Int.reduceToNat, Int.reduceNeg]) ?_
    simp only [valid46, h0, h1, go_sem, Nat.reduceAdd, Nat.reduceMul, Nat.reduceSub, Nat.reduceEqDiff, Nat.reduceLT, Nat.reduceLeDiff, Nat.reduceBEq, reduceIte, reduceCtorEq, Int.reduceAdd, Int.reduceLT, Int.reduceLE, Int.reduceGT, Int.reduceGE, Int.reduceEq, Int.reduceNe, Int.reduceBEq, Int.reduceBNe, Int.reduceToNat, Int.reduceNeg]
  try (refine ev ?_; try exact True.intro)
  refine AWp_cond _ rfl rfl (fun h2 => ?_) (fun h2 => ?_)
  · try (refine ev ?_; try exact True.intro)
    (repeat (with_reducible refine ob ?_)); first | refine cl F100 (pair46_ok p) ?_ | refine clF F100 (pair46_ok p) (fun _ => by simp only [encPk, encAV, encI, go_sem, Nat.reduceAdd, Nat.reduceMul, Nat.reduceSub, Nat.reduceEqDiff, Nat.reduceLT, Nat.reduceLeDiff, Nat.reduceBEq, reduceIte, reduceCtorEq, Int.reduceAdd, Int.reduceLT, Int.reduceLE, Int.reduceGT, Int.reduceGE, Int.reduceEq, Int.reduceNe, Int.reduceBEq, Int.reduceBNe, Int.reduceToNat, Int.reduceNeg]) ?_
    try (refine ev ?_; try exact True.intro)
    (repeat (with_reducible refine ob ?_)); first | refine cl F99 (in46_ok _ _ _) ?_ | refine clF F99 (in46_ok _ _ _) (fun _ => by simp only [encPk, encAV, encI, go_sem, Nat.reduceAdd, Nat.reduceMul, Nat.reduceSub, Nat.reduceEqDiff, Nat.reduceLT, Nat.reduceLeDiff, Nat.reduceBEq, reduceIte, reduceCtorEq, Int.reduceAdd, Int.reduceLT, Int.reduceLE, Int.reduceGT, Int.reduceGE, Int.reduceEq, Int.reduceNe, Int.reduceBEq, Int.reduceBNe, Int.reduceToNat, Int.reduceNeg]) ?_
    simp only [valid46, h0, h1, h2, go_sem, Nat.reduceAdd, Nat.reduceMul, Nat.reduceSub, Nat.reduceEqDiff, Nat.reduceLT, Nat.reduceLeDiff, Nat.reduceBEq, reduceIte, reduceCtorEq, Int.reduceAdd, Int.reduceLT, Int.reduceLE, Int.reduceGT, Int.reduceGE, Int.reduceEq, Int.reduceNe, Int.reduceBEq, Int.reduceBNe, Int.reduceToNat, Int.reduceNeg]
  try (refine ev ?_; try exact True.intro)
  refine AWp_cond _ rfl rfl (fun h3 => ?_) (fun h3 => ?_)
  · try (refine ev ?_; try exact True.intro)
    refine AWp_cond _ rfl rfl (fun _ => ?_) (fun hx => Bool.noConfusion (h3.symm.trans hx))
    try (refine ev ?_; try exact True.intro)
    (repeat (with_reducible refine ob ?_)); first | refine cl F99 (in46_ok _ _ _) ?_ | refine clF F99 (in46_ok _ _ _) (fun _ => by simp only [encPk, encAV, encI, go_sem, Nat.reduceAdd, Nat.reduceMul, Nat.reduceSub, Nat.reduceEqDiff, Nat.reduceLT, Nat.reduceLeDiff, Nat.reduceBEq, reduceIte, reduceCtorEq, Int.reduceAdd, Int.reduceLT, Int.reduceLE, Int.reduceGT, Int.reduceGE, Int.reduceEq, Int.reduceNe, Int.reduceBEq, Int.reduceBNe, Int.reduceToNat, Int.reduceNeg]) ?_
    try (refine ev ?_; try exact True.intro)
    (repeat (with_reducible refine ob ?_)); first | refine cl F99 (in46_ok _ _ _) ?_ | refine clF F99 (in46_ok _ _ _) (fun _ => by simp only [encPk, encAV, encI, go_sem, Nat.reduceAdd, Nat.reduceMul, Nat.reduceSub, Nat.reduceEqDiff, Nat.reduceLT, Nat.reduceLeDiff, Nat.reduceBEq, reduceIte, reduceCtorEq, Int.reduceAdd, Int.reduceLT, Int.reduceLE, Int.reduceGT, Int.reduceGE, Int.reduceEq, Int.reduceNe, Int.reduceBEq, Int.reduceBNe, Int.reduceToNat, Int.reduceNeg]) ?_
    simp only [valid46, h0, h1, h2, h3, go_sem, Nat.reduceAdd, Nat.reduceMul, Nat.reduceSub, Nat.reduceEqDiff, Nat.reduceLT, Nat.reduceLeDiff, Nat.reduceBEq, reduceIte, reduceCtorEq, Int.reduceAdd, Int.reduceLT, Int.reduceLE, Int.reduceGT, Int.reduceGE, Int.reduceEq, Int.reduceNe, Int.reduceBEq, Int.reduceBNe, Int.reduceToNat, Int.reduceNeg]
  try (refine ev ?_; try exact True.intro)
  refine AWp_cond _ rfl rfl (fun h4 => ?_) (fun h4 => ?_)
  · try (refine ev ?_; try exact True.intro)
    (repeat (with_reducible refine ob ?_)); first | refine cl F99 (in46_ok _ _ _) ?_ | refine clF F99 (in46_ok _ _ _) (fun _ => by simp only [encPk, encAV, encI, go_sem, Nat.reduceAdd, Nat.reduceMul, Nat.reduceSub, Nat.reduceEqDiff, Nat.reduceLT, Nat.reduceLeDiff, Nat.reduceBEq, reduceIte, reduceCtorEq, Int.reduceAdd, Int.reduceLT, Int.reduceLE, Int.reduceGT, Int.reduceGE, Int.reduceEq, Int.reduceNe, Int.reduceBEq, Int.reduceBNe, Int.reduceToNat, Int.reduceNeg]) ?_
    try (refine ev ?_; try exact True.intro)
    (repeat (with_reducible refine ob ?_)); first | refine cl F99 (in46_ok _ _ _) ?_ | refine clF F99 (in46_ok _ _ _) (fun _ => by simp only [encPk, encAV, encI, go_sem, Nat.reduceAdd, Nat.reduceMul, Nat.reduceSub, Nat.reduceEqDiff, Nat.reduceLT, Nat.reduceLeDiff, Nat.reduceBEq, reduceIte, reduceCtorEq, Int.reduceAdd, Int.reduceLT, Int.reduceLE, Int.reduceGT, Int.reduceGE, Int.reduceEq, Int.reduceNe, Int.reduceBEq, Int.reduceBNe, Int.reduceToNat, Int.reduceNeg]) ?_
    simp only [valid46, h0, h1, h2, h3, h4, go_sem, Nat.reduceAdd, Nat.reduceMul, Nat.reduceSub, Nat.reduceEqDiff, Nat.reduceLT, Nat.reduceLeDiff, Nat.reduceBEq, reduceIte, reduceCtorEq, Int.reduceAdd, Int.reduceLT, Int.reduceLE, Int.reduceGT, Int.reduceGE, Int.reduceEq, Int.reduceNe, Int.reduceBEq, Int.reduceBNe, Int.reduceToNat, Int.reduceNeg]
  · simp only [valid46, h0, h1, h2, h3, h4, go_sem, Nat.reduceAdd, Nat.reduceMul, Nat.reduceSub, Nat.reduceEqDiff, Nat.reduceLT, Nat.reduceLeDiff, Nat.reduceBEq, reduceIte, reduceCtorEq, Int.reduceAdd, Int.reduceLT, Int.reduceLE, Int.reduceGT, Int.reduceGE, Int.reduceEq, Int.reduceNe, Int.reduceBEq, Int.reduceBNe, Int.reduceToNat, Int.reduceNeg]
end Go.Proofs.Ythcpckcgjplhiaa

/- The reference's comparisons. -/
namespace Go.Proofs.Ythcpckcgjplhiaa
open Go.Abs
set_option linter.unusedSimpArgs false

section
variable {P : Program} {k0 o : Nat} {p : List (Nat × Nat)} {Q : SExit → St → Prop} {st : St}
noncomputable def s78r0 : List SOper := [
  ⟨some 4, .mov (.k (.d (.bool false))), none⟩]
noncomputable def s78r1 : List SOper := [
  ⟨some 6, .mov (.t 0), none⟩,
  ⟨some 7, .len (.t 6), none⟩,
  ⟨some 8, .mov (.t 1), none⟩,
  ⟨some 9, .len (.t 8), none⟩,
  ⟨some 10, .bin .neq (.t 7) (.t 9), none⟩]
noncomputable def s78r2 : List SOper := [
  ⟨some 4, .mov (.k (.d (.bool false))), none⟩]
noncomputable def s78r3 : List SOper := [
  ⟨some 5, .mov (.k (.d (.int .i64 0))), none⟩]
noncomputable def s78r4 : List SOper := [
  ⟨some 11, .mov (.t 5), none⟩,
  ⟨some 12, .mov (.t 0), none⟩,
  ⟨some 13, .len (.t 12), none⟩,
  ⟨some 14, .bin .lss (.t 11) (.t 13), none⟩]
noncomputable def s78r5 : List SOper := [
  ⟨some 17, .mov (.t 0), none⟩,
  ⟨some 18, .mov (.t 5), none⟩,
  ⟨some 19, .iaddr 3 (.t 17) (.t 18), none⟩,
  ⟨some 20, .load (some 3) (.t 19), none⟩,
  ⟨some 21, .mov (.t 1), none⟩,
  ⟨some 22, .mov (.t 5), none⟩,
  ⟨some 23, .iaddr 3 (.t 21) (.t 22), none⟩,
  ⟨some 24, .load (some 3) (.t 23), none⟩,
  ⟨some 25, .eqAgg true [.int, .int, .str] (.t 20) (.t 24), none⟩]
noncomputable def s78r6 : List SOper := [
  ⟨some 4, .mov (.k (.d (.bool false))), none⟩]
noncomputable def s78r7 : List SOper := [
  ⟨some 15, .mov (.t 5), none⟩,
  ⟨some 16, .bin .add (.t 15) (.k (.d (.int .i64 1))), none⟩,
  ⟨some 5, .mov (.t 16), none⟩]
noncomputable def s78l8 : SCode := (.seq (.seq (.region s78r4 0 []) (.cond (.t 14) .skip (.exit 0))) (.seq (.block 1 (.seq (.region s78r5 0 []) (.cond (.t 25) (.seq (.region s78r6 0 []) .ret) .skip))) (.region s78r7 0 [])))
theorem e78l8 : AWp P k0 s78l8 Q st = AWp P k0 (.seq (.seq (.region s78r4 0 []) (.cond (.t 14) .skip (.exit 0))) (.seq (.block 1 (.seq (.region s78r5 0 []) (.cond (.t 25) (.seq (.region s78r6 0 []) .ret) .skip))) (.region s78r7 0 []))) Q st := rfl
noncomputable def s78r9 : List SOper := [
  ⟨some 4, .mov (.k (.d (.bool true))), none⟩]
noncomputable def s78 : SCode := (.seq (.region s78r0 0 []) (.seq (.seq (.region s78r1 0 []) (.cond (.t 10) (.seq (.region s78r2 0 []) .ret) .skip)) (.seq (.seq (.region s78r3 0 []) (.block 0 (.loop s78l8))) (.seq (.region s78r9 0 []) .ret))))
theorem e78 : AWp P k0 s78 Q st = AWp P k0 (.seq (.region s78r0 0 []) (.seq (.seq (.region s78r1 0 []) (.cond (.t 10) (.seq (.region s78r2 0 []) .ret) .skip)) (.seq (.seq (.region s78r3 0 []) (.block 0 (.loop s78l8))) (.seq (.region s78r9 0 []) .ret)))) Q st := rfl
theorem u78r0 : goReg P s78r0 o p Q st = goLit P (litOf s78r0.eq_1) o p Q st := goReg_of _
theorem u78r1 : goReg P s78r1 o p Q st = goLit P (litOf s78r1.eq_1) o p Q st := goReg_of _
theorem u78r2 : goReg P s78r2 o p Q st = goLit P (litOf s78r2.eq_1) o p Q st := goReg_of _
theorem u78r3 : goReg P s78r3 o p Q st = goLit P (litOf s78r3.eq_1) o p Q st := goReg_of _
theorem u78r4 : goReg P s78r4 o p Q st = goLit P (litOf s78r4.eq_1) o p Q st := goReg_of _
theorem u78r5 : goReg P s78r5 o p Q st = goLit P (litOf s78r5.eq_1) o p Q st := goReg_of _
theorem u78r6 : goReg P s78r6 o p Q st = goLit P (litOf s78r6.eq_1) o p Q st := goReg_of _
theorem u78r7 : goReg P s78r7 o p Q st = goLit P (litOf s78r7.eq_1) o p Q st := goReg_of _
theorem u78r9 : goReg P s78r9 o p Q st = goLit P (litOf s78r9.eq_1) o p Q st := goReg_of _
attribute [go_sem] u78r0 u78r1 u78r2 u78r3 u78r4 u78r5 u78r6 u78r7 e78l8 u78r9 e78
set_option maxRecDepth 100000 in
theorem F78 : FnIs Try.prog 78 Try.f78 [] news s78 [.tmp 4] 26 := ⟨follows, Try.func78, by kernel_rfl, by kernel_rfl, by kernel_rfl, by kernel_rfl⟩

noncomputable def s79r0 : List SOper := [
  ⟨some 4, .mov (.k (.d (.bool false))), none⟩]
noncomputable def s79r1 : List SOper := [
  ⟨some 6, .mov (.t 0), none⟩,
  ⟨some 7, .len (.t 6), none⟩,
  ⟨some 8, .mov (.t 1), none⟩,
  ⟨some 9, .len (.t 8), none⟩,
  ⟨some 10, .bin .neq (.t 7) (.t 9), none⟩]
noncomputable def s79r2 : List SOper := [
  ⟨some 4, .mov (.k (.d (.bool false))), none⟩]
noncomputable def s79r3 : List SOper := [
  ⟨some 5, .mov (.k (.d (.int .i64 0))), none⟩]
noncomputable def s79r4 : List SOper := [
  ⟨some 11, .mov (.t 5), none⟩,
  ⟨some 12, .mov (.t 0), none⟩,
  ⟨some 13, .len (.t 12), none⟩,
  ⟨some 14, .bin .lss (.t 11) (.t 13), none⟩]
noncomputable def s79r5 : List SOper := [
  ⟨some 17, .mov (.t 0), none⟩,
  ⟨some 18, .mov (.t 5), none⟩,
  ⟨some 19, .iaddr 1 (.t 17) (.t 18), none⟩,
  ⟨some 20, .load none (.t 19), none⟩,
  ⟨some 21, .mov (.t 1), none⟩,
  ⟨some 22, .mov (.t 5), none⟩,
  ⟨some 23, .iaddr 1 (.t 21) (.t 22), none⟩,
  ⟨some 24, .load none (.t 23), none⟩,
  ⟨some 25, .bin .neq (.t 20) (.t 24), none⟩]
noncomputable def s79r6 : List SOper := [
  ⟨some 4, .mov (.k (.d (.bool false))), none⟩]
noncomputable def s79r7 : List SOper := [
  ⟨some 15, .mov (.t 5), none⟩,
  ⟨some 16, .bin .add (.t 15) (.k (.d (.int .i64 1))), none⟩,
  ⟨some 5, .mov (.t 16), none⟩]
noncomputable def s79l8 : SCode := (.seq (.seq (.region s79r4 0 []) (.cond (.t 14) .skip (.exit 0))) (.seq (.block 1 (.seq (.region s79r5 0 []) (.cond (.t 25) (.seq (.region s79r6 0 []) .ret) .skip))) (.region s79r7 0 [])))
theorem e79l8 : AWp P k0 s79l8 Q st = AWp P k0 (.seq (.seq (.region s79r4 0 []) (.cond (.t 14) .skip (.exit 0))) (.seq (.block 1 (.seq (.region s79r5 0 []) (.cond (.t 25) (.seq (.region s79r6 0 []) .ret) .skip))) (.region s79r7 0 []))) Q st := rfl
noncomputable def s79r9 : List SOper := [
  ⟨some 4, .mov (.k (.d (.bool true))), none⟩]
noncomputable def s79 : SCode := (.seq (.region s79r0 0 []) (.seq (.seq (.region s79r1 0 []) (.cond (.t 10) (.seq (.region s79r2 0 []) .ret) .skip)) (.seq (.seq (.region s79r3 0 []) (.block 0 (.loop s79l8))) (.seq (.region s79r9 0 []) .ret))))
theorem e79 : AWp P k0 s79 Q st = AWp P k0 (.seq (.region s79r0 0 []) (.seq (.seq (.region s79r1 0 []) (.cond (.t 10) (.seq (.region s79r2 0 []) .ret) .skip)) (.seq (.seq (.region s79r3 0 []) (.block 0 (.loop s79l8))) (.seq (.region s79r9 0 []) .ret)))) Q st := rfl
theorem u79r0 : goReg P s79r0 o p Q st = goLit P (litOf s79r0.eq_1) o p Q st := goReg_of _
theorem u79r1 : goReg P s79r1 o p Q st = goLit P (litOf s79r1.eq_1) o p Q st := goReg_of _
theorem u79r2 : goReg P s79r2 o p Q st = goLit P (litOf s79r2.eq_1) o p Q st := goReg_of _
theorem u79r3 : goReg P s79r3 o p Q st = goLit P (litOf s79r3.eq_1) o p Q st := goReg_of _
theorem u79r4 : goReg P s79r4 o p Q st = goLit P (litOf s79r4.eq_1) o p Q st := goReg_of _
theorem u79r5 : goReg P s79r5 o p Q st = goLit P (litOf s79r5.eq_1) o p Q st := goReg_of _
theorem u79r6 : goReg P s79r6 o p Q st = goLit P (litOf s79r6.eq_1) o p Q st := goReg_of _
theorem u79r7 : goReg P s79r7 o p Q st = goLit P (litOf s79r7.eq_1) o p Q st := goReg_of _
theorem u79r9 : goReg P s79r9 o p Q st = goLit P (litOf s79r9.eq_1) o p Q st := goReg_of _
attribute [go_sem] u79r0 u79r1 u79r2 u79r3 u79r4 u79r5 u79r6 u79r7 e79l8 u79r9 e79
set_option maxRecDepth 100000 in
theorem F79 : FnIs Try.prog 79 Try.f79 [] news s79 [.tmp 4] 26 := ⟨follows, Try.func79, by kernel_rfl, by kernel_rfl, by kernel_rfl, by kernel_rfl⟩

noncomputable def s46r0 : List SOper := [
  ⟨some 2, .box 2 (.t 0), none⟩,
  ⟨some 3, .box 1 (.t 1), none⟩,
  ⟨some 4, .mov (.k (.d (.bool false))), none⟩]
noncomputable def s46r1 : List SOper := [
  ⟨some 5, .faddr 0 (.t 2), none⟩,
  ⟨some 6, .load none (.t 5), none⟩,
  ⟨some 7, .faddr 0 (.t 3), none⟩,
  ⟨some 8, .load none (.t 7), none⟩,
  ⟨some 9, .bin .eql (.t 6) (.t 8), none⟩,
  ⟨some 10, .mov (.t 9), none⟩,
  ⟨some 11, .faddr 1 (.t 2), some (10, true)⟩,
  ⟨some 12, .load none (.t 11), some (10, true)⟩,
  ⟨some 13, .faddr 1 (.t 3), some (10, true)⟩,
  ⟨some 14, .load none (.t 13), some (10, true)⟩,
  ⟨some 15, .bin .eql (.t 12) (.t 14), some (10, true)⟩,
  ⟨some 16, .pick (.t 10) (.t 15) (.k (.d (.bool false))), none⟩,
  ⟨some 17, .mov (.t 16), none⟩,
  ⟨some 18, .faddr 2 (.t 2), some (17, true)⟩,
  ⟨some 19, .load none (.t 18), some (17, true)⟩,
  ⟨some 20, .faddr 2 (.t 3), some (17, true)⟩,
  ⟨some 21, .load none (.t 20), some (17, true)⟩,
  ⟨some 22, .bin .eql (.t 19) (.t 21), some (17, true)⟩,
  ⟨some 23, .pick (.t 17) (.t 22) (.k (.d (.bool false))), none⟩,
  ⟨some 24, .mov (.t 23), none⟩,
  ⟨some 25, .faddr 3 (.t 2), some (24, true)⟩,
  ⟨some 26, .load none (.t 25), some (24, true)⟩,
  ⟨some 27, .faddr 3 (.t 3), some (24, true)⟩,
  ⟨some 28, .load none (.t 27), some (24, true)⟩,
  ⟨some 29, .bin .eql (.t 26) (.t 28), some (24, true)⟩,
  ⟨some 30, .pick (.t 24) (.t 29) (.k (.d (.bool false))), none⟩,
  ⟨some 31, .mov (.t 30), none⟩,
  ⟨some 32, .faddr 4 (.t 2), some (31, true)⟩,
  ⟨some 33, .load none (.t 32), some (31, true)⟩,
  ⟨some 34, .faddr 4 (.t 3), some (31, true)⟩,
  ⟨some 35, .load none (.t 34), some (31, true)⟩,
  ⟨some 36, .bin .eql (.t 33) (.t 35), some (31, true)⟩,
  ⟨some 37, .pick (.t 31) (.t 36) (.k (.d (.bool false))), none⟩,
  ⟨some 38, .mov (.t 37), none⟩,
  ⟨some 39, .faddr 5 (.t 2), some (38, true)⟩,
  ⟨some 40, .load none (.t 39), some (38, true)⟩,
  ⟨some 41, .faddr 5 (.t 3), some (38, true)⟩,
  ⟨some 42, .load none (.t 41), some (38, true)⟩,
  ⟨some 43, .bin .eql (.t 40) (.t 42), some (38, true)⟩,
  ⟨some 44, .pick (.t 38) (.t 43) (.k (.d (.bool false))), none⟩,
  ⟨some 45, .mov (.t 44), none⟩,
  ⟨some 46, .faddr 6 (.t 2), some (45, true)⟩,
  ⟨some 47, .load none (.t 46), some (45, true)⟩,
  ⟨some 48, .faddr 6 (.t 3), some (45, true)⟩,
  ⟨some 49, .load none (.t 48), some (45, true)⟩,
  ⟨some 50, .bin .eql (.t 47) (.t 49), some (45, true)⟩,
  ⟨some 51, .pick (.t 45) (.t 50) (.k (.d (.bool false))), none⟩,
  ⟨some 52, .mov (.t 51), none⟩,
  ⟨some 53, .faddr 7 (.t 2), some (52, true)⟩,
  ⟨some 54, .load none (.t 53), some (52, true)⟩,
  ⟨some 55, .faddr 7 (.t 3), some (52, true)⟩,
  ⟨some 56, .load none (.t 55), some (52, true)⟩,
  ⟨some 57, .call (.k (.d (.func (.func 78) [] []))) [(.t 54), (.t 56)], some (52, true)⟩,
  ⟨some 58, .pick (.t 52) (.t 57) (.k (.d (.bool false))), none⟩,
  ⟨some 59, .mov (.t 58), none⟩,
  ⟨some 60, .faddr 8 (.t 2), some (59, true)⟩,
  ⟨some 61, .load none (.t 60), some (59, true)⟩,
  ⟨some 62, .faddr 8 (.t 3), some (59, true)⟩,
  ⟨some 63, .load none (.t 62), some (59, true)⟩,
  ⟨some 64, .call (.k (.d (.func (.func 79) [] []))) [(.t 61), (.t 63)], some (59, true)⟩,
  ⟨some 65, .pick (.t 59) (.t 64) (.k (.d (.bool false))), none⟩,
  ⟨some 4, .mov (.t 65), none⟩]
noncomputable def s46 : SCode := (.seq (.region s46r0 2 []) (.seq (.region s46r1 0 []) .ret))
theorem e46 : AWp P k0 s46 Q st = AWp P k0 (.seq (.region s46r0 2 []) (.seq (.region s46r1 0 []) .ret)) Q st := rfl
theorem u46r0 : goReg P s46r0 o p Q st = goLit P (litOf s46r0.eq_1) o p Q st := goReg_of _
theorem u46r1 : goReg P s46r1 o p Q st = goLit P (litOf s46r1.eq_1) o p Q st := goReg_of _
attribute [go_sem] u46r0 u46r1 e46
set_option maxRecDepth 100000 in
theorem F46 : FnIs Try.prog 46 Try.f46 [] news s46 [.tmp 4] 66 := ⟨follows, Try.func46, by kernel_rfl, by kernel_rfl, by kernel_rfl, by kernel_rfl⟩

noncomputable def s69r0 : List SOper := [
  ⟨some 4, .mov (.k (.d (.bool false))), none⟩]
noncomputable def s69r1 : List SOper := [
  ⟨some 6, .mov (.t 0), none⟩,
  ⟨some 7, .len (.t 6), none⟩,
  ⟨some 8, .mov (.t 1), none⟩,
  ⟨some 9, .len (.t 8), none⟩,
  ⟨some 10, .bin .neq (.t 7) (.t 9), none⟩]
noncomputable def s69r2 : List SOper := [
  ⟨some 4, .mov (.k (.d (.bool false))), none⟩]
noncomputable def s69r3 : List SOper := [
  ⟨some 5, .mov (.k (.d (.int .i64 0))), none⟩]
noncomputable def s69r4 : List SOper := [
  ⟨some 11, .mov (.t 5), none⟩,
  ⟨some 12, .mov (.t 0), none⟩,
  ⟨some 13, .len (.t 12), none⟩,
  ⟨some 14, .bin .lss (.t 11) (.t 13), none⟩]
noncomputable def s69r5 : List SOper := [
  ⟨some 17, .mov (.t 0), none⟩,
  ⟨some 18, .mov (.t 5), none⟩,
  ⟨some 19, .iaddr 9 (.t 17) (.t 18), none⟩,
  ⟨some 20, .load (some 9) (.t 19), none⟩,
  ⟨some 21, .mov (.t 1), none⟩,
  ⟨some 22, .mov (.t 5), none⟩,
  ⟨some 23, .iaddr 9 (.t 21) (.t 22), none⟩,
  ⟨some 24, .load (some 9) (.t 23), none⟩,
  ⟨some 25, .call (.k (.d (.func (.func 46) [] []))) [(.t 20), (.t 24)], none⟩,
  ⟨some 26, .not (.t 25), none⟩]
noncomputable def s69r6 : List SOper := [
  ⟨some 4, .mov (.k (.d (.bool false))), none⟩]
noncomputable def s69r7 : List SOper := [
  ⟨some 15, .mov (.t 5), none⟩,
  ⟨some 16, .bin .add (.t 15) (.k (.d (.int .i64 1))), none⟩,
  ⟨some 5, .mov (.t 16), none⟩]
noncomputable def s69l8 : SCode := (.seq (.seq (.region s69r4 0 []) (.cond (.t 14) .skip (.exit 0))) (.seq (.block 1 (.seq (.region s69r5 0 []) (.cond (.t 26) (.seq (.region s69r6 0 []) .ret) .skip))) (.region s69r7 0 [])))
theorem e69l8 : AWp P k0 s69l8 Q st = AWp P k0 (.seq (.seq (.region s69r4 0 []) (.cond (.t 14) .skip (.exit 0))) (.seq (.block 1 (.seq (.region s69r5 0 []) (.cond (.t 26) (.seq (.region s69r6 0 []) .ret) .skip))) (.region s69r7 0 []))) Q st := rfl
noncomputable def s69r9 : List SOper := [
  ⟨some 4, .mov (.k (.d (.bool true))), none⟩]
noncomputable def s69 : SCode := (.seq (.region s69r0 0 []) (.seq (.seq (.region s69r1 0 []) (.cond (.t 10) (.seq (.region s69r2 0 []) .ret) .skip)) (.seq (.seq (.region s69r3 0 []) (.block 0 (.loop s69l8))) (.seq (.region s69r9 0 []) .ret))))
theorem e69 : AWp P k0 s69 Q st = AWp P k0 (.seq (.region s69r0 0 []) (.seq (.seq (.region s69r1 0 []) (.cond (.t 10) (.seq (.region s69r2 0 []) .ret) .skip)) (.seq (.seq (.region s69r3 0 []) (.block 0 (.loop s69l8))) (.seq (.region s69r9 0 []) .ret)))) Q st := rfl
theorem u69r0 : goReg P s69r0 o p Q st = goLit P (litOf s69r0.eq_1) o p Q st := goReg_of _
theorem u69r1 : goReg P s69r1 o p Q st = goLit P (litOf s69r1.eq_1) o p Q st := goReg_of _
theorem u69r2 : goReg P s69r2 o p Q st = goLit P (litOf s69r2.eq_1) o p Q st := goReg_of _
theorem u69r3 : goReg P s69r3 o p Q st = goLit P (litOf s69r3.eq_1) o p Q st := goReg_of _
theorem u69r4 : goReg P s69r4 o p Q st = goLit P (litOf s69r4.eq_1) o p Q st := goReg_of _
theorem u69r5 : goReg P s69r5 o p Q st = goLit P (litOf s69r5.eq_1) o p Q st := goReg_of _
theorem u69r6 : goReg P s69r6 o p Q st = goLit P (litOf s69r6.eq_1) o p Q st := goReg_of _
theorem u69r7 : goReg P s69r7 o p Q st = goLit P (litOf s69r7.eq_1) o p Q st := goReg_of _
theorem u69r9 : goReg P s69r9 o p Q st = goLit P (litOf s69r9.eq_1) o p Q st := goReg_of _
attribute [go_sem] u69r0 u69r1 u69r2 u69r3 u69r4 u69r5 u69r6 u69r7 e69l8 u69r9 e69
set_option maxRecDepth 100000 in
theorem F69 : FnIs Try.prog 69 Try.f69 [] news s69 [.tmp 4] 27 := ⟨follows, Try.func69, by kernel_rfl, by kernel_rfl, by kernel_rfl, by kernel_rfl⟩

noncomputable def s37r0 : List SOper := [
  ⟨some 1, .box 1 (.t 0), none⟩,
  ⟨some 2, .mov (.k (.d (.bool false))), none⟩]
noncomputable def s37r1 : List SOper := [
  ⟨some 3, .mov (.k (.d (.int .i64 0))), none⟩]
noncomputable def s37r2 : List SOper := [
  ⟨some 4, .mov (.t 3), none⟩,
  ⟨some 5, .faddr 7 (.t 1), none⟩,
  ⟨some 6, .load none (.t 5), none⟩,
  ⟨some 7, .len (.t 6), none⟩,
  ⟨some 8, .bin .lss (.t 4) (.t 7), none⟩]
noncomputable def s37r3 : List SOper := [
  ⟨some 11, .faddr 7 (.t 1), none⟩,
  ⟨some 12, .load none (.t 11), none⟩,
  ⟨some 13, .mov (.t 3), none⟩,
  ⟨some 14, .iaddr 3 (.t 12) (.t 13), none⟩,
  ⟨some 15, .faddr 2 (.t 14), none⟩,
  ⟨some 16, .load none (.t 15), none⟩,
  ⟨some 17, .lenS (.t 16), none⟩,
  ⟨some 18, .bin .gtr (.t 17) (.k (.d (.int .i64 100))), none⟩]
noncomputable def s37r4 : List SOper := [
  ⟨some 2, .mov (.k (.d (.bool false))), none⟩]
noncomputable def s37r5 : List SOper := [
  ⟨some 9, .mov (.t 3), none⟩,
  ⟨some 10, .bin .add (.t 9) (.k (.d (.int .i64 1))), none⟩,
  ⟨some 3, .mov (.t 10), none⟩]
noncomputable def s37l6 : SCode := (.seq (.seq (.region s37r2 0 []) (.cond (.t 8) .skip (.exit 0))) (.seq (.block 1 (.seq (.region s37r3 0 []) (.cond (.t 18) (.seq (.region s37r4 0 []) .ret) .skip))) (.region s37r5 0 [])))
theorem e37l6 : AWp P k0 s37l6 Q st = AWp P k0 (.seq (.seq (.region s37r2 0 []) (.cond (.t 8) .skip (.exit 0))) (.seq (.block 1 (.seq (.region s37r3 0 []) (.cond (.t 18) (.seq (.region s37r4 0 []) .ret) .skip))) (.region s37r5 0 []))) Q st := rfl
noncomputable def s37r7 : List SOper := [
  ⟨some 19, .faddr 7 (.t 1), none⟩,
  ⟨some 20, .load none (.t 19), none⟩,
  ⟨some 21, .len (.t 20), none⟩,
  ⟨some 22, .bin .leq (.t 21) (.k (.d (.int .i64 10))), none⟩,
  ⟨some 23, .mov (.t 22), none⟩,
  ⟨some 24, .faddr 8 (.t 1), some (23, true)⟩,
  ⟨some 25, .load none (.t 24), some (23, true)⟩,
  ⟨some 26, .len (.t 25), some (23, true)⟩,
  ⟨some 27, .bin .leq (.t 26) (.k (.d (.int .i64 10))), some (23, true)⟩,
  ⟨some 28, .pick (.t 23) (.t 27) (.k (.d (.bool false))), none⟩,
  ⟨some 2, .mov (.t 28), none⟩]
noncomputable def s37 : SCode := (.seq (.region s37r0 1 []) (.seq (.seq (.region s37r1 0 []) (.block 0 (.loop s37l6))) (.seq (.region s37r7 0 []) .ret)))
theorem e37 : AWp P k0 s37 Q st = AWp P k0 (.seq (.region s37r0 1 []) (.seq (.seq (.region s37r1 0 []) (.block 0 (.loop s37l6))) (.seq (.region s37r7 0 []) .ret))) Q st := rfl
theorem u37r0 : goReg P s37r0 o p Q st = goLit P (litOf s37r0.eq_1) o p Q st := goReg_of _
theorem u37r1 : goReg P s37r1 o p Q st = goLit P (litOf s37r1.eq_1) o p Q st := goReg_of _
theorem u37r2 : goReg P s37r2 o p Q st = goLit P (litOf s37r2.eq_1) o p Q st := goReg_of _
theorem u37r3 : goReg P s37r3 o p Q st = goLit P (litOf s37r3.eq_1) o p Q st := goReg_of _
theorem u37r4 : goReg P s37r4 o p Q st = goLit P (litOf s37r4.eq_1) o p Q st := goReg_of _
theorem u37r5 : goReg P s37r5 o p Q st = goLit P (litOf s37r5.eq_1) o p Q st := goReg_of _
theorem u37r7 : goReg P s37r7 o p Q st = goLit P (litOf s37r7.eq_1) o p Q st := goReg_of _
attribute [go_sem] u37r0 u37r1 u37r2 u37r3 u37r4 u37r5 e37l6 u37r7 e37
set_option maxRecDepth 100000 in
theorem F37 : FnIs Try.prog 37 Try.f37 [] news s37 [.tmp 2] 29 := ⟨follows, Try.func37, by kernel_rfl, by kernel_rfl, by kernel_rfl, by kernel_rfl⟩

noncomputable def s26r0 : List SOper := [
  ⟨some 1, .box 1 (.t 0), none⟩,
  ⟨some 2, .mov (.k (.d (.bool false))), none⟩]
noncomputable def s26r1 : List SOper := [
  ⟨some 3, .mov (.k (.d (.int .i64 0))), none⟩]
noncomputable def s26r2 : List SOper := [
  ⟨some 4, .mov (.t 3), none⟩,
  ⟨some 5, .faddr 2 (.t 1), none⟩,
  ⟨some 6, .load none (.t 5), none⟩,
  ⟨some 7, .len (.t 6), none⟩,
  ⟨some 8, .bin .lss (.t 4) (.t 7), none⟩]
noncomputable def s26r3 : List SOper := [
  ⟨some 11, .faddr 2 (.t 1), none⟩,
  ⟨some 12, .load none (.t 11), none⟩,
  ⟨some 13, .mov (.t 3), none⟩,
  ⟨some 14, .iaddr 9 (.t 12) (.t 13), none⟩,
  ⟨some 15, .load (some 9) (.t 14), none⟩,
  ⟨some 16, .call (.k (.d (.func (.func 37) [] []))) [(.t 15)], none⟩,
  ⟨some 17, .not (.t 16), none⟩]
noncomputable def s26r4 : List SOper := [
  ⟨some 2, .mov (.k (.d (.bool false))), none⟩]
noncomputable def s26r5 : List SOper := [
  ⟨some 9, .mov (.t 3), none⟩,
  ⟨some 10, .bin .add (.t 9) (.k (.d (.int .i64 1))), none⟩,
  ⟨some 3, .mov (.t 10), none⟩]
noncomputable def s26l6 : SCode := (.seq (.seq (.region s26r2 0 []) (.cond (.t 8) .skip (.exit 0))) (.seq (.block 1 (.seq (.region s26r3 0 []) (.cond (.t 17) (.seq (.region s26r4 0 []) .ret) .skip))) (.region s26r5 0 [])))
theorem e26l6 : AWp P k0 s26l6 Q st = AWp P k0 (.seq (.seq (.region s26r2 0 []) (.cond (.t 8) .skip (.exit 0))) (.seq (.block 1 (.seq (.region s26r3 0 []) (.cond (.t 17) (.seq (.region s26r4 0 []) .ret) .skip))) (.region s26r5 0 []))) Q st := rfl
noncomputable def s26r7 : List SOper := [
  ⟨some 18, .faddr 2 (.t 1), none⟩,
  ⟨some 19, .load none (.t 18), none⟩,
  ⟨some 20, .len (.t 19), none⟩,
  ⟨some 21, .bin .leq (.t 20) (.k (.d (.int .i64 8))), none⟩,
  ⟨some 2, .mov (.t 21), none⟩]
noncomputable def s26 : SCode := (.seq (.region s26r0 1 []) (.seq (.seq (.region s26r1 0 []) (.block 0 (.loop s26l6))) (.seq (.region s26r7 0 []) .ret)))
theorem e26 : AWp P k0 s26 Q st = AWp P k0 (.seq (.region s26r0 1 []) (.seq (.seq (.region s26r1 0 []) (.block 0 (.loop s26l6))) (.seq (.region s26r7 0 []) .ret))) Q st := rfl
theorem u26r0 : goReg P s26r0 o p Q st = goLit P (litOf s26r0.eq_1) o p Q st := goReg_of _
theorem u26r1 : goReg P s26r1 o p Q st = goLit P (litOf s26r1.eq_1) o p Q st := goReg_of _
theorem u26r2 : goReg P s26r2 o p Q st = goLit P (litOf s26r2.eq_1) o p Q st := goReg_of _
theorem u26r3 : goReg P s26r3 o p Q st = goLit P (litOf s26r3.eq_1) o p Q st := goReg_of _
theorem u26r4 : goReg P s26r4 o p Q st = goLit P (litOf s26r4.eq_1) o p Q st := goReg_of _
theorem u26r5 : goReg P s26r5 o p Q st = goLit P (litOf s26r5.eq_1) o p Q st := goReg_of _
theorem u26r7 : goReg P s26r7 o p Q st = goLit P (litOf s26r7.eq_1) o p Q st := goReg_of _
attribute [go_sem] u26r0 u26r1 u26r2 u26r3 u26r4 u26r5 e26l6 u26r7 e26
set_option maxRecDepth 100000 in
theorem F26 : FnIs Try.prog 26 Try.f26 [] news s26 [.tmp 2] 22 := ⟨follows, Try.func26, by kernel_rfl, by kernel_rfl, by kernel_rfl, by kernel_rfl⟩

end

def Ssame {α : Type} (es : Nat) (enc : α → List D) (l m : List α) (i : { i : Nat // l.take i = m.take i }) : St :=
  ⟨[(0, true, .d (.sl es (l.map enc))), (1, true, .d (.sl es (m.map enc))), (5, true, .d (.int .i64 (i.val : Nat)))], [], [], 1⟩

theorem take_eq_done {α : Type} [DecidableEq α] {l m : List α} {i : Nat} (h : l.take i = m.take i) (hi : l.length ≤ i) (hlm : l.length = m.length) : decide (l = m) = true := by
  rw [List.take_of_length_le hi, List.take_of_length_le (by omega)] at h
  simp [h]

theorem sameV_ok (l m : List AV) (hl : l.length ≤ 1000) : ACall Try.prog 78 [.d (.sl 3 (l.map encAV)), .d (.sl 3 (m.map encAV))] [] (.d (.bool (decide (l = m)))) [] := by
  first | refine F78.go ?_ | refine F78.goT ?_
  simp only [go_sem, Nat.reduceAdd, Nat.reduceMul, Nat.reduceSub, Nat.reduceEqDiff, Nat.reduceLT, Nat.reduceLeDiff, Nat.reduceBEq, reduceIte, reduceCtorEq, Int.reduceAdd, Int.reduceLT, Int.reduceLE, Int.reduceGT, Int.reduceGE, Int.reduceEq, Int.reduceNe, Int.reduceBEq, Int.reduceBNe, Int.reduceToNat, Int.reduceNeg]
  refine AWp_cond _ rfl rfl (fun h => ?_) (fun h => ?_)
  · have hne : decide (l = m) = false := by rw [decide_eq_false_iff_not]; rintro rfl; simp at h
    try simp only [hne, go_sem, Nat.reduceAdd, Nat.reduceMul, Nat.reduceSub, Nat.reduceEqDiff, Nat.reduceLT, Nat.reduceLeDiff, Nat.reduceBEq, reduceIte, reduceCtorEq, Int.reduceAdd, Int.reduceLT, Int.reduceLE, Int.reduceGT, Int.reduceGE, Int.reduceEq, Int.reduceNe, Int.reduceBEq, Int.reduceBNe, Int.reduceToNat, Int.reduceNeg]
  have hlm : l.length = m.length := by simp at h; omega
  try (refine ev ?_; try exact True.intro)
  refine AWp_loop (Ssame 3 encAV l m) (fun i => l.length - i.val) ⟨0, rfl⟩ ?_ (fun i => ?_)
  · try simp only [Ssame, go_sem, Nat.reduceAdd, Nat.reduceMul, Nat.reduceSub, Nat.reduceEqDiff, Nat.reduceLT, Nat.reduceLeDiff, Nat.reduceBEq, reduceIte, reduceCtorEq, Int.reduceAdd, Int.reduceLT, Int.reduceLE, Int.reduceGT, Int.reduceGE, Int.reduceEq, Int.reduceNe, Int.reduceBEq, Int.reduceBNe, Int.reduceToNat, Int.reduceNeg]
  obtain ⟨i, hi⟩ := i
  try simp only [Ssame, go_sem, Nat.reduceAdd, Nat.reduceMul, Nat.reduceSub, Nat.reduceEqDiff, Nat.reduceLT, Nat.reduceLeDiff, Nat.reduceBEq, reduceIte, reduceCtorEq, Int.reduceAdd, Int.reduceLT, Int.reduceLE, Int.reduceGT, Int.reduceGE, Int.reduceEq, Int.reduceNe, Int.reduceBEq, Int.reduceBNe, Int.reduceToNat, Int.reduceNeg]
  refine AWp_cond _ rfl rfl (fun h => ?_) (fun h => ?_)
  · have hil : i < l.length := by simpa using h
    have him : i < m.length := by omega
    simp only [getD_map encAV l hil, getD_map encAV m him, encAV, beq_AV, go_sem, Nat.reduceAdd, Nat.reduceMul, Nat.reduceSub, Nat.reduceEqDiff, Nat.reduceLT, Nat.reduceLeDiff, Nat.reduceBEq, reduceIte, reduceCtorEq, Int.reduceAdd, Int.reduceLT, Int.reduceLE, Int.reduceGT, Int.reduceGE, Int.reduceEq, Int.reduceNe, Int.reduceBEq, Int.reduceBNe, Int.reduceToNat, Int.reduceNeg]
    (repeat (with_reducible refine ob ?_))
    skip
    refine AWp_cond _ rfl rfl (fun h2 => ?_) (fun h2 => ?_)
    · have hne : l[i] ≠ m[i] := by simpa using h2
      try simp only [eq_ne hil him hne, go_sem, Nat.reduceAdd, Nat.reduceMul, Nat.reduceSub, Nat.reduceEqDiff, Nat.reduceLT, Nat.reduceLeDiff, Nat.reduceBEq, reduceIte, reduceCtorEq, Int.reduceAdd, Int.reduceLT, Int.reduceLE, Int.reduceGT, Int.reduceGE, Int.reduceEq, Int.reduceNe, Int.reduceBEq, Int.reduceBNe, Int.reduceToNat, Int.reduceNeg]
    · have he : l[i] = m[i] := by simpa using h2
      try (refine ev ?_; try exact True.intro)
      refine ⟨⟨i + 1, take_eq_succ hi hil him he⟩, ?_, by dsimp only; omega⟩
      simp only [Ssame, wrap_succ (show i < 9223372036854775807 by omega), go_sem, Nat.reduceAdd, Nat.reduceMul, Nat.reduceSub, Nat.reduceEqDiff, Nat.reduceLT, Nat.reduceLeDiff, Nat.reduceBEq, reduceIte, reduceCtorEq, Int.reduceAdd, Int.reduceLT, Int.reduceLE, Int.reduceGT, Int.reduceGE, Int.reduceEq, Int.reduceNe, Int.reduceBEq, Int.reduceBNe, Int.reduceToNat, Int.reduceNeg]
  · try simp only [take_eq_done hi (by simpa using h) hlm, go_sem, Nat.reduceAdd, Nat.reduceMul, Nat.reduceSub, Nat.reduceEqDiff, Nat.reduceLT, Nat.reduceLeDiff, Nat.reduceBEq, reduceIte, reduceCtorEq, Int.reduceAdd, Int.reduceLT, Int.reduceLE, Int.reduceGT, Int.reduceGE, Int.reduceEq, Int.reduceNe, Int.reduceBEq, Int.reduceBNe, Int.reduceToNat, Int.reduceNeg]

theorem sameI_ok (l m : List Int) (hl : l.length ≤ 1000) : ACall Try.prog 79 [.d (.sl 1 (l.map encI)), .d (.sl 1 (m.map encI))] [] (.d (.bool (decide (l = m)))) [] := by
  first | refine F79.go ?_ | refine F79.goT ?_
  simp only [go_sem, Nat.reduceAdd, Nat.reduceMul, Nat.reduceSub, Nat.reduceEqDiff, Nat.reduceLT, Nat.reduceLeDiff, Nat.reduceBEq, reduceIte, reduceCtorEq, Int.reduceAdd, Int.reduceLT, Int.reduceLE, Int.reduceGT, Int.reduceGE, Int.reduceEq, Int.reduceNe, Int.reduceBEq, Int.reduceBNe, Int.reduceToNat, Int.reduceNeg]
  refine AWp_cond _ rfl rfl (fun h => ?_) (fun h => ?_)
  · have hne : decide (l = m) = false := by rw [decide_eq_false_iff_not]; rintro rfl; simp at h
    try simp only [hne, go_sem, Nat.reduceAdd, Nat.reduceMul, Nat.reduceSub, Nat.reduceEqDiff, Nat.reduceLT, Nat.reduceLeDiff, Nat.reduceBEq, reduceIte, reduceCtorEq, Int.reduceAdd, Int.reduceLT, Int.reduceLE, Int.reduceGT, Int.reduceGE, Int.reduceEq, Int.reduceNe, Int.reduceBEq, Int.reduceBNe, Int.reduceToNat, Int.reduceNeg]
  have hlm : l.length = m.length := by simp at h; omega
  try (refine ev ?_; try exact True.intro)
  refine AWp_loop (Ssame 1 encI l m) (fun i => l.length - i.val) ⟨0, rfl⟩ ?_ (fun i => ?_)
  · try simp only [Ssame, go_sem, Nat.reduceAdd, Nat.reduceMul, Nat.reduceSub, Nat.reduceEqDiff, Nat.reduceLT, Nat.reduceLeDiff, Nat.reduceBEq, reduceIte, reduceCtorEq, Int.reduceAdd, Int.reduceLT, Int.reduceLE, Int.reduceGT, Int.reduceGE, Int.reduceEq, Int.reduceNe, Int.reduceBEq, Int.reduceBNe, Int.reduceToNat, Int.reduceNeg]
  obtain ⟨i, hi⟩ := i
  try simp only [Ssame, go_sem, Nat.reduceAdd, Nat.reduceMul, Nat.reduceSub, Nat.reduceEqDiff, Nat.reduceLT, Nat.reduceLeDiff, Nat.reduceBEq, reduceIte, reduceCtorEq, Int.reduceAdd, Int.reduceLT, Int.reduceLE, Int.reduceGT, Int.reduceGE, Int.reduceEq, Int.reduceNe, Int.reduceBEq, Int.reduceBNe, Int.reduceToNat, Int.reduceNeg]
  refine AWp_cond _ rfl rfl (fun h => ?_) (fun h => ?_)
  · have hil : i < l.length := by simpa using h
    have him : i < m.length := by omega
    simp only [getD_map encI l hil, getD_map encI m him, encI, encI, go_sem, Nat.reduceAdd, Nat.reduceMul, Nat.reduceSub, Nat.reduceEqDiff, Nat.reduceLT, Nat.reduceLeDiff, Nat.reduceBEq, reduceIte, reduceCtorEq, Int.reduceAdd, Int.reduceLT, Int.reduceLE, Int.reduceGT, Int.reduceGE, Int.reduceEq, Int.reduceNe, Int.reduceBEq, Int.reduceBNe, Int.reduceToNat, Int.reduceNeg]
    (repeat (with_reducible refine ob ?_))
    skip
    refine AWp_cond _ rfl rfl (fun h2 => ?_) (fun h2 => ?_)
    · have hne : l[i] ≠ m[i] := by simpa using h2
      try simp only [eq_ne hil him hne, go_sem, Nat.reduceAdd, Nat.reduceMul, Nat.reduceSub, Nat.reduceEqDiff, Nat.reduceLT, Nat.reduceLeDiff, Nat.reduceBEq, reduceIte, reduceCtorEq, Int.reduceAdd, Int.reduceLT, Int.reduceLE, Int.reduceGT, Int.reduceGE, Int.reduceEq, Int.reduceNe, Int.reduceBEq, Int.reduceBNe, Int.reduceToNat, Int.reduceNeg]
    · have he : l[i] = m[i] := by simpa using h2
      try (refine ev ?_; try exact True.intro)
      refine ⟨⟨i + 1, take_eq_succ hi hil him he⟩, ?_, by dsimp only; omega⟩
      simp only [Ssame, wrap_succ (show i < 9223372036854775807 by omega), go_sem, Nat.reduceAdd, Nat.reduceMul, Nat.reduceSub, Nat.reduceEqDiff, Nat.reduceLT, Nat.reduceLeDiff, Nat.reduceBEq, reduceIte, reduceCtorEq, Int.reduceAdd, Int.reduceLT, Int.reduceLE, Int.reduceGT, Int.reduceGE, Int.reduceEq, Int.reduceNe, Int.reduceBEq, Int.reduceBNe, Int.reduceToNat, Int.reduceNeg]
  · try simp only [take_eq_done hi (by simpa using h) hlm, go_sem, Nat.reduceAdd, Nat.reduceMul, Nat.reduceSub, Nat.reduceEqDiff, Nat.reduceLT, Nat.reduceLeDiff, Nat.reduceBEq, reduceIte, reduceCtorEq, Int.reduceAdd, Int.reduceLT, Int.reduceLE, Int.reduceGT, Int.reduceGE, Int.reduceEq, Int.reduceNe, Int.reduceBEq, Int.reduceBNe, Int.reduceToNat, Int.reduceNeg]

set_option maxRecDepth 10000 in
theorem pkEqual46_ok (p q : Pk) (hp : p.Sm) :
    ACall Try.prog 46 [.d (.agg (encPk p)), .d (.agg (encPk q))] [] (.d (.bool (decide (p = q)))) [] := by
  first | refine F46.go ?_ | refine F46.goT ?_
  simp only [encPk, go_sem, Nat.reduceAdd, Nat.reduceMul, Nat.reduceSub, Nat.reduceEqDiff, Nat.reduceLT, Nat.reduceLeDiff, Nat.reduceBEq, reduceIte, reduceCtorEq, Int.reduceAdd, Int.reduceLT, Int.reduceLE, Int.reduceGT, Int.reduceGE, Int.reduceEq, Int.reduceNe, Int.reduceBEq, Int.reduceBNe, Int.reduceToNat, Int.reduceNeg]
  (repeat (with_reducible refine ob ?_)); first | refine cl F78 (sameV_ok p.values q.values hp.1) ?_ | refine clF F78 (sameV_ok p.values q.values hp.1) (fun _ => by simp only [encPk, encAV, encI, go_sem, Nat.reduceAdd, Nat.reduceMul, Nat.reduceSub, Nat.reduceEqDiff, Nat.reduceLT, Nat.reduceLeDiff, Nat.reduceBEq, reduceIte, reduceCtorEq, Int.reduceAdd, Int.reduceLT, Int.reduceLE, Int.reduceGT, Int.reduceGE, Int.reduceEq, Int.reduceNe, Int.reduceBEq, Int.reduceBNe, Int.reduceToNat, Int.reduceNeg]) ?_
  try (refine ev ?_; try exact True.intro)
  (repeat (with_reducible refine ob ?_)); first | refine cl F79 (sameI_ok p.clock q.clock hp.2) ?_ | refine clF F79 (sameI_ok p.clock q.clock hp.2) (fun _ => by simp only [encPk, encAV, encI, go_sem, Nat.reduceAdd, Nat.reduceMul, Nat.reduceSub, Nat.reduceEqDiff, Nat.reduceLT, Nat.reduceLeDiff, Nat.reduceBEq, reduceIte, reduceCtorEq, Int.reduceAdd, Int.reduceLT, Int.reduceLE, Int.reduceGT, Int.reduceGE, Int.reduceEq, Int.reduceNe, Int.reduceBEq, Int.reduceBNe, Int.reduceToNat, Int.reduceNeg]) ?_
  try simp only [beq_Pk, go_sem, Nat.reduceAdd, Nat.reduceMul, Nat.reduceSub, Nat.reduceEqDiff, Nat.reduceLT, Nat.reduceLeDiff, Nat.reduceBEq, reduceIte, reduceCtorEq, Int.reduceAdd, Int.reduceLT, Int.reduceLE, Int.reduceGT, Int.reduceGE, Int.reduceEq, Int.reduceNe, Int.reduceBEq, Int.reduceBNe, Int.reduceToNat, Int.reduceNeg]

theorem sameP_ok (l m : List Pk) (hl : l.length ≤ 1000) (hp : ∀ p ∈ l, p.Sm) : ACall Try.prog 69 [.d (.sl 9 (l.map encPk)), .d (.sl 9 (m.map encPk))] [] (.d (.bool (decide (l = m)))) [] := by
  first | refine F69.go ?_ | refine F69.goT ?_
  simp only [go_sem, Nat.reduceAdd, Nat.reduceMul, Nat.reduceSub, Nat.reduceEqDiff, Nat.reduceLT, Nat.reduceLeDiff, Nat.reduceBEq, reduceIte, reduceCtorEq, Int.reduceAdd, Int.reduceLT, Int.reduceLE, Int.reduceGT, Int.reduceGE, Int.reduceEq, Int.reduceNe, Int.reduceBEq, Int.reduceBNe, Int.reduceToNat, Int.reduceNeg]
  refine AWp_cond _ rfl rfl (fun h => ?_) (fun h => ?_)
  · have hne : decide (l = m) = false := by rw [decide_eq_false_iff_not]; rintro rfl; simp at h
    try simp only [hne, go_sem, Nat.reduceAdd, Nat.reduceMul, Nat.reduceSub, Nat.reduceEqDiff, Nat.reduceLT, Nat.reduceLeDiff, Nat.reduceBEq, reduceIte, reduceCtorEq, Int.reduceAdd, Int.reduceLT, Int.reduceLE, Int.reduceGT, Int.reduceGE, Int.reduceEq, Int.reduceNe, Int.reduceBEq, Int.reduceBNe, Int.reduceToNat, Int.reduceNeg]
  have hlm : l.length = m.length := by simp at h; omega
  try (refine ev ?_; try exact True.intro)
  refine AWp_loop (Ssame 9 encPk l m) (fun i => l.length - i.val) ⟨0, rfl⟩ ?_ (fun i => ?_)
  · try simp only [Ssame, go_sem, Nat.reduceAdd, Nat.reduceMul, Nat.reduceSub, Nat.reduceEqDiff, Nat.reduceLT, Nat.reduceLeDiff, Nat.reduceBEq, reduceIte, reduceCtorEq, Int.reduceAdd, Int.reduceLT, Int.reduceLE, Int.reduceGT, Int.reduceGE, Int.reduceEq, Int.reduceNe, Int.reduceBEq, Int.reduceBNe, Int.reduceToNat, Int.reduceNeg]
  obtain ⟨i, hi⟩ := i
  try simp only [Ssame, go_sem, Nat.reduceAdd, Nat.reduceMul, Nat.reduceSub, Nat.reduceEqDiff, Nat.reduceLT, Nat.reduceLeDiff, Nat.reduceBEq, reduceIte, reduceCtorEq, Int.reduceAdd, Int.reduceLT, Int.reduceLE, Int.reduceGT, Int.reduceGE, Int.reduceEq, Int.reduceNe, Int.reduceBEq, Int.reduceBNe, Int.reduceToNat, Int.reduceNeg]
  refine AWp_cond _ rfl rfl (fun h => ?_) (fun h => ?_)
  · have hil : i < l.length := by simpa using h
    have him : i < m.length := by omega
    simp only [getD_map encPk l hil, getD_map encPk m him, encPk, encPk, go_sem, Nat.reduceAdd, Nat.reduceMul, Nat.reduceSub, Nat.reduceEqDiff, Nat.reduceLT, Nat.reduceLeDiff, Nat.reduceBEq, reduceIte, reduceCtorEq, Int.reduceAdd, Int.reduceLT, Int.reduceLE, Int.reduceGT, Int.reduceGE, Int.reduceEq, Int.reduceNe, Int.reduceBEq, Int.reduceBNe, Int.reduceToNat, Int.reduceNeg]
    (repeat (with_reducible refine ob ?_))
    ((repeat (with_reducible refine ob ?_)); first | refine cl F46 (pkEqual46_ok l[i] m[i] (hp _ (List.getElem_mem hil))) ?_ | refine clF F46 (pkEqual46_ok l[i] m[i] (hp _ (List.getElem_mem hil))) (fun _ => by simp only [encPk, encAV, encI, go_sem, Nat.reduceAdd, Nat.reduceMul, Nat.reduceSub, Nat.reduceEqDiff, Nat.reduceLT, Nat.reduceLeDiff, Nat.reduceBEq, reduceIte, reduceCtorEq, Int.reduceAdd, Int.reduceLT, Int.reduceLE, Int.reduceGT, Int.reduceGE, Int.reduceEq, Int.reduceNe, Int.reduceBEq, Int.reduceBNe, Int.reduceToNat, Int.reduceNeg]) ?_); try (refine ev ?_; try exact True.intro)
    refine AWp_cond _ rfl rfl (fun h2 => ?_) (fun h2 => ?_)
    · have hne : l[i] ≠ m[i] := by simpa using h2
      try simp only [eq_ne hil him hne, go_sem, Nat.reduceAdd, Nat.reduceMul, Nat.reduceSub, Nat.reduceEqDiff, Nat.reduceLT, Nat.reduceLeDiff, Nat.reduceBEq, reduceIte, reduceCtorEq, Int.reduceAdd, Int.reduceLT, Int.reduceLE, Int.reduceGT, Int.reduceGE, Int.reduceEq, Int.reduceNe, Int.reduceBEq, Int.reduceBNe, Int.reduceToNat, Int.reduceNeg]
    · have he : l[i] = m[i] := by simpa using h2
      try (refine ev ?_; try exact True.intro)
      refine ⟨⟨i + 1, take_eq_succ hi hil him he⟩, ?_, by dsimp only; omega⟩
      simp only [Ssame, wrap_succ (show i < 9223372036854775807 by omega), go_sem, Nat.reduceAdd, Nat.reduceMul, Nat.reduceSub, Nat.reduceEqDiff, Nat.reduceLT, Nat.reduceLeDiff, Nat.reduceBEq, reduceIte, reduceCtorEq, Int.reduceAdd, Int.reduceLT, Int.reduceLE, Int.reduceGT, Int.reduceGE, Int.reduceEq, Int.reduceNe, Int.reduceBEq, Int.reduceBNe, Int.reduceToNat, Int.reduceNeg]
  · try simp only [take_eq_done hi (by simpa using h) hlm, go_sem, Nat.reduceAdd, Nat.reduceMul, Nat.reduceSub, Nat.reduceEqDiff, Nat.reduceLT, Nat.reduceLeDiff, Nat.reduceBEq, reduceIte, reduceCtorEq, Int.reduceAdd, Int.reduceLT, Int.reduceLE, Int.reduceGT, Int.reduceGE, Int.reduceEq, Int.reduceNe, Int.reduceBEq, Int.reduceBNe, Int.reduceToNat, Int.reduceNeg]

def short46 (v : AV) : Bool := !decide ((v.s.length : Int) > 100)
def few46 (p : Pk) : Bool := p.values.all short46 && (decide ((p.values.length : Int) ≤ 10) && decide ((p.clock.length : Int) ≤ 10))
def Sfew46 (p : Pk) (i : { i : Nat // (p.values.take i).all short46 = true }) : St := ⟨[(1, true, .d (.ptr 0 0)), (3, true, .d (.int .i64 (i.val : Nat)))], [pkObj p], [], 1⟩
theorem few46_ok (p : Pk) (hp : p.values.length ≤ maxLen) : ACall Try.prog 37 [.d (.agg (encPk p))] [] (.d (.bool (few46 p))) [] := by
  unfold maxLen at hp
  first | refine F37.go ?_ | refine F37.goT ?_
  simp only [encPk, go_sem, Nat.reduceAdd, Nat.reduceMul, Nat.reduceSub, Nat.reduceEqDiff, Nat.reduceLT, Nat.reduceLeDiff, Nat.reduceBEq, reduceIte, reduceCtorEq, Int.reduceAdd, Int.reduceLT, Int.reduceLE, Int.reduceGT, Int.reduceGE, Int.reduceEq, Int.reduceNe, Int.reduceBEq, Int.reduceBNe, Int.reduceToNat, Int.reduceNeg]
  refine AWp_loop (Sfew46 p) (fun i => p.values.length - i.val) ⟨0, rfl⟩ ?_ (fun i => ?_)
  · try simp only [Sfew46, pkObj, go_sem, Nat.reduceAdd, Nat.reduceMul, Nat.reduceSub, Nat.reduceEqDiff, Nat.reduceLT, Nat.reduceLeDiff, Nat.reduceBEq, reduceIte, reduceCtorEq, Int.reduceAdd, Int.reduceLT, Int.reduceLE, Int.reduceGT, Int.reduceGE, Int.reduceEq, Int.reduceNe, Int.reduceBEq, Int.reduceBNe, Int.reduceToNat, Int.reduceNeg]
  obtain ⟨i, hi⟩ := i
  try simp only [Sfew46, pkObj, go_sem, Nat.reduceAdd, Nat.reduceMul, Nat.reduceSub, Nat.reduceEqDiff, Nat.reduceLT, Nat.reduceLeDiff, Nat.reduceBEq, reduceIte, reduceCtorEq, Int.reduceAdd, Int.reduceLT, Int.reduceLE, Int.reduceGT, Int.reduceGE, Int.reduceEq, Int.reduceNe, Int.reduceBEq, Int.reduceBNe, Int.reduceToNat, Int.reduceNeg]
  refine AWp_cond _ rfl rfl (fun h => ?_) (fun h => ?_)
  · have hil : i < p.values.length := by simpa using h
    simp only [getD_map encAV p.values hil, encAV, go_sem, Nat.reduceAdd, Nat.reduceMul, Nat.reduceSub, Nat.reduceEqDiff, Nat.reduceLT, Nat.reduceLeDiff, Nat.reduceBEq, reduceIte, reduceCtorEq, Int.reduceAdd, Int.reduceLT, Int.reduceLE, Int.reduceGT, Int.reduceGE, Int.reduceEq, Int.reduceNe, Int.reduceBEq, Int.reduceBNe, Int.reduceToNat, Int.reduceNeg]
    (repeat (with_reducible refine ob ?_))
    refine AWp_cond _ rfl rfl (fun h2 => ?_) (fun h2 => ?_)
    · have hg : short46 p.values[i] = false := by simp only [short46, h2]; rfl
      simp only [few46, all_no hil hg, go_sem, Nat.reduceAdd, Nat.reduceMul, Nat.reduceSub, Nat.reduceEqDiff, Nat.reduceLT, Nat.reduceLeDiff, Nat.reduceBEq, reduceIte, reduceCtorEq, Int.reduceAdd, Int.reduceLT, Int.reduceLE, Int.reduceGT, Int.reduceGE, Int.reduceEq, Int.reduceNe, Int.reduceBEq, Int.reduceBNe, Int.reduceToNat, Int.reduceNeg]
    · have hg : short46 p.values[i] = true := by simp only [short46, h2]; rfl
      try (refine ev ?_; try exact True.intro)
      refine ⟨⟨i + 1, take_all_succ hi hil hg⟩, ?_, by dsimp only; omega⟩
      simp only [Sfew46, pkObj, wrap_succ (show i < 9223372036854775807 by omega), go_sem, Nat.reduceAdd, Nat.reduceMul, Nat.reduceSub, Nat.reduceEqDiff, Nat.reduceLT, Nat.reduceLeDiff, Nat.reduceBEq, reduceIte, reduceCtorEq, Int.reduceAdd, Int.reduceLT, Int.reduceLE, Int.reduceGT, Int.reduceGE, Int.reduceEq, Int.reduceNe, Int.reduceBEq, Int.reduceBNe, Int.reduceToNat, Int.reduceNeg]
  · have hall : p.values.all short46 = true := all_done hi (by simpa using h)
    simp only [few46, hall, go_sem, Nat.reduceAdd, Nat.reduceMul, Nat.reduceSub, Nat.reduceEqDiff, Nat.reduceLT, Nat.reduceLeDiff, Nat.reduceBEq, reduceIte, reduceCtorEq, Int.reduceAdd, Int.reduceLT, Int.reduceLE, Int.reduceGT, Int.reduceGE, Int.reduceEq, Int.reduceNe, Int.reduceBEq, Int.reduceBNe, Int.reduceToNat, Int.reduceNeg]

def qObj (q : Qu) : AObj := .row [.d (.int .i64 q.acc), .d (.int .i64 q.cons), .d (.sl 9 (q.items.map encPk))]
def fewQ (q : Qu) : Bool := q.items.all few46 && decide ((q.items.length : Int) ≤ 8)
def SfewQ (q : Qu) (i : { i : Nat // (q.items.take i).all few46 = true }) : St := ⟨[(1, true, .d (.ptr 0 0)), (3, true, .d (.int .i64 (i.val : Nat)))], [qObj q], [], 1⟩
theorem fewQ_ok (q : Qu) (hq : q.items.length ≤ maxLen) (hv : ∀ p ∈ q.items, p.values.length ≤ maxLen) : ACall Try.prog 26 [.d (.agg (encQ q))] [] (.d (.bool (fewQ q))) [] := by
  unfold maxLen at hq
  first | refine F26.go ?_ | refine F26.goT ?_
  simp only [encQ, go_sem, Nat.reduceAdd, Nat.reduceMul, Nat.reduceSub, Nat.reduceEqDiff, Nat.reduceLT, Nat.reduceLeDiff, Nat.reduceBEq, reduceIte, reduceCtorEq, Int.reduceAdd, Int.reduceLT, Int.reduceLE, Int.reduceGT, Int.reduceGE, Int.reduceEq, Int.reduceNe, Int.reduceBEq, Int.reduceBNe, Int.reduceToNat, Int.reduceNeg]
  refine AWp_loop (SfewQ q) (fun i => q.items.length - i.val) ⟨0, rfl⟩ ?_ (fun i => ?_)
  · try simp only [SfewQ, qObj, go_sem, Nat.reduceAdd, Nat.reduceMul, Nat.reduceSub, Nat.reduceEqDiff, Nat.reduceLT, Nat.reduceLeDiff, Nat.reduceBEq, reduceIte, reduceCtorEq, Int.reduceAdd, Int.reduceLT, Int.reduceLE, Int.reduceGT, Int.reduceGE, Int.reduceEq, Int.reduceNe, Int.reduceBEq, Int.reduceBNe, Int.reduceToNat, Int.reduceNeg]
  obtain ⟨i, hi⟩ := i
  try simp only [SfewQ, qObj, go_sem, Nat.reduceAdd, Nat.reduceMul, Nat.reduceSub, Nat.reduceEqDiff, Nat.reduceLT, Nat.reduceLeDiff, Nat.reduceBEq, reduceIte, reduceCtorEq, Int.reduceAdd, Int.reduceLT, Int.reduceLE, Int.reduceGT, Int.reduceGE, Int.reduceEq, Int.reduceNe, Int.reduceBEq, Int.reduceBNe, Int.reduceToNat, Int.reduceNeg]
  refine AWp_cond _ rfl rfl (fun h => ?_) (fun h => ?_)
  · have hil : i < q.items.length := by simpa using h
    simp only [getD_map encPk q.items hil, encPk, go_sem, Nat.reduceAdd, Nat.reduceMul, Nat.reduceSub, Nat.reduceEqDiff, Nat.reduceLT, Nat.reduceLeDiff, Nat.reduceBEq, reduceIte, reduceCtorEq, Int.reduceAdd, Int.reduceLT, Int.reduceLE, Int.reduceGT, Int.reduceGE, Int.reduceEq, Int.reduceNe, Int.reduceBEq, Int.reduceBNe, Int.reduceToNat, Int.reduceNeg]
    (repeat (with_reducible refine ob ?_))
    (repeat (with_reducible refine ob ?_)); first | refine cl F37 (few46_ok q.items[i] (hv _ (List.getElem_mem hil))) ?_ | refine clF F37 (few46_ok q.items[i] (hv _ (List.getElem_mem hil))) (fun _ => by simp only [encPk, encAV, encI, go_sem, Nat.reduceAdd, Nat.reduceMul, Nat.reduceSub, Nat.reduceEqDiff, Nat.reduceLT, Nat.reduceLeDiff, Nat.reduceBEq, reduceIte, reduceCtorEq, Int.reduceAdd, Int.reduceLT, Int.reduceLE, Int.reduceGT, Int.reduceGE, Int.reduceEq, Int.reduceNe, Int.reduceBEq, Int.reduceBNe, Int.reduceToNat, Int.reduceNeg]) ?_
    try (refine ev ?_; try exact True.intro)
    refine AWp_cond _ rfl rfl (fun h2 => ?_) (fun h2 => ?_)
    · have hg : few46 q.items[i] = false := by simpa using h2
      simp only [fewQ, all_no hil hg, go_sem, Nat.reduceAdd, Nat.reduceMul, Nat.reduceSub, Nat.reduceEqDiff, Nat.reduceLT, Nat.reduceLeDiff, Nat.reduceBEq, reduceIte, reduceCtorEq, Int.reduceAdd, Int.reduceLT, Int.reduceLE, Int.reduceGT, Int.reduceGE, Int.reduceEq, Int.reduceNe, Int.reduceBEq, Int.reduceBNe, Int.reduceToNat, Int.reduceNeg]
    · have hg : few46 q.items[i] = true := by simpa using h2
      try (refine ev ?_; try exact True.intro)
      refine ⟨⟨i + 1, take_all_succ hi hil hg⟩, ?_, by dsimp only; omega⟩
      simp only [SfewQ, qObj, wrap_succ (show i < 9223372036854775807 by omega), go_sem, Nat.reduceAdd, Nat.reduceMul, Nat.reduceSub, Nat.reduceEqDiff, Nat.reduceLT, Nat.reduceLeDiff, Nat.reduceBEq, reduceIte, reduceCtorEq, Int.reduceAdd, Int.reduceLT, Int.reduceLE, Int.reduceGT, Int.reduceGE, Int.reduceEq, Int.reduceNe, Int.reduceBEq, Int.reduceBNe, Int.reduceToNat, Int.reduceNeg]
  · have hall : q.items.all few46 = true := all_done hi (by simpa using h)
    simp only [fewQ, hall, go_sem, Nat.reduceAdd, Nat.reduceMul, Nat.reduceSub, Nat.reduceEqDiff, Nat.reduceLT, Nat.reduceLeDiff, Nat.reduceBEq, reduceIte, reduceCtorEq, Int.reduceAdd, Int.reduceLT, Int.reduceLE, Int.reduceGT, Int.reduceGE, Int.reduceEq, Int.reduceNe, Int.reduceBEq, Int.reduceBNe, Int.reduceToNat, Int.reduceNeg]

theorem few46_sm {p : Pk} (h : few46 p = true) : p.Sm := by
  simp only [few46, Bool.and_eq_true, decide_eq_true_eq] at h
  exact ⟨by omega, by omega⟩
theorem fewQ_sm {q : Qu} (h : fewQ q = true) : q.Sm ∧ q.items.length ≤ 8 := by
  simp only [fewQ, Bool.and_eq_true, decide_eq_true_eq, List.all_eq_true] at h
  exact ⟨⟨by omega, fun p hp => few46_sm (h.1 p hp)⟩, by omega⟩
end Go.Proofs.Ythcpckcgjplhiaa
