/- Packets: what their functions answer. -/
import Derived.Test.YthcpckcgjplhiaaBc
import Derived.Test.YthcpckcgjplhiaaProg
import Derived.KernelRfl
namespace Go.Proofs.Ythcpckcgjplhiaa
open Go.Abs
set_option linter.unusedSimpArgs false

def news : List (FuncId × Nat) := []
theorem follows : Try.prog.follows .mixedOrders = true := by kernel_rfl

/-- api.Value -/
structure AV where
  kind : Int
  n : Int
  s : List UInt8
  deriving DecidableEq, Inhabited

def encAV (v : AV) : List D := [.int .i64 v.kind, .int .i64 v.n, .str v.s]
theorem encAV_noPtr (v : AV) : D.noPtrL (encAV v) = true := rfl
def encI (n : Int) : List D := [.int .i64 n]
theorem encI_noPtr (n : Int) : D.noPtrL (encI n) = true := rfl

/-- packet.Packet, farandoleref46.Packet -/
structure Pk where
  kind : Int
  sess : Int
  epoch : Int
  from_ : Int
  to : Int
  seq : Int
  label : Int
  values : List AV
  clock : List Int
  deriving DecidableEq, Inhabited

def encPk (p : Pk) : List D := [.int .i64 p.kind, .int .i64 p.sess, .int .i64 p.epoch, .int .i64 p.from_, .int .i64 p.to, .int .i64 p.seq, .int .i64 p.label, .sl 3 (p.values.map encAV), .sl 1 (p.clock.map encI)]
theorem encPk_noPtr (p : Pk) : D.noPtrL (encPk p) = true := by
  simp only [encPk, D.noPtrL, D.noPtr, noPtrR_map encAV_noPtr, noPtrR_map encI_noPtr, Bool.and_self]
theorem noPtrR_AV (l : List AV) : D.noPtrR (l.map encAV) = true := noPtrR_map encAV_noPtr l
theorem noPtrR_I (l : List Int) : D.noPtrR (l.map encI) = true := noPtrR_map encI_noPtr l
theorem noPtrR_Pk (l : List Pk) : D.noPtrR (l.map encPk) = true := noPtrR_map encPk_noPtr l
attribute [go_sem] encAV_noPtr encI_noPtr encPk_noPtr noPtrR_AV noPtrR_I noPtrR_Pk

noncomputable def s_packet_role_r0 : List SOper := [
  ⟨(some 2), .mov (.k (.d (.bool false))), none⟩]
noncomputable def s_packet_role_r1 : List SOper := [
  ⟨(some 3), .mov (.t 0), none⟩,
  ⟨(some 4), .bin .geq (.t 3) (.k (.d (.int .i64 0))), none⟩,
  ⟨(some 5), .mov (.t 4), none⟩,
  ⟨(some 6), .mov (.t 0), (some (5, true))⟩,
  ⟨(some 7), .bin .lss (.t 6) (.k (.d (.int .i64 6))), (some (5, true))⟩,
  ⟨(some 8), .pick (.t 5) (.t 7) (.k (.d (.bool false))), none⟩,
  ⟨(some 2), .mov (.t 8), none⟩]
noncomputable def s_packet_role : SCode := (.seq (.region s_packet_role_r0 0 []) (.seq (.region s_packet_role_r1 0 []) .ret))
theorem e_packet_role {P : Program} {k0 : Nat} {Q : SExit → St → Prop} {st : St} : AWp P k0 s_packet_role Q st = AWp P k0 (.seq (.region s_packet_role_r0 0 []) (.seq (.region s_packet_role_r1 0 []) .ret)) Q st := rfl
theorem u_packet_role_r0 {P : Program} {o : Nat} {p : List (Nat × Nat)} {Q : SExit → St → Prop} {st : St} : goReg P s_packet_role_r0 o p Q st = goLit P (litOf s_packet_role_r0.eq_1) o p Q st := goReg_of _
theorem u_packet_role_r1 {P : Program} {o : Nat} {p : List (Nat × Nat)} {Q : SExit → St → Prop} {st : St} : goReg P s_packet_role_r1 o p Q st = goLit P (litOf s_packet_role_r1.eq_1) o p Q st := goReg_of _
attribute [go_sem] u_packet_role_r0 u_packet_role_r1 e_packet_role
set_option maxRecDepth 100000 in
theorem c_packet_role : Try.f109.body.bind (compCode Try.prog Try.f109.ntmps news) = some s_packet_role := by kernel_rfl
theorem r_packet_role : Try.f109.results.toList.mapM (compRes Try.prog) = some [(.tmp 2)] := by kernel_rfl
theorem n_packet_role : Try.f109.ntmps = 9 := by kernel_rfl
theorem b_packet_role : (Try.prog.funcs[109]?).any (fun fn => fn.body.isSome && !(fn.name == "runtime.NumGoroutine")) = true := by kernel_rfl
theorem ko_packet_role {args : List ASlot} {r : ASlot} {objs objs' : List AObj} (h : AWp Try.prog objs.length s_packet_role (bodyQ objs.length [(.tmp 2)] [r] objs') (entrySt args objs)) (hN : args.length ≤ 9 := by simp) (hw : ltB 16 (toksOf args ++ osToks objs) = true := by rfl) : ACall Try.prog 109 args objs r objs' :=
  acall_go (rs := [r]) follows Try.func109 c_packet_role r_packet_role h (by rw [n_packet_role]; exact hN) rfl hw
theorem k_packet_role {args : List ASlot} {r : ASlot} (h : AWp Try.prog 0 s_packet_role (bodyQ 0 [(.tmp 2)] [r] []) (entrySt args [])) (hN : args.length ≤ 9 := by simp) (hw : ltB 16 (toksOf args ++ osToks []) = true := by rfl) : ACall Try.prog 109 args [] r [] := ko_packet_role h hN hw

noncomputable def s_packet_proper_r0 : List SOper := [
  ⟨(some 1), .box 1 (.t 0), none⟩,
  ⟨(some 2), .mov (.k (.d (.bool false))), none⟩]
noncomputable def s_packet_proper_r1 : List SOper := [
  ⟨(some 3), .faddr 0 (.t 1), none⟩,
  ⟨(some 4), .load none (.t 3), none⟩]
noncomputable def s_packet_proper_r2 : List SOper := [
  ⟨(some 6), .bin .eql (.t 4) (.k (.d (.int .i64 1))), none⟩,
  ⟨(some 5), .mov (.t 6), none⟩]
noncomputable def s_packet_proper_r3 : List SOper := [
  ⟨(some 7), .faddr 2 (.t 1), none⟩,
  ⟨(some 8), .load none (.t 7), none⟩,
  ⟨(some 9), .bin .eql (.t 8) (.k (.d (.str []))), none⟩,
  ⟨(some 2), .mov (.t 9), none⟩]
noncomputable def s_packet_proper_r4 : List SOper := [
  ⟨(some 11), .bin .eql (.t 4) (.k (.d (.int .i64 2))), none⟩,
  ⟨(some 10), .mov (.t 11), none⟩]
noncomputable def s_packet_proper_r5 : List SOper := [
  ⟨(some 12), .faddr 1 (.t 1), none⟩,
  ⟨(some 13), .load none (.t 12), none⟩,
  ⟨(some 14), .bin .eql (.t 13) (.k (.d (.int .i64 0))), none⟩,
  ⟨(some 15), .mov (.t 14), none⟩,
  ⟨(some 16), .faddr 2 (.t 1), (some (15, true))⟩,
  ⟨(some 17), .load none (.t 16), (some (15, true))⟩,
  ⟨(some 18), .lenS (.t 17), (some (15, true))⟩,
  ⟨(some 19), .bin .leq (.t 18) (.k (.d (.int .i64 40))), (some (15, true))⟩,
  ⟨(some 20), .pick (.t 15) (.t 19) (.k (.d (.bool false))), none⟩,
  ⟨(some 2), .mov (.t 20), none⟩]
noncomputable def s_packet_proper_r6 : List SOper := [
  ⟨(some 2), .mov (.k (.d (.bool false))), none⟩]
noncomputable def s_packet_proper : SCode := (.seq (.region s_packet_proper_r0 1 []) (.seq (.seq (.region s_packet_proper_r1 0 []) (.block 0 (.seq (.region s_packet_proper_r2 0 []) (.cond (.t 5) (.seq (.region s_packet_proper_r3 0 []) .ret) (.seq (.region s_packet_proper_r4 0 []) (.cond (.t 10) (.seq (.region s_packet_proper_r5 0 []) .ret) .skip)))))) (.seq (.region s_packet_proper_r6 0 []) .ret)))
theorem e_packet_proper {P : Program} {k0 : Nat} {Q : SExit → St → Prop} {st : St} : AWp P k0 s_packet_proper Q st = AWp P k0 (.seq (.region s_packet_proper_r0 1 []) (.seq (.seq (.region s_packet_proper_r1 0 []) (.block 0 (.seq (.region s_packet_proper_r2 0 []) (.cond (.t 5) (.seq (.region s_packet_proper_r3 0 []) .ret) (.seq (.region s_packet_proper_r4 0 []) (.cond (.t 10) (.seq (.region s_packet_proper_r5 0 []) .ret) .skip)))))) (.seq (.region s_packet_proper_r6 0 []) .ret))) Q st := rfl
theorem u_packet_proper_r0 {P : Program} {o : Nat} {p : List (Nat × Nat)} {Q : SExit → St → Prop} {st : St} : goReg P s_packet_proper_r0 o p Q st = goLit P (litOf s_packet_proper_r0.eq_1) o p Q st := goReg_of _
theorem u_packet_proper_r1 {P : Program} {o : Nat} {p : List (Nat × Nat)} {Q : SExit → St → Prop} {st : St} : goReg P s_packet_proper_r1 o p Q st = goLit P (litOf s_packet_proper_r1.eq_1) o p Q st := goReg_of _
theorem u_packet_proper_r2 {P : Program} {o : Nat} {p : List (Nat × Nat)} {Q : SExit → St → Prop} {st : St} : goReg P s_packet_proper_r2 o p Q st = goLit P (litOf s_packet_proper_r2.eq_1) o p Q st := goReg_of _
theorem u_packet_proper_r3 {P : Program} {o : Nat} {p : List (Nat × Nat)} {Q : SExit → St → Prop} {st : St} : goReg P s_packet_proper_r3 o p Q st = goLit P (litOf s_packet_proper_r3.eq_1) o p Q st := goReg_of _
theorem u_packet_proper_r4 {P : Program} {o : Nat} {p : List (Nat × Nat)} {Q : SExit → St → Prop} {st : St} : goReg P s_packet_proper_r4 o p Q st = goLit P (litOf s_packet_proper_r4.eq_1) o p Q st := goReg_of _
theorem u_packet_proper_r5 {P : Program} {o : Nat} {p : List (Nat × Nat)} {Q : SExit → St → Prop} {st : St} : goReg P s_packet_proper_r5 o p Q st = goLit P (litOf s_packet_proper_r5.eq_1) o p Q st := goReg_of _
theorem u_packet_proper_r6 {P : Program} {o : Nat} {p : List (Nat × Nat)} {Q : SExit → St → Prop} {st : St} : goReg P s_packet_proper_r6 o p Q st = goLit P (litOf s_packet_proper_r6.eq_1) o p Q st := goReg_of _
attribute [go_sem] u_packet_proper_r0 u_packet_proper_r1 u_packet_proper_r2 u_packet_proper_r3 u_packet_proper_r4 u_packet_proper_r5 u_packet_proper_r6 e_packet_proper
set_option maxRecDepth 100000 in
theorem c_packet_proper : Try.f105.body.bind (compCode Try.prog Try.f105.ntmps news) = some s_packet_proper := by kernel_rfl
theorem r_packet_proper : Try.f105.results.toList.mapM (compRes Try.prog) = some [(.tmp 2)] := by kernel_rfl
theorem n_packet_proper : Try.f105.ntmps = 21 := by kernel_rfl
theorem b_packet_proper : (Try.prog.funcs[105]?).any (fun fn => fn.body.isSome && !(fn.name == "runtime.NumGoroutine")) = true := by kernel_rfl
theorem ko_packet_proper {args : List ASlot} {r : ASlot} {objs objs' : List AObj} (h : AWp Try.prog objs.length s_packet_proper (bodyQ objs.length [(.tmp 2)] [r] objs') (entrySt args objs)) (hN : args.length ≤ 21 := by simp) (hw : ltB 16 (toksOf args ++ osToks objs) = true := by rfl) : ACall Try.prog 105 args objs r objs' :=
  acall_go (rs := [r]) follows Try.func105 c_packet_proper r_packet_proper h (by rw [n_packet_proper]; exact hN) rfl hw
theorem k_packet_proper {args : List ASlot} {r : ASlot} (h : AWp Try.prog 0 s_packet_proper (bodyQ 0 [(.tmp 2)] [r] []) (entrySt args [])) (hN : args.length ≤ 21 := by simp) (hw : ltB 16 (toksOf args ++ osToks []) = true := by rfl) : ACall Try.prog 105 args [] r [] := ko_packet_proper h hN hw

noncomputable def s__packet_Packet__numbered_r0 : List SOper := [
  ⟨(some 1), .box 1 (.t 0), none⟩,
  ⟨(some 2), .mov (.k (.d (.bool false))), none⟩]
noncomputable def s__packet_Packet__numbered_r1 : List SOper := [
  ⟨(some 3), .faddr 3 (.t 1), none⟩,
  ⟨(some 4), .load none (.t 3), none⟩,
  ⟨(some 5), .call (.k (.d (.func (.func 109) [] []))) [(.t 4)], none⟩,
  ⟨(some 6), .mov (.t 5), none⟩,
  ⟨(some 7), .faddr 4 (.t 1), (some (6, true))⟩,
  ⟨(some 8), .load none (.t 7), (some (6, true))⟩,
  ⟨(some 9), .call (.k (.d (.func (.func 109) [] []))) [(.t 8)], (some (6, true))⟩,
  ⟨(some 10), .pick (.t 6) (.t 9) (.k (.d (.bool false))), none⟩,
  ⟨(some 11), .mov (.t 10), none⟩,
  ⟨(some 12), .faddr 3 (.t 1), (some (11, true))⟩,
  ⟨(some 13), .load none (.t 12), (some (11, true))⟩,
  ⟨(some 14), .faddr 4 (.t 1), (some (11, true))⟩,
  ⟨(some 15), .load none (.t 14), (some (11, true))⟩,
  ⟨(some 16), .bin .neq (.t 13) (.t 15), (some (11, true))⟩,
  ⟨(some 17), .pick (.t 11) (.t 16) (.k (.d (.bool false))), none⟩,
  ⟨(some 18), .mov (.t 17), none⟩,
  ⟨(some 19), .faddr 5 (.t 1), (some (18, true))⟩,
  ⟨(some 20), .load none (.t 19), (some (18, true))⟩,
  ⟨(some 21), .bin .geq (.t 20) (.k (.d (.int .i64 1))), (some (18, true))⟩,
  ⟨(some 22), .pick (.t 18) (.t 21) (.k (.d (.bool false))), none⟩,
  ⟨(some 23), .mov (.t 22), none⟩,
  ⟨(some 24), .faddr 5 (.t 1), (some (23, true))⟩,
  ⟨(some 25), .load none (.t 24), (some (23, true))⟩,
  ⟨(some 26), .bin .leq (.t 25) (.k (.d (.int .i64 1099511627776))), (some (23, true))⟩,
  ⟨(some 27), .pick (.t 23) (.t 26) (.k (.d (.bool false))), none⟩,
  ⟨(some 2), .mov (.t 27), none⟩]
noncomputable def s__packet_Packet__numbered : SCode := (.seq (.region s__packet_Packet__numbered_r0 1 []) (.seq (.region s__packet_Packet__numbered_r1 0 []) .ret))
theorem e__packet_Packet__numbered {P : Program} {k0 : Nat} {Q : SExit → St → Prop} {st : St} : AWp P k0 s__packet_Packet__numbered Q st = AWp P k0 (.seq (.region s__packet_Packet__numbered_r0 1 []) (.seq (.region s__packet_Packet__numbered_r1 0 []) .ret)) Q st := rfl
theorem u__packet_Packet__numbered_r0 {P : Program} {o : Nat} {p : List (Nat × Nat)} {Q : SExit → St → Prop} {st : St} : goReg P s__packet_Packet__numbered_r0 o p Q st = goLit P (litOf s__packet_Packet__numbered_r0.eq_1) o p Q st := goReg_of _
theorem u__packet_Packet__numbered_r1 {P : Program} {o : Nat} {p : List (Nat × Nat)} {Q : SExit → St → Prop} {st : St} : goReg P s__packet_Packet__numbered_r1 o p Q st = goLit P (litOf s__packet_Packet__numbered_r1.eq_1) o p Q st := goReg_of _
attribute [go_sem] u__packet_Packet__numbered_r0 u__packet_Packet__numbered_r1 e__packet_Packet__numbered
set_option maxRecDepth 100000 in
theorem c__packet_Packet__numbered : Try.f102.body.bind (compCode Try.prog Try.f102.ntmps news) = some s__packet_Packet__numbered := by kernel_rfl
theorem r__packet_Packet__numbered : Try.f102.results.toList.mapM (compRes Try.prog) = some [(.tmp 2)] := by kernel_rfl
theorem n__packet_Packet__numbered : Try.f102.ntmps = 28 := by kernel_rfl
theorem b__packet_Packet__numbered : (Try.prog.funcs[102]?).any (fun fn => fn.body.isSome && !(fn.name == "runtime.NumGoroutine")) = true := by kernel_rfl
theorem ko__packet_Packet__numbered {args : List ASlot} {r : ASlot} {objs objs' : List AObj} (h : AWp Try.prog objs.length s__packet_Packet__numbered (bodyQ objs.length [(.tmp 2)] [r] objs') (entrySt args objs)) (hN : args.length ≤ 28 := by simp) (hw : ltB 16 (toksOf args ++ osToks objs) = true := by rfl) : ACall Try.prog 102 args objs r objs' :=
  acall_go (rs := [r]) follows Try.func102 c__packet_Packet__numbered r__packet_Packet__numbered h (by rw [n__packet_Packet__numbered]; exact hN) rfl hw
theorem k__packet_Packet__numbered {args : List ASlot} {r : ASlot} (h : AWp Try.prog 0 s__packet_Packet__numbered (bodyQ 0 [(.tmp 2)] [r] []) (entrySt args [])) (hN : args.length ≤ 28 := by simp) (hw : ltB 16 (toksOf args ++ osToks []) = true := by rfl) : ACall Try.prog 102 args [] r [] := ko__packet_Packet__numbered h hN hw

noncomputable def s__packet_Packet__bare_r0 : List SOper := [
  ⟨(some 1), .box 1 (.t 0), none⟩,
  ⟨(some 2), .mov (.k (.d (.bool false))), none⟩]
noncomputable def s__packet_Packet__bare_r1 : List SOper := [
  ⟨(some 3), .faddr 2 (.t 1), none⟩,
  ⟨(some 4), .load none (.t 3), none⟩,
  ⟨(some 5), .bin .eql (.t 4) (.k (.d (.int .i64 0))), none⟩,
  ⟨(some 6), .mov (.t 5), none⟩,
  ⟨(some 7), .faddr 7 (.t 1), (some (6, true))⟩,
  ⟨(some 8), .load none (.t 7), (some (6, true))⟩,
  ⟨(some 9), .len (.t 8), (some (6, true))⟩,
  ⟨(some 10), .bin .eql (.t 9) (.k (.d (.int .i64 0))), (some (6, true))⟩,
  ⟨(some 11), .pick (.t 6) (.t 10) (.k (.d (.bool false))), none⟩,
  ⟨(some 12), .mov (.t 11), none⟩,
  ⟨(some 13), .faddr 8 (.t 1), (some (12, true))⟩,
  ⟨(some 14), .load none (.t 13), (some (12, true))⟩,
  ⟨(some 15), .len (.t 14), (some (12, true))⟩,
  ⟨(some 16), .bin .eql (.t 15) (.k (.d (.int .i64 0))), (some (12, true))⟩,
  ⟨(some 17), .pick (.t 12) (.t 16) (.k (.d (.bool false))), none⟩,
  ⟨(some 2), .mov (.t 17), none⟩]
noncomputable def s__packet_Packet__bare : SCode := (.seq (.region s__packet_Packet__bare_r0 1 []) (.seq (.region s__packet_Packet__bare_r1 0 []) .ret))
theorem e__packet_Packet__bare {P : Program} {k0 : Nat} {Q : SExit → St → Prop} {st : St} : AWp P k0 s__packet_Packet__bare Q st = AWp P k0 (.seq (.region s__packet_Packet__bare_r0 1 []) (.seq (.region s__packet_Packet__bare_r1 0 []) .ret)) Q st := rfl
theorem u__packet_Packet__bare_r0 {P : Program} {o : Nat} {p : List (Nat × Nat)} {Q : SExit → St → Prop} {st : St} : goReg P s__packet_Packet__bare_r0 o p Q st = goLit P (litOf s__packet_Packet__bare_r0.eq_1) o p Q st := goReg_of _
theorem u__packet_Packet__bare_r1 {P : Program} {o : Nat} {p : List (Nat × Nat)} {Q : SExit → St → Prop} {st : St} : goReg P s__packet_Packet__bare_r1 o p Q st = goLit P (litOf s__packet_Packet__bare_r1.eq_1) o p Q st := goReg_of _
attribute [go_sem] u__packet_Packet__bare_r0 u__packet_Packet__bare_r1 e__packet_Packet__bare
set_option maxRecDepth 100000 in
theorem c__packet_Packet__bare : Try.f108.body.bind (compCode Try.prog Try.f108.ntmps news) = some s__packet_Packet__bare := by kernel_rfl
theorem r__packet_Packet__bare : Try.f108.results.toList.mapM (compRes Try.prog) = some [(.tmp 2)] := by kernel_rfl
theorem n__packet_Packet__bare : Try.f108.ntmps = 18 := by kernel_rfl
theorem b__packet_Packet__bare : (Try.prog.funcs[108]?).any (fun fn => fn.body.isSome && !(fn.name == "runtime.NumGoroutine")) = true := by kernel_rfl
theorem ko__packet_Packet__bare {args : List ASlot} {r : ASlot} {objs objs' : List AObj} (h : AWp Try.prog objs.length s__packet_Packet__bare (bodyQ objs.length [(.tmp 2)] [r] objs') (entrySt args objs)) (hN : args.length ≤ 18 := by simp) (hw : ltB 16 (toksOf args ++ osToks objs) = true := by rfl) : ACall Try.prog 108 args objs r objs' :=
  acall_go (rs := [r]) follows Try.func108 c__packet_Packet__bare r__packet_Packet__bare h (by rw [n__packet_Packet__bare]; exact hN) rfl hw
theorem k__packet_Packet__bare {args : List ASlot} {r : ASlot} (h : AWp Try.prog 0 s__packet_Packet__bare (bodyQ 0 [(.tmp 2)] [r] []) (entrySt args [])) (hN : args.length ≤ 18 := by simp) (hw : ltB 16 (toksOf args ++ osToks []) = true := by rfl) : ACall Try.prog 108 args [] r [] := ko__packet_Packet__bare h hN hw

noncomputable def s__packet_Packet__ack_r0 : List SOper := [
  ⟨(some 1), .box 1 (.t 0), none⟩,
  ⟨(some 2), .mov (.k (.d (.bool false))), none⟩]
noncomputable def s__packet_Packet__ack_r1 : List SOper := [
  ⟨(some 3), .load (some 9) (.t 1), none⟩,
  ⟨(some 4), .call (.k (.d (.func (.func 102) [] []))) [(.t 3)], none⟩,
  ⟨(some 5), .mov (.t 4), none⟩,
  ⟨(some 6), .load (some 9) (.t 1), (some (5, true))⟩,
  ⟨(some 7), .call (.k (.d (.func (.func 108) [] []))) [(.t 6)], (some (5, true))⟩,
  ⟨(some 8), .pick (.t 5) (.t 7) (.k (.d (.bool false))), none⟩,
  ⟨(some 9), .mov (.t 8), none⟩,
  ⟨(some 10), .faddr 6 (.t 1), (some (9, true))⟩,
  ⟨(some 11), .load none (.t 10), (some (9, true))⟩,
  ⟨(some 12), .bin .eql (.t 11) (.k (.d (.int .i64 0))), (some (9, true))⟩,
  ⟨(some 13), .pick (.t 9) (.t 12) (.k (.d (.bool false))), none⟩,
  ⟨(some 2), .mov (.t 13), none⟩]
noncomputable def s__packet_Packet__ack : SCode := (.seq (.region s__packet_Packet__ack_r0 1 []) (.seq (.region s__packet_Packet__ack_r1 0 []) .ret))
theorem e__packet_Packet__ack {P : Program} {k0 : Nat} {Q : SExit → St → Prop} {st : St} : AWp P k0 s__packet_Packet__ack Q st = AWp P k0 (.seq (.region s__packet_Packet__ack_r0 1 []) (.seq (.region s__packet_Packet__ack_r1 0 []) .ret)) Q st := rfl
theorem u__packet_Packet__ack_r0 {P : Program} {o : Nat} {p : List (Nat × Nat)} {Q : SExit → St → Prop} {st : St} : goReg P s__packet_Packet__ack_r0 o p Q st = goLit P (litOf s__packet_Packet__ack_r0.eq_1) o p Q st := goReg_of _
theorem u__packet_Packet__ack_r1 {P : Program} {o : Nat} {p : List (Nat × Nat)} {Q : SExit → St → Prop} {st : St} : goReg P s__packet_Packet__ack_r1 o p Q st = goLit P (litOf s__packet_Packet__ack_r1.eq_1) o p Q st := goReg_of _
attribute [go_sem] u__packet_Packet__ack_r0 u__packet_Packet__ack_r1 e__packet_Packet__ack
set_option maxRecDepth 100000 in
theorem c__packet_Packet__ack : Try.f81.body.bind (compCode Try.prog Try.f81.ntmps news) = some s__packet_Packet__ack := by kernel_rfl
theorem r__packet_Packet__ack : Try.f81.results.toList.mapM (compRes Try.prog) = some [(.tmp 2)] := by kernel_rfl
theorem n__packet_Packet__ack : Try.f81.ntmps = 14 := by kernel_rfl
theorem b__packet_Packet__ack : (Try.prog.funcs[81]?).any (fun fn => fn.body.isSome && !(fn.name == "runtime.NumGoroutine")) = true := by kernel_rfl
theorem ko__packet_Packet__ack {args : List ASlot} {r : ASlot} {objs objs' : List AObj} (h : AWp Try.prog objs.length s__packet_Packet__ack (bodyQ objs.length [(.tmp 2)] [r] objs') (entrySt args objs)) (hN : args.length ≤ 14 := by simp) (hw : ltB 16 (toksOf args ++ osToks objs) = true := by rfl) : ACall Try.prog 81 args objs r objs' :=
  acall_go (rs := [r]) follows Try.func81 c__packet_Packet__ack r__packet_Packet__ack h (by rw [n__packet_Packet__ack]; exact hN) rfl hw
theorem k__packet_Packet__ack {args : List ASlot} {r : ASlot} (h : AWp Try.prog 0 s__packet_Packet__ack (bodyQ 0 [(.tmp 2)] [r] []) (entrySt args [])) (hN : args.length ≤ 14 := by simp) (hw : ltB 16 (toksOf args ++ osToks []) = true := by rfl) : ACall Try.prog 81 args [] r [] := ko__packet_Packet__ack h hN hw

noncomputable def s__packet_Packet__order_r0 : List SOper := [
  ⟨(some 1), .box 1 (.t 0), none⟩,
  ⟨(some 2), .mov (.k (.d (.bool false))), none⟩]
noncomputable def s__packet_Packet__order_r1 : List SOper := [
  ⟨(some 3), .faddr 3 (.t 1), none⟩,
  ⟨(some 4), .load none (.t 3), none⟩,
  ⟨(some 5), .call (.k (.d (.func (.func 109) [] []))) [(.t 4)], none⟩,
  ⟨(some 6), .mov (.t 5), none⟩,
  ⟨(some 7), .faddr 6 (.t 1), (some (6, true))⟩,
  ⟨(some 8), .load none (.t 7), (some (6, true))⟩,
  ⟨(some 9), .bin .eql (.t 8) (.k (.d (.int .i64 1))), (some (6, true))⟩,
  ⟨(some 10), .mov (.t 9), (some (6, true))⟩,
  ⟨(some 11), .faddr 6 (.t 1), (some (10, false))⟩,
  ⟨(some 12), .load none (.t 11), (some (10, false))⟩,
  ⟨(some 13), .bin .eql (.t 12) (.k (.d (.int .i64 2))), (some (10, false))⟩,
  ⟨(some 14), .pick (.t 10) (.k (.d (.bool true))) (.t 13), (some (6, true))⟩,
  ⟨(some 15), .pick (.t 6) (.t 14) (.k (.d (.bool false))), none⟩,
  ⟨(some 16), .mov (.t 15), none⟩,
  ⟨(some 17), .load (some 9) (.t 1), (some (16, true))⟩,
  ⟨(some 18), .call (.k (.d (.func (.func 108) [] []))) [(.t 17)], (some (16, true))⟩,
  ⟨(some 19), .pick (.t 16) (.t 18) (.k (.d (.bool false))), none⟩,
  ⟨(some 20), .mov (.t 19), none⟩,
  ⟨(some 21), .faddr 4 (.t 1), (some (20, true))⟩,
  ⟨(some 22), .load none (.t 21), (some (20, true))⟩,
  ⟨(some 23), .bin .eql (.t 22) (.k (.d (.int .i64 0))), (some (20, true))⟩,
  ⟨(some 24), .pick (.t 20) (.t 23) (.k (.d (.bool false))), none⟩,
  ⟨(some 25), .mov (.t 24), none⟩,
  ⟨(some 26), .faddr 5 (.t 1), (some (25, true))⟩,
  ⟨(some 27), .load none (.t 26), (some (25, true))⟩,
  ⟨(some 28), .bin .eql (.t 27) (.k (.d (.int .i64 0))), (some (25, true))⟩,
  ⟨(some 29), .pick (.t 25) (.t 28) (.k (.d (.bool false))), none⟩,
  ⟨(some 2), .mov (.t 29), none⟩]
noncomputable def s__packet_Packet__order : SCode := (.seq (.region s__packet_Packet__order_r0 1 []) (.seq (.region s__packet_Packet__order_r1 0 []) .ret))
theorem e__packet_Packet__order {P : Program} {k0 : Nat} {Q : SExit → St → Prop} {st : St} : AWp P k0 s__packet_Packet__order Q st = AWp P k0 (.seq (.region s__packet_Packet__order_r0 1 []) (.seq (.region s__packet_Packet__order_r1 0 []) .ret)) Q st := rfl
theorem u__packet_Packet__order_r0 {P : Program} {o : Nat} {p : List (Nat × Nat)} {Q : SExit → St → Prop} {st : St} : goReg P s__packet_Packet__order_r0 o p Q st = goLit P (litOf s__packet_Packet__order_r0.eq_1) o p Q st := goReg_of _
theorem u__packet_Packet__order_r1 {P : Program} {o : Nat} {p : List (Nat × Nat)} {Q : SExit → St → Prop} {st : St} : goReg P s__packet_Packet__order_r1 o p Q st = goLit P (litOf s__packet_Packet__order_r1.eq_1) o p Q st := goReg_of _
attribute [go_sem] u__packet_Packet__order_r0 u__packet_Packet__order_r1 e__packet_Packet__order
set_option maxRecDepth 100000 in
theorem c__packet_Packet__order : Try.f82.body.bind (compCode Try.prog Try.f82.ntmps news) = some s__packet_Packet__order := by kernel_rfl
theorem r__packet_Packet__order : Try.f82.results.toList.mapM (compRes Try.prog) = some [(.tmp 2)] := by kernel_rfl
theorem n__packet_Packet__order : Try.f82.ntmps = 30 := by kernel_rfl
theorem b__packet_Packet__order : (Try.prog.funcs[82]?).any (fun fn => fn.body.isSome && !(fn.name == "runtime.NumGoroutine")) = true := by kernel_rfl
theorem ko__packet_Packet__order {args : List ASlot} {r : ASlot} {objs objs' : List AObj} (h : AWp Try.prog objs.length s__packet_Packet__order (bodyQ objs.length [(.tmp 2)] [r] objs') (entrySt args objs)) (hN : args.length ≤ 30 := by simp) (hw : ltB 16 (toksOf args ++ osToks objs) = true := by rfl) : ACall Try.prog 82 args objs r objs' :=
  acall_go (rs := [r]) follows Try.func82 c__packet_Packet__order r__packet_Packet__order h (by rw [n__packet_Packet__order]; exact hN) rfl hw
theorem k__packet_Packet__order {args : List ASlot} {r : ASlot} (h : AWp Try.prog 0 s__packet_Packet__order (bodyQ 0 [(.tmp 2)] [r] []) (entrySt args [])) (hN : args.length ≤ 30 := by simp) (hw : ltB 16 (toksOf args ++ osToks []) = true := by rfl) : ACall Try.prog 82 args [] r [] := ko__packet_Packet__order h hN hw

noncomputable def s__packet_Packet__data_1_r0 : List SOper := [
  ⟨(some 1), .box 1 (.t 0), none⟩,
  ⟨(some 2), .mov (.k (.d (.bool false))), none⟩]
noncomputable def s__packet_Packet__data_1_r1 : List SOper := [
  ⟨(some 3), .load (some 3) (.t 1), none⟩,
  ⟨(some 4), .call (.k (.d (.func (.func 105) [] []))) [(.t 3)], none⟩,
  ⟨(some 5), .not (.t 4), none⟩,
  ⟨(some 2), .mov (.t 5), none⟩]
noncomputable def s__packet_Packet__data_1 : SCode := (.seq (.region s__packet_Packet__data_1_r0 1 []) (.seq (.region s__packet_Packet__data_1_r1 0 []) .ret))
theorem e__packet_Packet__data_1 {P : Program} {k0 : Nat} {Q : SExit → St → Prop} {st : St} : AWp P k0 s__packet_Packet__data_1 Q st = AWp P k0 (.seq (.region s__packet_Packet__data_1_r0 1 []) (.seq (.region s__packet_Packet__data_1_r1 0 []) .ret)) Q st := rfl
theorem u__packet_Packet__data_1_r0 {P : Program} {o : Nat} {p : List (Nat × Nat)} {Q : SExit → St → Prop} {st : St} : goReg P s__packet_Packet__data_1_r0 o p Q st = goLit P (litOf s__packet_Packet__data_1_r0.eq_1) o p Q st := goReg_of _
theorem u__packet_Packet__data_1_r1 {P : Program} {o : Nat} {p : List (Nat × Nat)} {Q : SExit → St → Prop} {st : St} : goReg P s__packet_Packet__data_1_r1 o p Q st = goLit P (litOf s__packet_Packet__data_1_r1.eq_1) o p Q st := goReg_of _
attribute [go_sem] u__packet_Packet__data_1_r0 u__packet_Packet__data_1_r1 e__packet_Packet__data_1
set_option maxRecDepth 100000 in
theorem c__packet_Packet__data_1 : Try.f104.body.bind (compCode Try.prog Try.f104.ntmps news) = some s__packet_Packet__data_1 := by kernel_rfl
theorem r__packet_Packet__data_1 : Try.f104.results.toList.mapM (compRes Try.prog) = some [(.tmp 2)] := by kernel_rfl
theorem n__packet_Packet__data_1 : Try.f104.ntmps = 6 := by kernel_rfl
theorem b__packet_Packet__data_1 : (Try.prog.funcs[104]?).any (fun fn => fn.body.isSome && !(fn.name == "runtime.NumGoroutine")) = true := by kernel_rfl
theorem ko__packet_Packet__data_1 {args : List ASlot} {r : ASlot} {objs objs' : List AObj} (h : AWp Try.prog objs.length s__packet_Packet__data_1 (bodyQ objs.length [(.tmp 2)] [r] objs') (entrySt args objs)) (hN : args.length ≤ 6 := by simp) (hw : ltB 16 (toksOf args ++ osToks objs) = true := by rfl) : ACall Try.prog 104 args objs r objs' :=
  acall_go (rs := [r]) follows Try.func104 c__packet_Packet__data_1 r__packet_Packet__data_1 h (by rw [n__packet_Packet__data_1]; exact hN) rfl hw
theorem k__packet_Packet__data_1 {args : List ASlot} {r : ASlot} (h : AWp Try.prog 0 s__packet_Packet__data_1 (bodyQ 0 [(.tmp 2)] [r] []) (entrySt args [])) (hN : args.length ≤ 6 := by simp) (hw : ltB 16 (toksOf args ++ osToks []) = true := by rfl) : ACall Try.prog 104 args [] r [] := ko__packet_Packet__data_1 h hN hw

noncomputable def s__packet_Packet__data_2_r0 : List SOper := [
  ⟨(some 2), .mov (.k (.d (.bool false))), none⟩]
noncomputable def s__packet_Packet__data_2_r1 : List SOper := [
  ⟨(some 3), .mov (.t 0), none⟩,
  ⟨(some 4), .bin .lss (.t 3) (.k (.d (.int .i64 0))), none⟩,
  ⟨(some 5), .mov (.t 4), none⟩,
  ⟨(some 6), .mov (.t 0), (some (5, false))⟩,
  ⟨(some 7), .bin .gtr (.t 6) (.k (.d (.int .i64 1099511627776))), (some (5, false))⟩,
  ⟨(some 8), .pick (.t 5) (.k (.d (.bool true))) (.t 7), none⟩,
  ⟨(some 2), .mov (.t 8), none⟩]
noncomputable def s__packet_Packet__data_2 : SCode := (.seq (.region s__packet_Packet__data_2_r0 0 []) (.seq (.region s__packet_Packet__data_2_r1 0 []) .ret))
theorem e__packet_Packet__data_2 {P : Program} {k0 : Nat} {Q : SExit → St → Prop} {st : St} : AWp P k0 s__packet_Packet__data_2 Q st = AWp P k0 (.seq (.region s__packet_Packet__data_2_r0 0 []) (.seq (.region s__packet_Packet__data_2_r1 0 []) .ret)) Q st := rfl
theorem u__packet_Packet__data_2_r0 {P : Program} {o : Nat} {p : List (Nat × Nat)} {Q : SExit → St → Prop} {st : St} : goReg P s__packet_Packet__data_2_r0 o p Q st = goLit P (litOf s__packet_Packet__data_2_r0.eq_1) o p Q st := goReg_of _
theorem u__packet_Packet__data_2_r1 {P : Program} {o : Nat} {p : List (Nat × Nat)} {Q : SExit → St → Prop} {st : St} : goReg P s__packet_Packet__data_2_r1 o p Q st = goLit P (litOf s__packet_Packet__data_2_r1.eq_1) o p Q st := goReg_of _
attribute [go_sem] u__packet_Packet__data_2_r0 u__packet_Packet__data_2_r1 e__packet_Packet__data_2
set_option maxRecDepth 100000 in
theorem c__packet_Packet__data_2 : Try.f107.body.bind (compCode Try.prog Try.f107.ntmps news) = some s__packet_Packet__data_2 := by kernel_rfl
theorem r__packet_Packet__data_2 : Try.f107.results.toList.mapM (compRes Try.prog) = some [(.tmp 2)] := by kernel_rfl
theorem n__packet_Packet__data_2 : Try.f107.ntmps = 9 := by kernel_rfl
theorem b__packet_Packet__data_2 : (Try.prog.funcs[107]?).any (fun fn => fn.body.isSome && !(fn.name == "runtime.NumGoroutine")) = true := by kernel_rfl
theorem ko__packet_Packet__data_2 {args : List ASlot} {r : ASlot} {objs objs' : List AObj} (h : AWp Try.prog objs.length s__packet_Packet__data_2 (bodyQ objs.length [(.tmp 2)] [r] objs') (entrySt args objs)) (hN : args.length ≤ 9 := by simp) (hw : ltB 16 (toksOf args ++ osToks objs) = true := by rfl) : ACall Try.prog 107 args objs r objs' :=
  acall_go (rs := [r]) follows Try.func107 c__packet_Packet__data_2 r__packet_Packet__data_2 h (by rw [n__packet_Packet__data_2]; exact hN) rfl hw
theorem k__packet_Packet__data_2 {args : List ASlot} {r : ASlot} (h : AWp Try.prog 0 s__packet_Packet__data_2 (bodyQ 0 [(.tmp 2)] [r] []) (entrySt args [])) (hN : args.length ≤ 9 := by simp) (hw : ltB 16 (toksOf args ++ osToks []) = true := by rfl) : ACall Try.prog 107 args [] r [] := ko__packet_Packet__data_2 h hN hw



def role (n : Int) : Bool := decide (n ≥ 0) && decide (n < 6)

theorem role_ok (n : Int) : ACall Try.prog 109 [.d (.int .i64 n)] [] (.d (.bool (role n))) [] := by
  refine k_packet_role ?_
  simp only [e_packet_role, go_sem, Nat.reduceAdd, Nat.reduceMul, Nat.reduceSub, Nat.reduceEqDiff, Nat.reduceLT, Nat.reduceLeDiff, Nat.reduceBEq, reduceIte, reduceCtorEq, Int.reduceAdd, Int.reduceLT, Int.reduceLE, Int.reduceGT, Int.reduceGE, Int.reduceEq, Int.reduceNe, Int.reduceBEq, Int.reduceBNe, Int.reduceToNat, Int.reduceNeg]
  rfl

def proper (v : AV) : Bool := if v.kind == 1 then v.s == [] else if v.kind == 2 then v.n == 0 && decide ((v.s.length : Int) ≤ 40) else false

theorem proper_ok (v : AV) : ACall Try.prog 105 [.d (.agg (encAV v))] [] (.d (.bool (proper v))) [] := by
  refine k_packet_proper ?_
  simp only [e_packet_proper, encAV, go_sem, Nat.reduceAdd, Nat.reduceMul, Nat.reduceSub, Nat.reduceEqDiff, Nat.reduceLT, Nat.reduceLeDiff, Nat.reduceBEq, reduceIte, reduceCtorEq, Int.reduceAdd, Int.reduceLT, Int.reduceLE, Int.reduceGT, Int.reduceGE, Int.reduceEq, Int.reduceNe, Int.reduceBEq, Int.reduceBNe, Int.reduceToNat, Int.reduceNeg]
  refine AWp_cond _ rfl rfl (fun h => ?_) (fun h => ?_)
  · simp only [proper, h, go_sem, Nat.reduceAdd, Nat.reduceMul, Nat.reduceSub, Nat.reduceEqDiff, Nat.reduceLT, Nat.reduceLeDiff, Nat.reduceBEq, reduceIte, reduceCtorEq, Int.reduceAdd, Int.reduceLT, Int.reduceLE, Int.reduceGT, Int.reduceGE, Int.reduceEq, Int.reduceNe, Int.reduceBEq, Int.reduceBNe, Int.reduceToNat, Int.reduceNeg]
  · simp only [go_sem, Nat.reduceAdd, Nat.reduceMul, Nat.reduceSub, Nat.reduceEqDiff, Nat.reduceLT, Nat.reduceLeDiff, Nat.reduceBEq, reduceIte, reduceCtorEq, Int.reduceAdd, Int.reduceLT, Int.reduceLE, Int.reduceGT, Int.reduceGE, Int.reduceEq, Int.reduceNe, Int.reduceBEq, Int.reduceBNe, Int.reduceToNat, Int.reduceNeg]
    refine AWp_cond _ rfl rfl (fun h2 => ?_) (fun h2 => ?_)
    · simp only [proper, h, h2, go_sem, Nat.reduceAdd, Nat.reduceMul, Nat.reduceSub, Nat.reduceEqDiff, Nat.reduceLT, Nat.reduceLeDiff, Nat.reduceBEq, reduceIte, reduceCtorEq, Int.reduceAdd, Int.reduceLT, Int.reduceLE, Int.reduceGT, Int.reduceGE, Int.reduceEq, Int.reduceNe, Int.reduceBEq, Int.reduceBNe, Int.reduceToNat, Int.reduceNeg]
    · simp only [proper, h, h2, go_sem, Nat.reduceAdd, Nat.reduceMul, Nat.reduceSub, Nat.reduceEqDiff, Nat.reduceLT, Nat.reduceLeDiff, Nat.reduceBEq, reduceIte, reduceCtorEq, Int.reduceAdd, Int.reduceLT, Int.reduceLE, Int.reduceGT, Int.reduceGE, Int.reduceEq, Int.reduceNe, Int.reduceBEq, Int.reduceBNe, Int.reduceToNat, Int.reduceNeg]

def numbered (p : Pk) : Bool := role p.from_ && role p.to && p.from_ != p.to && decide (p.seq ≥ 1) && decide (p.seq ≤ 1099511627776)

theorem numbered_ok (p : Pk) : ACall Try.prog 102 [.d (.agg (encPk p))] [] (.d (.bool (numbered p))) [] := by
  refine k__packet_Packet__numbered ?_
  simp only [e__packet_Packet__numbered, encPk, go_sem, Nat.reduceAdd, Nat.reduceMul, Nat.reduceSub, Nat.reduceEqDiff, Nat.reduceLT, Nat.reduceLeDiff, Nat.reduceBEq, reduceIte, reduceCtorEq, Int.reduceAdd, Int.reduceLT, Int.reduceLE, Int.reduceGT, Int.reduceGE, Int.reduceEq, Int.reduceNe, Int.reduceBEq, Int.reduceBNe, Int.reduceToNat, Int.reduceNeg]
  refine callO_pure (role_ok _) b_packet_role (fun h => h) (fun _ => ⟨matchA_refl, trivial⟩) rfl rfl rfl ?_
  simp only [go_sem, Nat.reduceAdd, Nat.reduceMul, Nat.reduceSub, Nat.reduceEqDiff, Nat.reduceLT, Nat.reduceLeDiff, Nat.reduceBEq, reduceIte, reduceCtorEq, Int.reduceAdd, Int.reduceLT, Int.reduceLE, Int.reduceGT, Int.reduceGE, Int.reduceEq, Int.reduceNe, Int.reduceBEq, Int.reduceBNe, Int.reduceToNat, Int.reduceNeg]
  refine callO_pure (role_ok _) b_packet_role (fun h => h) (fun _ => ⟨matchA_refl, trivial⟩) rfl rfl rfl ?_
  simp only [go_sem, Nat.reduceAdd, Nat.reduceMul, Nat.reduceSub, Nat.reduceEqDiff, Nat.reduceLT, Nat.reduceLeDiff, Nat.reduceBEq, reduceIte, reduceCtorEq, Int.reduceAdd, Int.reduceLT, Int.reduceLE, Int.reduceGT, Int.reduceGE, Int.reduceEq, Int.reduceNe, Int.reduceBEq, Int.reduceBNe, Int.reduceToNat, Int.reduceNeg]
  rfl

def bare (p : Pk) : Bool := p.epoch == 0 && (p.values.length : Int) == 0 && (p.clock.length : Int) == 0

theorem bare_ok (p : Pk) : ACall Try.prog 108 [.d (.agg (encPk p))] [] (.d (.bool (bare p))) [] := by
  refine k__packet_Packet__bare ?_
  simp only [e__packet_Packet__bare, encPk, go_sem, Nat.reduceAdd, Nat.reduceMul, Nat.reduceSub, Nat.reduceEqDiff, Nat.reduceLT, Nat.reduceLeDiff, Nat.reduceBEq, reduceIte, reduceCtorEq, Int.reduceAdd, Int.reduceLT, Int.reduceLE, Int.reduceGT, Int.reduceGE, Int.reduceEq, Int.reduceNe, Int.reduceBEq, Int.reduceBNe, Int.reduceToNat, Int.reduceNeg]
  rfl

theorem noPtr_pk (p : Pk) : ([ASlot.d (.agg (encPk p))].all ASlot.noPtr) = true := by
  simp only [List.all_cons, List.all_nil, ASlot.noPtr, D.noPtr, encPk_noPtr, Bool.and_self]

def ack (p : Pk) : Bool := numbered p && bare p && p.label == 0

theorem ack_ok (p : Pk) : ACall Try.prog 81 [.d (.agg (encPk p))] [] (.d (.bool (ack p))) [] := by
  refine k__packet_Packet__ack ?_
  simp only [e__packet_Packet__ack, encPk, go_sem, Nat.reduceAdd, Nat.reduceMul, Nat.reduceSub, Nat.reduceEqDiff, Nat.reduceLT, Nat.reduceLeDiff, Nat.reduceBEq, reduceIte, reduceCtorEq, Int.reduceAdd, Int.reduceLT, Int.reduceLE, Int.reduceGT, Int.reduceGE, Int.reduceEq, Int.reduceNe, Int.reduceBEq, Int.reduceBNe, Int.reduceToNat, Int.reduceNeg]
  refine callO_pure (numbered_ok p) b__packet_Packet__numbered (fun h => h) (fun _ => ⟨matchA_refl, trivial⟩) (noPtr_pk p) rfl rfl ?_
  simp only [go_sem, Nat.reduceAdd, Nat.reduceMul, Nat.reduceSub, Nat.reduceEqDiff, Nat.reduceLT, Nat.reduceLeDiff, Nat.reduceBEq, reduceIte, reduceCtorEq, Int.reduceAdd, Int.reduceLT, Int.reduceLE, Int.reduceGT, Int.reduceGE, Int.reduceEq, Int.reduceNe, Int.reduceBEq, Int.reduceBNe, Int.reduceToNat, Int.reduceNeg]
  refine callO_pure (bare_ok p) b__packet_Packet__bare (fun h => h) (fun _ => ⟨matchA_refl, trivial⟩) (noPtr_pk p) rfl rfl ?_
  simp only [go_sem, Nat.reduceAdd, Nat.reduceMul, Nat.reduceSub, Nat.reduceEqDiff, Nat.reduceLT, Nat.reduceLeDiff, Nat.reduceBEq, reduceIte, reduceCtorEq, Int.reduceAdd, Int.reduceLT, Int.reduceLE, Int.reduceGT, Int.reduceGE, Int.reduceEq, Int.reduceNe, Int.reduceBEq, Int.reduceBNe, Int.reduceToNat, Int.reduceNeg]
  rfl

def order (p : Pk) : Bool := role p.from_ && (p.label == 1 || p.label == 2) && bare p && p.to == 0 && p.seq == 0

theorem order_ok (p : Pk) : ACall Try.prog 82 [.d (.agg (encPk p))] [] (.d (.bool (order p))) [] := by
  refine k__packet_Packet__order ?_
  simp only [e__packet_Packet__order, encPk, go_sem, Nat.reduceAdd, Nat.reduceMul, Nat.reduceSub, Nat.reduceEqDiff, Nat.reduceLT, Nat.reduceLeDiff, Nat.reduceBEq, reduceIte, reduceCtorEq, Int.reduceAdd, Int.reduceLT, Int.reduceLE, Int.reduceGT, Int.reduceGE, Int.reduceEq, Int.reduceNe, Int.reduceBEq, Int.reduceBNe, Int.reduceToNat, Int.reduceNeg]
  refine callO_pure (role_ok _) b_packet_role (fun h => h) (fun _ => ⟨matchA_refl, trivial⟩) rfl rfl rfl ?_
  simp only [go_sem, Nat.reduceAdd, Nat.reduceMul, Nat.reduceSub, Nat.reduceEqDiff, Nat.reduceLT, Nat.reduceLeDiff, Nat.reduceBEq, reduceIte, reduceCtorEq, Int.reduceAdd, Int.reduceLT, Int.reduceLE, Int.reduceGT, Int.reduceGE, Int.reduceEq, Int.reduceNe, Int.reduceBEq, Int.reduceBNe, Int.reduceToNat, Int.reduceNeg]
  refine ⟨by simp_all, ?_⟩
  refine callO_pure (bare_ok p) b__packet_Packet__bare (fun h => h) (fun _ => ⟨matchA_refl, trivial⟩) (noPtr_pk p) rfl rfl ?_
  simp only [go_sem, Nat.reduceAdd, Nat.reduceMul, Nat.reduceSub, Nat.reduceEqDiff, Nat.reduceLT, Nat.reduceLeDiff, Nat.reduceBEq, reduceIte, reduceCtorEq, Int.reduceAdd, Int.reduceLT, Int.reduceLE, Int.reduceGT, Int.reduceGE, Int.reduceEq, Int.reduceNe, Int.reduceBEq, Int.reduceBNe, Int.reduceToNat, Int.reduceNeg]
  rfl

theorem data1_ok (v : AV) : ACall Try.prog 104 [.d (.agg (encAV v))] [] (.d (.bool (!proper v))) [] := by
  refine k__packet_Packet__data_1 ?_
  simp only [e__packet_Packet__data_1, encAV, go_sem, Nat.reduceAdd, Nat.reduceMul, Nat.reduceSub, Nat.reduceEqDiff, Nat.reduceLT, Nat.reduceLeDiff, Nat.reduceBEq, reduceIte, reduceCtorEq, Int.reduceAdd, Int.reduceLT, Int.reduceLE, Int.reduceGT, Int.reduceGE, Int.reduceEq, Int.reduceNe, Int.reduceBEq, Int.reduceBNe, Int.reduceToNat, Int.reduceNeg]
  refine callO_pure (proper_ok v) b_packet_proper (fun h => h) (fun _ => ⟨matchA_refl, trivial⟩) rfl rfl rfl ?_
  simp only [go_sem, Nat.reduceAdd, Nat.reduceMul, Nat.reduceSub, Nat.reduceEqDiff, Nat.reduceLT, Nat.reduceLeDiff, Nat.reduceBEq, reduceIte, reduceCtorEq, Int.reduceAdd, Int.reduceLT, Int.reduceLE, Int.reduceGT, Int.reduceGE, Int.reduceEq, Int.reduceNe, Int.reduceBEq, Int.reduceBNe, Int.reduceToNat, Int.reduceNeg]

theorem data2_ok (n : Int) : ACall Try.prog 107 [.d (.int .i64 n)] [] (.d (.bool (decide (n < 0) || decide (n > 1099511627776)))) [] := by
  refine k__packet_Packet__data_2 ?_
  simp only [e__packet_Packet__data_2, go_sem, Nat.reduceAdd, Nat.reduceMul, Nat.reduceSub, Nat.reduceEqDiff, Nat.reduceLT, Nat.reduceLeDiff, Nat.reduceBEq, reduceIte, reduceCtorEq, Int.reduceAdd, Int.reduceLT, Int.reduceLE, Int.reduceGT, Int.reduceGE, Int.reduceEq, Int.reduceNe, Int.reduceBEq, Int.reduceBNe, Int.reduceToNat, Int.reduceNeg]
  intro h
  rw [h]; rfl
end Go.Proofs.Ythcpckcgjplhiaa
