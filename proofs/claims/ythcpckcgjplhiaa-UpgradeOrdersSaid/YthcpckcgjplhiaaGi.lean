/- upgrade.Report. -/
import Derived.Test.YthcpckcgjplhiaaGh
namespace Go.Proofs.Ythcpckcgjplhiaa
open Go.Abs
set_option linter.unusedSimpArgs false

section
variable {P : Program} {k0 o : Nat} {p : List (Nat × Nat)} {Q : SExit → St → Prop} {st : St}
noncomputable def s52br0 : List SOper := [
  ⟨some 2, .box 3 (.t 0), none⟩,
  ⟨some 3, .box 2 (.t 1), none⟩,
  ⟨some 4, .alloc 1 [(.d (.int .i64 0)), (.d .nilsl)], none⟩,
  ⟨some 5, .mov (.k (.d (.int .i64 0))), none⟩]
noncomputable def s52br1 : List SOper := [
  ⟨some 10, .load (some 2) (.t 2), none⟩,
  ⟨some 11, .call (.k (.d (.func (.func 59) [] []))) [(.t 10)], none⟩,
  ⟨some 12, .not (.t 11), none⟩,
  ⟨some 13, .mov (.t 12), none⟩,
  ⟨some 14, .faddr 0 (.t 3), some (13, false)⟩,
  ⟨some 15, .load none (.t 14), some (13, false)⟩,
  ⟨some 16, .bin .neq (.t 15) (.k (.d (.int .i64 4))), some (13, false)⟩,
  ⟨some 17, .pick (.t 13) (.k (.d (.bool true))) (.t 16), none⟩,
  ⟨some 18, .mov (.t 17), none⟩,
  ⟨some 19, .load (some 9) (.t 3), some (18, false)⟩,
  ⟨some 20, .call (.k (.d (.func (.func 47) [] []))) [(.t 19)], some (18, false)⟩,
  ⟨some 21, .not (.t 20), some (18, false)⟩,
  ⟨some 22, .pick (.t 18) (.k (.d (.bool true))) (.t 21), none⟩,
  ⟨some 23, .mov (.t 22), none⟩,
  ⟨some 24, .faddr 3 (.t 3), some (23, false)⟩,
  ⟨some 25, .load none (.t 24), some (23, false)⟩,
  ⟨some 26, .faddr 0 (.t 2), some (23, false)⟩,
  ⟨some 27, .load none (.t 26), some (23, false)⟩,
  ⟨some 28, .bin .geq (.t 25) (.t 27), some (23, false)⟩,
  ⟨some 29, .pick (.t 23) (.k (.d (.bool true))) (.t 28), none⟩]
noncomputable def s52br2 : List SOper := [
  ⟨some 30, .build [(.int .i64 0), .nilsl] [], none⟩,
  ⟨none, .store (some 2) (.t 4) (.t 30), none⟩,
  ⟨some 5, .mov (.k (.d (.int .i64 1))), none⟩]
noncomputable def s52br3 : List SOper := [
  ⟨some 32, .load (some 2) (.t 2), none⟩,
  ⟨some 33, .faddr 1 (.t 3), none⟩,
  ⟨some 34, .load none (.t 33), none⟩,
  ⟨some 35, .call (.k (.d (.func (.func 85) [] []))) [(.t 32), (.t 34)], none⟩,
  ⟨some 31, .mov (.t 35), none⟩,
  ⟨some 36, .extract 0 (.t 31), none⟩,
  ⟨some 37, .extract 1 (.t 31), none⟩,
  ⟨some 6, .mov (.t 36), none⟩,
  ⟨some 7, .mov (.t 37), none⟩]
noncomputable def s52br4 : List SOper := [
  ⟨some 38, .mov (.t 7), none⟩,
  ⟨some 39, .not (.t 38), none⟩]
noncomputable def s52br5 : List SOper := [
  ⟨some 40, .build [(.int .i64 0), .nilsl] [], none⟩,
  ⟨none, .store (some 2) (.t 4) (.t 40), none⟩,
  ⟨some 5, .mov (.k (.d (.int .i64 8))), none⟩]
noncomputable def s52br6 : List SOper := [
  ⟨some 41, .load (some 2) (.t 2), none⟩,
  ⟨some 42, .call (.k (.d (.func (.func 86) [] []))) [(.t 41)], none⟩,
  ⟨none, .store (some 2) (.t 2) (.t 42), none⟩]
noncomputable def s52br7 : List SOper := [
  ⟨some 43, .faddr 1 (.t 2), none⟩,
  ⟨some 44, .load none (.t 43), none⟩,
  ⟨some 45, .mov (.t 6), none⟩,
  ⟨some 46, .iaddr 4 (.t 44) (.t 45), none⟩,
  ⟨some 8, .mov (.t 46), none⟩]
noncomputable def s52br8 : List SOper := [
  ⟨some 47, .mov (.t 8), none⟩,
  ⟨some 48, .nilCheck (.t 47), none⟩,
  ⟨some 49, .faddr 2 (.t 48), none⟩,
  ⟨some 50, .load none (.t 49), none⟩,
  ⟨some 9, .mov (.t 50), none⟩]
noncomputable def s52br9 : List SOper := [
  ⟨some 51, .faddr 6 (.t 3), none⟩,
  ⟨some 52, .load none (.t 51), none⟩,
  ⟨some 53, .bin .eql (.t 52) (.k (.d (.int .i64 2))), none⟩]
noncomputable def s52br10 : List SOper := [
  ⟨some 54, .mov (.t 8), none⟩,
  ⟨some 55, .nilCheck (.t 54), none⟩,
  ⟨some 56, .faddr 3 (.t 55), none⟩,
  ⟨some 57, .load none (.t 56), none⟩,
  ⟨some 9, .mov (.t 57), none⟩]
noncomputable def s52br11 : List SOper := [
  ⟨some 59, .mov (.t 9), none⟩,
  ⟨some 60, .faddr 3 (.t 3), none⟩,
  ⟨some 61, .load none (.t 60), none⟩,
  ⟨some 62, .iaddr 1 (.t 59) (.t 61), none⟩,
  ⟨some 63, .load none (.t 62), none⟩,
  ⟨some 58, .mov (.t 63), none⟩]
noncomputable def s52br12 : List SOper := [
  ⟨some 64, .build [(.int .i64 0), .nilsl] [], none⟩,
  ⟨none, .store (some 2) (.t 4) (.t 64), none⟩,
  ⟨some 5, .mov (.k (.d (.int .i64 21))), none⟩]
noncomputable def s52br13 : List SOper := [
  ⟨some 66, .faddr 6 (.t 3), none⟩,
  ⟨some 67, .load none (.t 66), none⟩,
  ⟨some 68, .bin .eql (.t 67) (.k (.d (.int .i64 2))), none⟩,
  ⟨some 69, .mov (.t 68), none⟩,
  ⟨some 70, .mov (.t 8), some (69, true)⟩,
  ⟨some 71, .nilCheck (.t 70), some (69, true)⟩,
  ⟨some 72, .faddr 1 (.t 71), some (69, true)⟩,
  ⟨some 73, .load none (.t 72), some (69, true)⟩,
  ⟨some 74, .bin .eql (.t 73) (.k (.d (.int .i64 1))), some (69, true)⟩,
  ⟨some 75, .pick (.t 69) (.t 74) (.k (.d (.bool false))), none⟩,
  ⟨some 65, .mov (.t 75), none⟩]
noncomputable def s52br14 : List SOper := [
  ⟨some 76, .build [(.int .i64 0), .nilsl] [], none⟩,
  ⟨none, .store (some 2) (.t 4) (.t 76), none⟩,
  ⟨some 5, .mov (.k (.d (.int .i64 7))), none⟩]
noncomputable def s52br15 : List SOper := [
  ⟨some 77, .mov (.t 9), none⟩,
  ⟨some 78, .faddr 3 (.t 3), none⟩,
  ⟨some 79, .load none (.t 78), none⟩,
  ⟨some 80, .iaddr 1 (.t 77) (.t 79), none⟩,
  ⟨none, .store none (.t 80) (.k (.d (.bool true))), none⟩]
noncomputable def s52br16 : List SOper := [
  ⟨some 81, .mov (.t 8), none⟩,
  ⟨some 82, .mov (.t 8), none⟩,
  ⟨some 83, .nilCheck (.t 82), none⟩,
  ⟨some 84, .load (some 4) (.t 83), none⟩,
  ⟨some 85, .call (.k (.d (.func (.func 88) [] []))) [(.t 84)], none⟩,
  ⟨some 86, .nilCheck (.t 81), none⟩,
  ⟨some 87, .faddr 1 (.t 86), none⟩,
  ⟨none, .store none (.t 87) (.t 85), none⟩]
noncomputable def s52br17 : List SOper := [
  ⟨some 88, .load (some 2) (.t 2), none⟩,
  ⟨none, .store (some 2) (.t 4) (.t 88), none⟩,
  ⟨some 5, .mov (.k (.d (.int .i64 0))), none⟩]
noncomputable def s52b : SCode := (.seq (.region s52br0 3 []) (.seq (.seq (.region s52br1 0 []) (.cond (.t 29) (.seq (.region s52br2 0 []) (.pause .ret)) .skip)) (.seq (.region s52br3 0 []) (.seq (.seq (.region s52br4 0 []) (.cond (.t 39) (.seq (.region s52br5 0 []) (.pause .ret)) .skip)) (.seq (.region s52br6 5 []) (.seq (.region s52br7 0 []) (.seq (.region s52br8 0 []) (.seq (.seq (.region s52br9 0 []) (.cond (.t 53) (.region s52br10 0 []) .skip)) (.seq (.block 0 (.seq (.region s52br11 0 []) (.cond (.t 58) (.seq (.region s52br12 0 []) (.pause .ret)) (.seq (.region s52br13 0 []) (.cond (.t 65) (.seq (.region s52br14 0 []) (.pause .ret)) .skip))))) (.seq (.region s52br15 0 []) (.seq (.pause (.region s52br16 0 [])) (.seq (.region s52br17 0 []) (.pause .ret)))))))))))))
theorem e52b : AWp P k0 s52b Q st = AWp P k0 (.seq (.region s52br0 3 []) (.seq (.seq (.region s52br1 0 []) (.cond (.t 29) (.seq (.region s52br2 0 []) (.pause .ret)) .skip)) (.seq (.region s52br3 0 []) (.seq (.seq (.region s52br4 0 []) (.cond (.t 39) (.seq (.region s52br5 0 []) (.pause .ret)) .skip)) (.seq (.region s52br6 5 []) (.seq (.region s52br7 0 []) (.seq (.region s52br8 0 []) (.seq (.seq (.region s52br9 0 []) (.cond (.t 53) (.region s52br10 0 []) .skip)) (.seq (.block 0 (.seq (.region s52br11 0 []) (.cond (.t 58) (.seq (.region s52br12 0 []) (.pause .ret)) (.seq (.region s52br13 0 []) (.cond (.t 65) (.seq (.region s52br14 0 []) (.pause .ret)) .skip))))) (.seq (.region s52br15 0 []) (.seq (.pause (.region s52br16 0 [])) (.seq (.region s52br17 0 []) (.pause .ret))))))))))))) Q st := rfl
theorem u52br0 : goReg P s52br0 o p Q st = goLit P (litOf s52br0.eq_1) o p Q st := goReg_of _
theorem u52br1 : goReg P s52br1 o p Q st = goLit P (litOf s52br1.eq_1) o p Q st := goReg_of _
theorem u52br2 : goReg P s52br2 o p Q st = goLit P (litOf s52br2.eq_1) o p Q st := goReg_of _
theorem u52br3 : goReg P s52br3 o p Q st = goLit P (litOf s52br3.eq_1) o p Q st := goReg_of _
theorem u52br4 : goReg P s52br4 o p Q st = goLit P (litOf s52br4.eq_1) o p Q st := goReg_of _
theorem u52br5 : goReg P s52br5 o p Q st = goLit P (litOf s52br5.eq_1) o p Q st := goReg_of _
theorem u52br6 : goReg P s52br6 o p Q st = goLit P (litOf s52br6.eq_1) o p Q st := goReg_of _
theorem u52br7 : goReg P s52br7 o p Q st = goLit P (litOf s52br7.eq_1) o p Q st := goReg_of _
theorem u52br8 : goReg P s52br8 o p Q st = goLit P (litOf s52br8.eq_1) o p Q st := goReg_of _
theorem u52br9 : goReg P s52br9 o p Q st = goLit P (litOf s52br9.eq_1) o p Q st := goReg_of _
theorem u52br10 : goReg P s52br10 o p Q st = goLit P (litOf s52br10.eq_1) o p Q st := goReg_of _
theorem u52br11 : goReg P s52br11 o p Q st = goLit P (litOf s52br11.eq_1) o p Q st := goReg_of _
theorem u52br12 : goReg P s52br12 o p Q st = goLit P (litOf s52br12.eq_1) o p Q st := goReg_of _
theorem u52br13 : goReg P s52br13 o p Q st = goLit P (litOf s52br13.eq_1) o p Q st := goReg_of _
theorem u52br14 : goReg P s52br14 o p Q st = goLit P (litOf s52br14.eq_1) o p Q st := goReg_of _
theorem u52br15 : goReg P s52br15 o p Q st = goLit P (litOf s52br15.eq_1) o p Q st := goReg_of _
theorem u52br16 : goReg P s52br16 o p Q st = goLit P (litOf s52br16.eq_1) o p Q st := goReg_of _
theorem u52br17 : goReg P s52br17 o p Q st = goLit P (litOf s52br17.eq_1) o p Q st := goReg_of _
attribute [go_sem] u52br0 u52br1 u52br2 u52br3 u52br4 u52br5 u52br6 u52br7 u52br8 u52br9 u52br10 u52br11 u52br12 u52br13 u52br14 u52br15 u52br16 u52br17 e52b
set_option maxRecDepth 100000 in
theorem F52b : FnIs Try.prog 52 Try.f52 [] news s52b [.cell 4 (some 2), .tmp 5] 89 := ⟨follows, Try.func52, by kernel_rfl, by kernel_rfl, by kernel_rfl, by kernel_rfl⟩

end

def repMark (p : Pk) (x : En) : En :=
  if p.label == 2 then { x with opened := x.opened.set p.from_.toNat true } else { x with moved := x.moved.set p.from_.toNat true }
def repSet (x : En) : En := { x with phase := upPhase x }
def repMarks (p : Pk) (x : En) : List Bool := if p.label == 2 then x.opened else x.moved
def upReport (m : Mg) (p : Pk) : Mg × Int :=
  if !upValid m || p.kind != 4 || !packetValid p || decide (p.from_ ≥ m.roles) then (⟨0, []⟩, 1)
  else if !(upFind m p.sess).2 then (⟨0, []⟩, 8)
  else if (repMarks p (m.ents.getD (upFind m p.sess).1 default)).getD p.from_.toNat false then (⟨0, []⟩, 21)
  else if p.label == 2 && (m.ents.getD (upFind m p.sess).1 default).phase == 1 then (⟨0, []⟩, 7)
  else (⟨m.roles, m.ents.set (upFind m p.sess).1 (repSet (repMark p (m.ents.getD (upFind m p.sess).1 default)))⟩, 0)

theorem noToks_set {s : ASlot} (hs : noToks [s] = true) : ∀ (l : List ASlot) (i : Nat), noToks l = true → noToks (l.set i s) = true
  | [], _, h => h
  | _ :: l, 0, h => by
    rw [List.set_cons_zero]
    simp only [noToks, Bool.and_eq_true] at h hs ⊢
    exact ⟨hs.1, h.2⟩
  | x :: l, i + 1, h => by
    rw [List.set_cons_succ]
    simp only [noToks, Bool.and_eq_true] at h ⊢
    exact ⟨h.1, noToks_set hs l i h.2⟩
theorem noToks_refA {l : List En} {k a b : Nat} {x : En} : noToks (refA (flatE l) k a b x) = true := noToks_set rfl _ _ (noToks_set rfl _ _ (noToks_flatE l))
theorem noToks_bits : ∀ l : List Bool, noToks (l.map fun b => .d (.bool b)) = true
  | [] => rfl
  | x :: l => by
    have := noToks_bits l
    try simp only [List.map_cons, this, go_sem, Nat.reduceAdd, Nat.reduceMul, Nat.reduceSub, Nat.reduceEqDiff, Nat.reduceLT, Nat.reduceLeDiff, Nat.reduceBEq, reduceIte, reduceCtorEq, Int.reduceAdd, Int.reduceLT, Int.reduceLE, Int.reduceGT, Int.reduceGE, Int.reduceEq, Int.reduceNe, Int.reduceBEq, Int.reduceBNe, Int.reduceToNat, Int.reduceNeg]
theorem ren_bits (ι : List Nat) (l : List Bool) : (l.map fun b => ASlot.d (.bool b)).map (ASlot.ren1 ι) = l.map fun b => .d (.bool b) := by
  rw [List.map_map]; rfl
theorem ren_refA {l : List En} {k : Nat} {x : En} (ι : List Nat) (a b : Nat) : (refA (flatE l) k a b x).map (ASlot.ren1 ι) = refA (flatE l) k (ι.getD a 0) (ι.getD b 0) x := by
  rw [refA, List.map_set, List.map_set, ren_flatE]
  rfl
attribute [go_sem] noToks_refA noToks_bits ren_bits ren_refA

theorem refA_k {l : List En} {k a b j : Nat} {x : En} (hk : k < l.length) (hj : j < 2) : (refA (flatE l) k a b x).getD (k * 4 + j) .bad = .d ((encEn l[k]).getD j .nilsl) := by
  rw [List.getD_eq_getElem?_getD, refA, List.getElem?_set_ne (by omega), List.getElem?_set_ne (by omega), flatE_get l k j hk (by omega)]; rfl
theorem refA_k1 {l : List En} {k a b : Nat} {x : En} (hk : k < l.length) : (refA (flatE l) k a b x).getD (k * 4 + 1) .bad = .d (.int .i64 l[k].phase) := refA_k hk (by decide)
theorem refA_k2 {l : List En} {k a b : Nat} {x : En} (hk : k < l.length) : (refA (flatE l) k a b x).getD (k * 4 + 2) .bad = .d (.ref a 0 1 x.moved.length) := by
  have hf := flatE_len l
  rw [List.getD_eq_getElem?_getD, refA, List.getElem?_set_ne (by omega), List.getElem?_set_self (by omega)]; rfl
theorem refA_k3 {l : List En} {k a b : Nat} {x : En} (hk : k < l.length) : (refA (flatE l) k a b x).getD (k * 4 + 3) .bad = .d (.ref b 0 1 x.opened.length) := by
  have hf := flatE_len l
  rw [List.getD_eq_getElem?_getD, refA, List.getElem?_set_self (by rw [List.length_set]; omega)]; rfl
theorem bits_get {l : List Bool} {i : Nat} (h : i < l.length) : (l.map fun b => ASlot.d (.bool b)).getD i .bad = .d (.bool (l.getD i false)) := by
  rw [List.getD_eq_getElem?_getD, List.getElem?_map, List.getD_eq_getElem?_getD, List.getElem?_eq_getElem h]; rfl
theorem bits_set (l : List Bool) (i : Nat) (b : Bool) : (l.map fun b => ASlot.d (.bool b)).set i (.d (.bool b)) = (l.set i b).map fun b => .d (.bool b) := by rw [List.map_set]
theorem repOk {m : Mg} {p : Pk} (h : (!upValid m || p.kind != 4 || !packetValid p || decide (p.from_ ≥ m.roles)) = false) : upValid m = true ∧ p.kind = 4 ∧ packetValid p = true ∧ p.from_ < m.roles ∧ 0 ≤ p.from_ := by
  simp only [Bool.or_eq_false_iff, Bool.not_eq_false', bne_eq_false_iff_eq, decide_eq_false_iff_not] at h
  obtain ⟨⟨⟨h1, h2⟩, h3⟩, h4⟩ := h
  refine ⟨h1, h2, h3, by omega, ?_⟩
  simp [packetValid, order, role, h2] at h3
  omega
theorem upValid_at {m : Mg} (h : upValid m = true) {k : Nat} (hk : k < m.ents.length) : (m.ents[k].moved.length : Int) = m.roles ∧ (m.ents[k].opened.length : Int) = m.roles ∧ m.ents[k].phase = upPhase m.ents[k] := by
  simp only [upValid, Bool.and_eq_true] at h
  have := allTo_iff.1 h.1 k hk
  simp only [enBad, getD_lt hk, Bool.not_eq_true', Bool.or_eq_false_iff, bne_eq_false_iff_eq] at this
  exact ⟨this.1.1.1.2, this.1.1.2, this.2⟩

theorem frz_sl (id es e : Nat) (rows r : List (List D)) (h : D.noPtrR r = true) : ((ASlot.d (.sl e r)).frz id es rows).only (neId id) = .d (.sl e r) := by simp only [ASlot.frz, D.frz, ASlot.only, ASlot.okS, D.okW, D.okWR_noPtr h, if_true]
theorem frz_flatE (id es : Nat) (rows : List (List D)) : ∀ l : List En, (flatE l).map (fun s => (s.frz id es rows).only (neId id)) = flatE l
  | [] => rfl
  | x :: l => by
    rw [flatE_cons, List.map_cons, List.map_cons, List.map_cons, List.map_cons, frz_flatE id es rows l, frz_sl _ _ _ _ _ (noPtrR_B _), frz_sl _ _ _ _ _ (noPtrR_B _)]
    rfl
theorem frz_set2 (l : List En) (i j : Nat) (u v : ASlot) (id es : Nat) (rows : List (List D)) : (((flatE l).set i u).set j v).map (fun s => (s.frz id es rows).only (neId id)) = ((flatE l).set i ((u.frz id es rows).only (neId id))).set j ((v.frz id es rows).only (neId id)) := by
  rw [List.map_set, List.map_set, frz_flatE]
theorem frz_refA (l : List En) (k a b : Nat) (x : En) (id es : Nat) (rows : List (List D)) : (refA (flatE l) k a b x).map (fun s => (s.frz id es rows).only (neId id)) =
    ((flatE l).set (k * 4 + 2) (((ASlot.d (.ref a 0 1 x.moved.length)).frz id es rows).only (neId id))).set (k * 4 + 3) (((ASlot.d (.ref b 0 1 x.opened.length)).frz id es rows).only (neId id)) := frz_set2 ..
theorem frz_bits (l : List Bool) (id es : Nat) (rows : List (List D)) : (l.map fun b => ASlot.d (.bool b)).map (fun s => (s.frz id es rows).only (neId id)) = l.map fun b => .d (.bool b) := by
  rw [List.map_map]; rfl
theorem bits_cellD (l : List Bool) : (l.map fun b => ASlot.d (.bool b)).map ASlot.cellD = (l.map encB).flatten := by
  induction l with
  | nil => rfl
  | cons b l ih => simp only [List.map_cons, List.flatten_cons, encB, List.cons_append, List.nil_append, ih]; rfl
theorem bits_all (l : List Bool) : (l.map fun b => ASlot.d (.bool b)).all ASlot.isCellD = true := by
  rw [List.all_map]
  exact List.all_eq_true.2 fun b _ => rfl
theorem bits_len (l : List Bool) : ∀ r ∈ l.map encB, r.length = 1 := by
  intro r hr
  obtain ⟨x, _, rfl⟩ := List.mem_map.1 hr
  rfl
theorem flatE_cellD (l : List En) : (flatE l).map ASlot.cellD = (l.map encEn).flatten := by
  induction l with
  | nil => rfl
  | cons x l ih => rw [flatE_cons]; simp only [List.map_cons, List.flatten_cons, encEn, List.cons_append, List.nil_append, ih]; rfl
theorem flatE_all (l : List En) : (flatE l).all ASlot.isCellD = true := by
  induction l with
  | nil => rfl
  | cons x l ih => rw [flatE_cons]; simp only [List.all_cons, ih]; rfl
theorem flatE_mark : ∀ (l : List En) (k : Nat) (y : En) (hk : k < l.length), y.sess = l[k].sess → y.phase = l[k].phase →
    ((flatE l).set (k * 4 + 2) (.d (.sl 1 (y.moved.map encB)))).set (k * 4 + 3) (.d (.sl 1 (y.opened.map encB))) = flatE (l.set k y)
  | x :: l, 0, y, _, h1, h2 => by
    simp only [List.getElem_cons_zero] at h1 h2
    rw [List.set_cons_zero, flatE_cons, flatE_cons, h1, h2]; rfl
  | x :: l, k + 1, y, hk, h1, h2 => by
    rw [List.set_cons_succ, flatE_cons, flatE_cons, ← flatE_mark l k y (by simpa using hk) (by simpa using h1) (by simpa using h2), show (k + 1) * 4 + 2 = (k * 4 + 2) + 1 + 1 + 1 + 1 by omega, show (k + 1) * 4 + 3 = (k * 4 + 3) + 1 + 1 + 1 + 1 by omega]
    simp only [List.set_cons_succ]
theorem flatE_phase : ∀ (l : List En) (k : Nat) (y : En), k < l.length → (flatE (l.set k y)).set (k * 4 + 1) (.d (.int .i64 (upPhase y))) = flatE (l.set k (repSet y))
  | x :: l, 0, y, _ => by
    rw [List.set_cons_zero, List.set_cons_zero, flatE_cons, flatE_cons]; rfl
  | x :: l, k + 1, y, hk => by
    rw [List.set_cons_succ, List.set_cons_succ, flatE_cons, flatE_cons, ← flatE_phase l k y (by simpa using hk), show (k + 1) * 4 + 1 = (k * 4 + 1) + 1 + 1 + 1 + 1 by omega]
    simp only [List.set_cons_succ]
theorem flatE_take : ∀ (l : List En) (k : Nat) (y : En), k < l.length → ((flatE (l.set k y)).drop (k * 4)).take 4 = [.d (.int .i64 y.sess), .d (.int .i64 y.phase), .d (.sl 1 (y.moved.map encB)), .d (.sl 1 (y.opened.map encB))]
  | x :: l, 0, y, _ => by
    rw [List.set_cons_zero, flatE_cons]; rfl
  | x :: l, k + 1, y, hk => by
    rw [List.set_cons_succ, flatE_cons, ← flatE_take l k y (by simpa using hk), show (k + 1) * 4 = k * 4 + 1 + 1 + 1 + 1 by omega]
    simp only [List.drop_succ_cons]

theorem upFind_lt {m : Mg} {s : Int} (h : (upFind m s).2 = true) : (upFind m s).1 < m.ents.length := by
  unfold upFind at h ⊢
  split at h
  · rename_i h1
    rw [if_pos h1]
    exact (idx_any h1).2
  · cases h

set_option maxRecDepth 10000 in
theorem upReport_ok (m : Mg) (p : Pk) (hm : m.Sm) (hp : p.Sm) : ACall Try.prog 52 [.d (.agg (encMg m)), .d (.agg (encPk p))] [] (.tup [.d (.agg (encMg (upReport m p).1)), .d (.int .i64 (upReport m p).2)]) [] := by
  have hl := hm.1
  refine F52b.goT ?_
  try simp only [encMg, encPk, go_sem, Nat.reduceAdd, Nat.reduceMul, Nat.reduceSub, Nat.reduceEqDiff, Nat.reduceLT, Nat.reduceLeDiff, Nat.reduceBEq, reduceIte, reduceCtorEq, Int.reduceAdd, Int.reduceLT, Int.reduceLE, Int.reduceGT, Int.reduceGE, Int.reduceEq, Int.reduceNe, Int.reduceBEq, Int.reduceBNe, Int.reduceToNat, Int.reduceNeg]
  (repeat (with_reducible refine ob ?_)); first | refine cl F59 (upValid_ok m hm) ?_ | refine clF F59 (upValid_ok m hm) (fun _ => by simp only [encEn, encMg, encPk, go_sem, Nat.reduceAdd, Nat.reduceMul, Nat.reduceSub, Nat.reduceEqDiff, Nat.reduceLT, Nat.reduceLeDiff, Nat.reduceBEq, reduceIte, reduceCtorEq, Int.reduceAdd, Int.reduceLT, Int.reduceLE, Int.reduceGT, Int.reduceGE, Int.reduceEq, Int.reduceNe, Int.reduceBEq, Int.reduceBNe, Int.reduceToNat, Int.reduceNeg]) ?_
  try (refine ev ?_; try exact True.intro)
  (repeat (with_reducible refine ob ?_))
  (repeat (with_reducible refine ob ?_)); first | refine cl F47 (packetValid_ok p hp.v hp.c) ?_ | refine clF F47 (packetValid_ok p hp.v hp.c) (fun _ => by simp only [encEn, encMg, encPk, go_sem, Nat.reduceAdd, Nat.reduceMul, Nat.reduceSub, Nat.reduceEqDiff, Nat.reduceLT, Nat.reduceLeDiff, Nat.reduceBEq, reduceIte, reduceCtorEq, Int.reduceAdd, Int.reduceLT, Int.reduceLE, Int.reduceGT, Int.reduceGE, Int.reduceEq, Int.reduceNe, Int.reduceBEq, Int.reduceBNe, Int.reduceToNat, Int.reduceNeg]) ?_
  try (refine ev ?_; try exact True.intro)
  (repeat (with_reducible refine ob ?_)); refine iff_ _ (fun h => ?_) (fun h => ?_)
  · have hb : upReport m p = (⟨0, []⟩, 1) := by simp only [upReport, h, if_true]
    try simp only [hb, List.map_nil, go_sem, Nat.reduceAdd, Nat.reduceMul, Nat.reduceSub, Nat.reduceEqDiff, Nat.reduceLT, Nat.reduceLeDiff, Nat.reduceBEq, reduceIte, reduceCtorEq, Int.reduceAdd, Int.reduceLT, Int.reduceLE, Int.reduceGT, Int.reduceGE, Int.reduceEq, Int.reduceNe, Int.reduceBEq, Int.reduceBNe, Int.reduceToNat, Int.reduceNeg]
    refine pu ?_
    try (refine ev ?_; try exact True.intro)
  have h0 := h
  try (refine ev ?_; try exact True.intro)
  (repeat (with_reducible refine ob ?_)); first | refine cl F85 (upFind_ok m p.sess hm) ?_ | refine clF F85 (upFind_ok m p.sess hm) (fun _ => by simp only [encEn, encMg, encPk, go_sem, Nat.reduceAdd, Nat.reduceMul, Nat.reduceSub, Nat.reduceEqDiff, Nat.reduceLT, Nat.reduceLeDiff, Nat.reduceBEq, reduceIte, reduceCtorEq, Int.reduceAdd, Int.reduceLT, Int.reduceLE, Int.reduceGT, Int.reduceGE, Int.reduceEq, Int.reduceNe, Int.reduceBEq, Int.reduceBNe, Int.reduceToNat, Int.reduceNeg]) ?_
  try (refine ev ?_; try exact True.intro)
  (repeat (with_reducible refine ob ?_)); refine iff_ _ (fun h => ?_) (fun h => ?_)
  · have hb : upReport m p = (⟨0, []⟩, 8) := by simp only [upReport, h0, h]; rfl
    try simp only [hb, List.map_nil, go_sem, Nat.reduceAdd, Nat.reduceMul, Nat.reduceSub, Nat.reduceEqDiff, Nat.reduceLT, Nat.reduceLeDiff, Nat.reduceBEq, reduceIte, reduceCtorEq, Int.reduceAdd, Int.reduceLT, Int.reduceLE, Int.reduceGT, Int.reduceGE, Int.reduceEq, Int.reduceNe, Int.reduceBEq, Int.reduceBNe, Int.reduceToNat, Int.reduceNeg]
    refine pu ?_
    try (refine ev ?_; try exact True.intro)
  have h1 := h
  have hk : (upFind m p.sess).1 < m.ents.length := upFind_lt (by simpa using h)
  have hx := hm.2 _ (List.getElem_mem hk)
  obtain ⟨r1, r2, r3, r4, r5⟩ := repOk h0
  obtain ⟨v1, v2, _⟩ := upValid_at r1 hk
  have h7 := copiedAt_ok m hm _ hk
  have hfl := flatE_len m.ents
  have hu : upReport m p = (if (repMarks p m.ents[(upFind m p.sess).1]).getD p.from_.toNat false then (⟨0, []⟩, 21)
      else if p.label == 2 && m.ents[(upFind m p.sess).1].phase == 1 then (⟨0, []⟩, 7)
      else (⟨m.roles, m.ents.set (upFind m p.sess).1 (repSet (repMark p m.ents[(upFind m p.sess).1]))⟩, 0)) := by
    simp only [upReport, h0, h1, getD_lt hk]; rfl
  rw [hu]
  clear hu
  try (refine ev ?_; try exact True.intro)
  refine clO [3, 4, 5, 6, 7] F86v h7 ?_ (hfit := by first | exact ⟨matchA_refl, trivial⟩ | simp only [encMg, go_sem, Nat.reduceAdd, Nat.reduceMul, Nat.reduceSub, Nat.reduceEqDiff, Nat.reduceLT, Nat.reduceLeDiff, Nat.reduceBEq, reduceIte, reduceCtorEq, Int.reduceAdd, Int.reduceLT, Int.reduceLE, Int.reduceGT, Int.reduceGE, Int.reduceEq, Int.reduceNe, Int.reduceBEq, Int.reduceBNe, Int.reduceToNat, Int.reduceNeg])
  clear h7
  generalize (upFind m p.sess).1 = k at hk hx v1 v2 ⊢
  try (refine ev ?_; try exact True.intro)
  (repeat (with_reducible refine ob ?_))
  refine iff_ _ (fun hl2 => ?_) (fun hl2 => ?_)
  · simp only [repMarks, repMark, hl2, if_true, Bool.true_and]
    try simp only [refA_k2 hk, refA_k3 hk, go_sem, Nat.reduceAdd, Nat.reduceMul, Nat.reduceSub, Nat.reduceEqDiff, Nat.reduceLT, Nat.reduceLeDiff, Nat.reduceBEq, reduceIte, reduceCtorEq, Int.reduceAdd, Int.reduceLT, Int.reduceLE, Int.reduceGT, Int.reduceGE, Int.reduceEq, Int.reduceNe, Int.reduceBEq, Int.reduceBNe, Int.reduceToNat, Int.reduceNeg]
    (repeat (with_reducible refine ob ?_))
    try simp only [refA_k2 hk, refA_k3 hk, Nat.mul_one, bits_get (l := m.ents[k].opened) (i := p.from_.toNat) (by omega), go_sem, Nat.reduceAdd, Nat.reduceMul, Nat.reduceSub, Nat.reduceEqDiff, Nat.reduceLT, Nat.reduceLeDiff, Nat.reduceBEq, reduceIte, reduceCtorEq, Int.reduceAdd, Int.reduceLT, Int.reduceLE, Int.reduceGT, Int.reduceGE, Int.reduceEq, Int.reduceNe, Int.reduceBEq, Int.reduceBNe, Int.reduceToNat, Int.reduceNeg]
    refine iff_ _ (fun h3 => ?_) (fun h3 => ?_)
    · try simp only [h3, List.map_nil, go_sem, Nat.reduceAdd, Nat.reduceMul, Nat.reduceSub, Nat.reduceEqDiff, Nat.reduceLT, Nat.reduceLeDiff, Nat.reduceBEq, reduceIte, reduceCtorEq, Int.reduceAdd, Int.reduceLT, Int.reduceLE, Int.reduceGT, Int.reduceGE, Int.reduceEq, Int.reduceNe, Int.reduceBEq, Int.reduceBNe, Int.reduceToNat, Int.reduceNeg]
      refine pu ?_
      try (refine ev ?_; try exact True.intro)
    try simp only [refA_k1 hk, go_sem, Nat.reduceAdd, Nat.reduceMul, Nat.reduceSub, Nat.reduceEqDiff, Nat.reduceLT, Nat.reduceLeDiff, Nat.reduceBEq, reduceIte, reduceCtorEq, Int.reduceAdd, Int.reduceLT, Int.reduceLE, Int.reduceGT, Int.reduceGE, Int.reduceEq, Int.reduceNe, Int.reduceBEq, Int.reduceBNe, Int.reduceToNat, Int.reduceNeg]
    (repeat (with_reducible refine ob ?_))
    refine iff_ _ (fun h4 => ?_) (fun h4 => ?_)
    · have h4' : (m.ents[k].phase == 1) = true := by simpa [hl2] using h4
      try simp only [h3, h4', hl2, List.map_nil, go_sem, Nat.reduceAdd, Nat.reduceMul, Nat.reduceSub, Nat.reduceEqDiff, Nat.reduceLT, Nat.reduceLeDiff, Nat.reduceBEq, reduceIte, reduceCtorEq, Int.reduceAdd, Int.reduceLT, Int.reduceLE, Int.reduceGT, Int.reduceGE, Int.reduceEq, Int.reduceNe, Int.reduceBEq, Int.reduceBNe, Int.reduceToNat, Int.reduceNeg]
      refine pu ?_
      try (refine ev ?_; try exact True.intro)
    have h4' : (m.ents[k].phase == 1) = false := by simpa [hl2] using h4
    simp only [h3, h4', Bool.false_eq_true, if_false]
    try simp only [h3, hl2, Nat.mul_one, bits_set, go_sem, Nat.reduceAdd, Nat.reduceMul, Nat.reduceSub, Nat.reduceEqDiff, Nat.reduceLT, Nat.reduceLeDiff, Nat.reduceBEq, reduceIte, reduceCtorEq, Int.reduceAdd, Int.reduceLT, Int.reduceLE, Int.reduceGT, Int.reduceGE, Int.reduceEq, Int.reduceNe, Int.reduceBEq, Int.reduceBNe, Int.reduceToNat, Int.reduceNeg]
    (repeat (with_reducible refine ob ?_))
    have hy : ∀ y : En, y = { m.ents[k] with opened := m.ents[k].opened.set p.from_.toNat true } → y.Sm := by rintro y rfl; exact ⟨by simpa using hx.1, by simpa using hx.2⟩
    generalize hyd : { m.ents[k] with opened := m.ents[k].opened.set p.from_.toNat true } = y at hy ⊢
    have hys : y.sess = m.ents[k].sess := by rw [← hyd]
    have hyp : y.phase = m.ents[k].phase := by rw [← hyd]
    have hym : m.ents[k].moved = y.moved := by rw [← hyd]
    have hyo : m.ents[k].opened.set p.from_.toNat true = y.opened := by rw [← hyd]
    have hml : m.ents[k].moved.length = y.moved.length := by simp [← hyd]
    have hol : m.ents[k].opened.length = y.opened.length := by simp [← hyd]
    simp only [hml, hol, hym, hyo]
    refine pu_frz 6 1 (y.moved.map encB) ?_ (bits_cellD _) (bits_all _) (bits_len _) (D.okWR_noPtr (noPtrR_B _))
    simp only [frz_mk, Fr.mapS, List.map_cons, List.map_nil, AObj.mapS, frz_refA, hml, hol, frz_bits, List.set_cons_zero, List.set_cons_succ]
    try (refine ev ?_; try exact True.intro)
    refine pu_frz 7 1 (y.opened.map encB) ?_ (bits_cellD _) (bits_all _) (bits_len _) (D.okWR_noPtr (noPtrR_B _))
    simp only [frz_mk, Fr.mapS, List.map_cons, List.map_nil, AObj.mapS, frz_set2, frz_sl _ _ _ _ _ (noPtrR_B _), List.set_cons_zero, List.set_cons_succ]
    try simp only [flatE_mark m.ents k y hk hys hyp, go_sem, Nat.reduceAdd, Nat.reduceMul, Nat.reduceSub, Nat.reduceEqDiff, Nat.reduceLT, Nat.reduceLeDiff, Nat.reduceBEq, reduceIte, reduceCtorEq, Int.reduceAdd, Int.reduceLT, Int.reduceLE, Int.reduceGT, Int.reduceGE, Int.reduceEq, Int.reduceNe, Int.reduceBEq, Int.reduceBNe, Int.reduceToNat, Int.reduceNeg]
    refine pu ?_
    try simp only [flatE_take m.ents k y hk, List.length_set, go_sem, Nat.reduceAdd, Nat.reduceMul, Nat.reduceSub, Nat.reduceEqDiff, Nat.reduceLT, Nat.reduceLeDiff, Nat.reduceBEq, reduceIte, reduceCtorEq, Int.reduceAdd, Int.reduceLT, Int.reduceLE, Int.reduceGT, Int.reduceGE, Int.reduceEq, Int.reduceNe, Int.reduceBEq, Int.reduceBNe, Int.reduceToNat, Int.reduceNeg]
    (repeat (with_reducible refine ob ?_))
    (repeat (with_reducible refine ob ?_)); first | refine cl F88 (upPhase_ok y (hy y rfl)) ?_ | refine clF F88 (upPhase_ok y (hy y rfl)) (fun _ => by simp only [encEn, encMg, encPk, go_sem, Nat.reduceAdd, Nat.reduceMul, Nat.reduceSub, Nat.reduceEqDiff, Nat.reduceLT, Nat.reduceLeDiff, Nat.reduceBEq, reduceIte, reduceCtorEq, Int.reduceAdd, Int.reduceLT, Int.reduceLE, Int.reduceGT, Int.reduceGE, Int.reduceEq, Int.reduceNe, Int.reduceBEq, Int.reduceBNe, Int.reduceToNat, Int.reduceNeg]) ?_
    try simp only [List.length_set, flatE_phase m.ents k y hk, go_sem, Nat.reduceAdd, Nat.reduceMul, Nat.reduceSub, Nat.reduceEqDiff, Nat.reduceLT, Nat.reduceLeDiff, Nat.reduceBEq, reduceIte, reduceCtorEq, Int.reduceAdd, Int.reduceLT, Int.reduceLE, Int.reduceGT, Int.reduceGE, Int.reduceEq, Int.reduceNe, Int.reduceBEq, Int.reduceBNe, Int.reduceToNat, Int.reduceNeg]
    (repeat (with_reducible refine ob ?_))
    try simp only [flatE_phase m.ents k y hk, go_sem, Nat.reduceAdd, Nat.reduceMul, Nat.reduceSub, Nat.reduceEqDiff, Nat.reduceLT, Nat.reduceLeDiff, Nat.reduceBEq, reduceIte, reduceCtorEq, Int.reduceAdd, Int.reduceLT, Int.reduceLE, Int.reduceGT, Int.reduceGE, Int.reduceEq, Int.reduceNe, Int.reduceBEq, Int.reduceBNe, Int.reduceToNat, Int.reduceNeg]
    refine pu_frz 5 4 ((m.ents.set k (repSet y)).map encEn) ?_ (flatE_cellD _) (flatE_all _) (en_len _) (D.okWR_noPtr (noPtrR_En _))
    refine pu ?_
    try simp only [List.length_set, List.length_map, go_sem, Nat.reduceAdd, Nat.reduceMul, Nat.reduceSub, Nat.reduceEqDiff, Nat.reduceLT, Nat.reduceLeDiff, Nat.reduceBEq, reduceIte, reduceCtorEq, Int.reduceAdd, Int.reduceLT, Int.reduceLE, Int.reduceGT, Int.reduceGE, Int.reduceEq, Int.reduceNe, Int.reduceBEq, Int.reduceBNe, Int.reduceToNat, Int.reduceNeg]
  · simp only [repMarks, repMark, hl2, Bool.false_and, Bool.false_eq_true, if_false]
    try simp only [refA_k2 hk, refA_k3 hk, go_sem, Nat.reduceAdd, Nat.reduceMul, Nat.reduceSub, Nat.reduceEqDiff, Nat.reduceLT, Nat.reduceLeDiff, Nat.reduceBEq, reduceIte, reduceCtorEq, Int.reduceAdd, Int.reduceLT, Int.reduceLE, Int.reduceGT, Int.reduceGE, Int.reduceEq, Int.reduceNe, Int.reduceBEq, Int.reduceBNe, Int.reduceToNat, Int.reduceNeg]
    (repeat (with_reducible refine ob ?_))
    try simp only [refA_k2 hk, refA_k3 hk, Nat.mul_one, bits_get (l := m.ents[k].moved) (i := p.from_.toNat) (by omega), go_sem, Nat.reduceAdd, Nat.reduceMul, Nat.reduceSub, Nat.reduceEqDiff, Nat.reduceLT, Nat.reduceLeDiff, Nat.reduceBEq, reduceIte, reduceCtorEq, Int.reduceAdd, Int.reduceLT, Int.reduceLE, Int.reduceGT, Int.reduceGE, Int.reduceEq, Int.reduceNe, Int.reduceBEq, Int.reduceBNe, Int.reduceToNat, Int.reduceNeg]
    refine iff_ _ (fun h3 => ?_) (fun h3 => ?_)
    · try simp only [h3, List.map_nil, go_sem, Nat.reduceAdd, Nat.reduceMul, Nat.reduceSub, Nat.reduceEqDiff, Nat.reduceLT, Nat.reduceLeDiff, Nat.reduceBEq, reduceIte, reduceCtorEq, Int.reduceAdd, Int.reduceLT, Int.reduceLE, Int.reduceGT, Int.reduceGE, Int.reduceEq, Int.reduceNe, Int.reduceBEq, Int.reduceBNe, Int.reduceToNat, Int.reduceNeg]
      refine pu ?_
      try (refine ev ?_; try exact True.intro)
    try simp only [refA_k1 hk, go_sem, Nat.reduceAdd, Nat.reduceMul, Nat.reduceSub, Nat.reduceEqDiff, Nat.reduceLT, Nat.reduceLeDiff, Nat.reduceBEq, reduceIte, reduceCtorEq, Int.reduceAdd, Int.reduceLT, Int.reduceLE, Int.reduceGT, Int.reduceGE, Int.reduceEq, Int.reduceNe, Int.reduceBEq, Int.reduceBNe, Int.reduceToNat, Int.reduceNeg]
    (repeat (with_reducible refine ob ?_))
    try simp only [hl2, Bool.false_and, go_sem, Nat.reduceAdd, Nat.reduceMul, Nat.reduceSub, Nat.reduceEqDiff, Nat.reduceLT, Nat.reduceLeDiff, Nat.reduceBEq, reduceIte, reduceCtorEq, Int.reduceAdd, Int.reduceLT, Int.reduceLE, Int.reduceGT, Int.reduceGE, Int.reduceEq, Int.reduceNe, Int.reduceBEq, Int.reduceBNe, Int.reduceToNat, Int.reduceNeg]
    (repeat (with_reducible refine ob ?_)); refine no_ ?_
    simp only [h3, Bool.false_eq_true, if_false]
    try simp only [h3, hl2, Nat.mul_one, bits_set, go_sem, Nat.reduceAdd, Nat.reduceMul, Nat.reduceSub, Nat.reduceEqDiff, Nat.reduceLT, Nat.reduceLeDiff, Nat.reduceBEq, reduceIte, reduceCtorEq, Int.reduceAdd, Int.reduceLT, Int.reduceLE, Int.reduceGT, Int.reduceGE, Int.reduceEq, Int.reduceNe, Int.reduceBEq, Int.reduceBNe, Int.reduceToNat, Int.reduceNeg]
    (repeat (with_reducible refine ob ?_))
    have hy : ∀ y : En, y = { m.ents[k] with moved := m.ents[k].moved.set p.from_.toNat true } → y.Sm := by rintro y rfl; exact ⟨by simpa using hx.1, by simpa using hx.2⟩
    generalize hyd : { m.ents[k] with moved := m.ents[k].moved.set p.from_.toNat true } = y at hy ⊢
    have hys : y.sess = m.ents[k].sess := by rw [← hyd]
    have hyp : y.phase = m.ents[k].phase := by rw [← hyd]
    have hym : m.ents[k].moved.set p.from_.toNat true = y.moved := by rw [← hyd]
    have hyo : m.ents[k].opened = y.opened := by rw [← hyd]
    have hml : m.ents[k].moved.length = y.moved.length := by simp [← hyd]
    have hol : m.ents[k].opened.length = y.opened.length := by simp [← hyd]
    simp only [hml, hol, hym, hyo]
    refine pu_frz 6 1 (y.moved.map encB) ?_ (bits_cellD _) (bits_all _) (bits_len _) (D.okWR_noPtr (noPtrR_B _))
    simp only [frz_mk, Fr.mapS, List.map_cons, List.map_nil, AObj.mapS, frz_refA, hml, hol, frz_bits, List.set_cons_zero, List.set_cons_succ]
    try (refine ev ?_; try exact True.intro)
    refine pu_frz 7 1 (y.opened.map encB) ?_ (bits_cellD _) (bits_all _) (bits_len _) (D.okWR_noPtr (noPtrR_B _))
    simp only [frz_mk, Fr.mapS, List.map_cons, List.map_nil, AObj.mapS, frz_set2, frz_sl _ _ _ _ _ (noPtrR_B _), List.set_cons_zero, List.set_cons_succ]
    try simp only [flatE_mark m.ents k y hk hys hyp, go_sem, Nat.reduceAdd, Nat.reduceMul, Nat.reduceSub, Nat.reduceEqDiff, Nat.reduceLT, Nat.reduceLeDiff, Nat.reduceBEq, reduceIte, reduceCtorEq, Int.reduceAdd, Int.reduceLT, Int.reduceLE, Int.reduceGT, Int.reduceGE, Int.reduceEq, Int.reduceNe, Int.reduceBEq, Int.reduceBNe, Int.reduceToNat, Int.reduceNeg]
    refine pu ?_
    try simp only [flatE_take m.ents k y hk, List.length_set, go_sem, Nat.reduceAdd, Nat.reduceMul, Nat.reduceSub, Nat.reduceEqDiff, Nat.reduceLT, Nat.reduceLeDiff, Nat.reduceBEq, reduceIte, reduceCtorEq, Int.reduceAdd, Int.reduceLT, Int.reduceLE, Int.reduceGT, Int.reduceGE, Int.reduceEq, Int.reduceNe, Int.reduceBEq, Int.reduceBNe, Int.reduceToNat, Int.reduceNeg]
    (repeat (with_reducible refine ob ?_))
    (repeat (with_reducible refine ob ?_)); first | refine cl F88 (upPhase_ok y (hy y rfl)) ?_ | refine clF F88 (upPhase_ok y (hy y rfl)) (fun _ => by simp only [encEn, encMg, encPk, go_sem, Nat.reduceAdd, Nat.reduceMul, Nat.reduceSub, Nat.reduceEqDiff, Nat.reduceLT, Nat.reduceLeDiff, Nat.reduceBEq, reduceIte, reduceCtorEq, Int.reduceAdd, Int.reduceLT, Int.reduceLE, Int.reduceGT, Int.reduceGE, Int.reduceEq, Int.reduceNe, Int.reduceBEq, Int.reduceBNe, Int.reduceToNat, Int.reduceNeg]) ?_
    try simp only [List.length_set, flatE_phase m.ents k y hk, go_sem, Nat.reduceAdd, Nat.reduceMul, Nat.reduceSub, Nat.reduceEqDiff, Nat.reduceLT, Nat.reduceLeDiff, Nat.reduceBEq, reduceIte, reduceCtorEq, Int.reduceAdd, Int.reduceLT, Int.reduceLE, Int.reduceGT, Int.reduceGE, Int.reduceEq, Int.reduceNe, Int.reduceBEq, Int.reduceBNe, Int.reduceToNat, Int.reduceNeg]
    (repeat (with_reducible refine ob ?_))
    try simp only [flatE_phase m.ents k y hk, go_sem, Nat.reduceAdd, Nat.reduceMul, Nat.reduceSub, Nat.reduceEqDiff, Nat.reduceLT, Nat.reduceLeDiff, Nat.reduceBEq, reduceIte, reduceCtorEq, Int.reduceAdd, Int.reduceLT, Int.reduceLE, Int.reduceGT, Int.reduceGE, Int.reduceEq, Int.reduceNe, Int.reduceBEq, Int.reduceBNe, Int.reduceToNat, Int.reduceNeg]
    refine pu_frz 5 4 ((m.ents.set k (repSet y)).map encEn) ?_ (flatE_cellD _) (flatE_all _) (en_len _) (D.okWR_noPtr (noPtrR_En _))
    refine pu ?_
    try simp only [List.length_set, List.length_map, go_sem, Nat.reduceAdd, Nat.reduceMul, Nat.reduceSub, Nat.reduceEqDiff, Nat.reduceLT, Nat.reduceLeDiff, Nat.reduceBEq, reduceIte, reduceCtorEq, Int.reduceAdd, Int.reduceLT, Int.reduceLE, Int.reduceGT, Int.reduceGE, Int.reduceEq, Int.reduceNe, Int.reduceBEq, Int.reduceBNe, Int.reduceToNat, Int.reduceNeg]
end Go.Proofs.Ythcpckcgjplhiaa
