/- Texts Wk, Wl, Wm, Wn, Yd, Ya, Yb, Yc, Ye, Yf, Yg, Yh. -/
import Derived.Test.YtinnaedmdoengaaMnn
import Derived.Calls
import Derived.Orders
import Derived.Tactics
import Derived.Laws.AppendOwn
import Derived.Laws.Slices
import Derived.Laws.Closers25
import Derived.Laws.StructEq
import Derived.Laws.BytesString
import Derived.Laws.CopyRow
import Derived.MapKept
import Derived.Maps.RangeRun
import Derived.TacticsIn
import Derived.OrdersIn
import Derived.RangeFuncRecord
import Derived.RangeFuncLeaves
import Derived.IntWalk
import Derived.ProofKit
import Derived.OpenShut
import Derived.Carry
import Derived.Test.YtinnaedmdoengaaProg
import Derived.KernelRfl
import Derived.OwnWalkIn
import Derived.TacticsInMore
import Derived.LoopIn
import Derived.WalkKit
import Derived.Lib.Strings
import Derived.Lib.Slices
import Derived.Lib.Walk
import Derived.Lib.Bytealg
import Derived.Shelf.SlSortCmp.WholeK
import Derived.Shelf.SlSortCmp.NoneTotal

namespace Go.Proofs.Ytinnaedmdoengaa
open Go.Abs Go.Shelf Go.RowKit Go.Lib Go.Sort
set_option linter.unusedSimpArgs false
set_option linter.unusedVariables false
end Go.Proofs.Ytinnaedmdoengaa
namespace Go.Proofs.Ytinnaedmdoengaa
open Go.Abs
set_option linter.unusedSimpArgs false
set_option linter.unusedVariables false
attribute [go_sem] kr
def pre (p k : List UInt8) : Bool := decide (p.length ≤ k.length) && k.take p.length == p
noncomputable section
set_option maxRecDepth 100000
def xso : List SOper := [
 ⟨some 4, .mov (.k (.d (.bool false))), none⟩]
def xsp : List SOper := [
 ⟨some 5, .mov (.t 0), none⟩,
 ⟨some 6, .lenS (.t 5), none⟩,
 ⟨some 7, .mov (.t 1), none⟩,
 ⟨some 8, .lenS (.t 7), none⟩,
 ⟨some 9, .bin .geq (.t 6) (.t 8), none⟩,
 ⟨some 10, .mov (.t 9), none⟩,
 ⟨some 11, .mov (.t 0), some (10, true)⟩,
 ⟨some 12, .mov (.t 1), some (10, true)⟩,
 ⟨some 13, .lenS (.t 12), some (10, true)⟩,
 ⟨some 14, .sliceS (.t 11) none (some (.t 13)), some (10, true)⟩,
 ⟨some 15, .mov (.t 1), some (10, true)⟩,
 ⟨some 16, .bin .eql (.t 14) (.t 15), some (10, true)⟩,
 ⟨some 17, .pick (.t 10) (.t 16) (.k (.d (.bool false))), none⟩,
 ⟨some 4, .mov (.t 17), none⟩]
def s95 : SCode := (.seq (.region xso 0 []) (.seq (.region xsp 0 []) .ret))
theorem e95 : qg s95.eq_1 := qh s95.eq_1
theorem zaw : qa xso.eq_1 := qc
theorem zax : qa xsp.eq_1 := qc
attribute [go_sem] zaw zax e95
def xsq : List SOper := [
 ⟨some 4, .mov (.k (.d (.bool false))), none⟩]
def xsr : List SOper := [
 ⟨some 5, .mov (.t 0), none⟩,
 ⟨some 6, .mov (.t 1), none⟩,
 ⟨some 7, .call (.k (.d (.func (.func 95) [] []))) [(.t 5), (.t 6)], none⟩,
 ⟨some 4, .mov (.t 7), none⟩]
def s44 : SCode := (.seq (.region xsq 0 []) (.seq (.region xsr 0 []) .ret))
theorem e44 : qg s44.eq_1 := qh s44.eq_1
theorem zay : qa xsq.eq_1 := qc
theorem zaz : qa xsr.eq_1 := qc
attribute [go_sem] zay zaz e44
end
noncomputable section
set_option maxRecDepth 100000
def q82 : List SOper := [
 ⟨some 4, .mov (.k (.d .nilsl)), none⟩]
def q83 : List SOper := [
 ⟨some 8, .mov (.t 0), none⟩,
 ⟨some 9, .eqnil false .ptr (.t 8), none⟩]
def q84 : List SOper := [
 ⟨some 4, .mov (.k (.d .nilsl)), none⟩]
def q85 : List SOper := [
 ⟨some 5, .mov (.k (.d .nilsl)), none⟩]
def q86 : List SOper := [
 ⟨some 10, .mov (.t 0), none⟩,
 ⟨some 11, .nilCheck (.t 10), none⟩,
 ⟨some 12, .faddr 2 (.t 11), none⟩,
 ⟨some 13, .load none (.t 12), none⟩,
 ⟨some 14, .rangeM 1 (.t 13), none⟩]
def q87 : List SOper := [
 ⟨some 15, .nextM (.t 14), none⟩,
 ⟨some 16, .extract 0 (.t 15), none⟩]
def q88 : List SOper := [
 ⟨some 17, .entryM (.t 14), none⟩,
 ⟨some 18, .extract 0 (.t 17), none⟩,
 ⟨some 19, .extract 1 (.t 17), none⟩,
 ⟨some 6, .mov (.t 18), none⟩,
 ⟨some 7, .mov (.t 19), none⟩]
def q89 : List SOper := [
 ⟨some 20, .mov (.t 6), none⟩,
 ⟨some 21, .mov (.t 1), none⟩,
 ⟨some 22, .call (.k (.d (.func (.func 44) [] []))) [(.t 20), (.t 21)], none⟩]
def q9a : List SOper := [
 ⟨some 23, .mov (.t 5), none⟩,
 ⟨some 24, .mov (.t 6), none⟩,
 ⟨some 25, .mov (.t 7), none⟩,
 ⟨some 26, .call (.k (.d (.func (.func 43) [] []))) [(.t 25)], none⟩,
 ⟨some 27, .build [(.str []), .nilsl] [(0, 1, (.t 24)), (1, 1, (.t 26))], none⟩,
 ⟨some 28, .buildSlice false 2 1 [(.str []), .nilsl] [(0, 2, (.t 27))], none⟩,
 ⟨some 29, .append true 2 40 (.t 23) (.t 28), none⟩,
 ⟨some 5, .mov (.t 29), none⟩]
def qyt : SCode := (.seq (.region q87 0 []) (.seq (.cond (.t 16) .skip (.exit 0)) (.block 1 (.seq (.region q88 0 []) (.seq (.region q89 0 []) (.cond (.t 22) (.region q9a 0 []) .skip))))))
theorem xss : qg qyt.eq_1 := qh qyt.eq_1
def qyu : List SOper := [
 ⟨some 30, .mov (.t 5), none⟩,
 ⟨some 31, .call (.k (.d (.func (.func 45) [] []))) [(.t 30), (.k (.d (.func (.func 46) [] [])))], none⟩]
def qyv : List SOper := [
 ⟨some 32, .mov (.t 5), none⟩,
 ⟨some 4, .mov (.t 32), none⟩]
def s17u : SCode := (.seq (.region q82 0 []) (.seq (.seq (.region q83 0 []) (.cond (.t 9) (.seq (.region q84 0 []) (.pause .ret)) .skip)) (.seq (.region q85 0 []) (.seq (.seq (.region q86 1 []) (.block 0 (.loop qyt))) (.seq (.pause (.region qyu 0 [])) (.seq (.region qyv 0 []) (.pause .ret)))))))
theorem zic : qg s17u.eq_1 := qh s17u.eq_1
theorem xst : qa q82.eq_1 := qc
theorem xsu : qa q83.eq_1 := qc
theorem xsv : qa q84.eq_1 := qc
theorem xsw : qa q85.eq_1 := qc
theorem xsx : qa q86.eq_1 := qc
theorem xsy : qa q87.eq_1 := qc
theorem xsz : qa q88.eq_1 := qc
theorem xs0 : qa q89.eq_1 := qc
theorem xs1 : qa q9a.eq_1 := qc
theorem xf6 : qa qyu.eq_1 := qc
theorem xf7 : qa qyv.eq_1 := qc
attribute [go_sem] xst xsu xsv xsw xsx xsy xsz xs0 xs1 xss xf6 xf7 zic
def xs2 : List SOper := [
 ⟨some 5, .mov (.t 0), none⟩,
 ⟨some 6, .len (.t 5), none⟩,
 ⟨some 4, .mov (.t 6), none⟩]
def xs3 : List SOper := [
 ⟨some 7, .mov (.t 0), none⟩,
 ⟨some 8, .mov (.t 4), none⟩,
 ⟨some 9, .mov (.t 4), none⟩,
 ⟨some 10, .conv .u64 (.t 9), none⟩,
 ⟨some 11, .call (.k (.d (.func (.func 97) [] []))) [(.t 10)], none⟩,
 ⟨some 12, .mov (.t 1), none⟩,
 ⟨some 13, .call (.k (.d (.func (.func 96) [] []))) [(.t 7), (.k (.d (.int .i64 0))), (.t 8), (.t 11), (.t 12)], none⟩]
def s45 : SCode := (.seq (.region xs2 0 []) (.region xs3 0 []))
theorem e45 : qg s45.eq_1 := qh s45.eq_1
theorem za0 : qa xs2.eq_1 := qc
theorem za1 : qa xs3.eq_1 := qc
attribute [go_sem] za0 za1 e45
end
theorem qvl (l : List En) : (l.map zp).flatten = qbe l := rfl
theorem qr9 (l : List En) : (qbe l).all D.isCell = true := by induction l <;> simp_all [qbe, zp, D.isCell]
attribute [go_sem] qvl qpm qr9
structure Cont.Ok (m : Cont) : Prop where
 num : (m.l.map (·.1)).Nodup
 lt : ∀ x ∈ m.l, x.1 < m.c
 key : (m.l.map (·.2.1)).Nodup
def enOf (x : KV) : En := (x.2.1, x.2.2)
def preL (p : List UInt8) (l : List KV) : List En := (l.filter fun x => pre p x.2.1).map enOf
def qsa (m : Cont) (p : List UInt8) : List En := qaw (preL p m.l)
end Go.Proofs.Ytinnaedmdoengaa
namespace Go.Proofs.Ytinnaedmdoengaa
open Go.Abs
set_option linter.unusedSimpArgs false
set_option linter.unusedVariables false
theorem qbf {k : List UInt8} {x : KV} : xp k x = true ↔ k = x.2.1 := by simp [xp]
theorem qjf {k v : List UInt8} : ∀ {l : List KV} {j : Nat}, l.findIdx? (xp k) = some j → ∀ k', (l.modify j fun e => (e.1, k, v)).find? (xp k') = if k' = k then some ((l[j]?.getD (0, [], [])).1, k, v) else l.find? (xp k')
 | [], j, h, k' => by simp at h
 | a :: l, j, h, k' => by
  rw [List.findIdx?_cons] at h
  by_cases ha : xp k a = true
  ·rw [if_pos ha] at h
   cases h
   simp only [List.modify_zero_cons, List.find?_cons, List.getElem?_cons_zero, Option.getD_some]
   by_cases hk : k' = k
   ·subst hk
    have : xp k' (a.1, k', v) = true := qbf.2 rfl
    rw [this, if_pos rfl]
   ·have h1 : xp k' (a.1, k, v) = false := by simpa [xp] using hk
    have h2 : xp k' a = false := by rw [qbf] at ha; simp [xp, ← ha, hk]
    rw [h1, h2, if_neg hk]
  ·rw [if_neg (by simpa using ha)] at h
   obtain ⟨i, hi, rfl⟩ := Option.map_eq_some_iff.1 h
   simp only [List.modify_succ_cons, List.find?_cons, List.getElem?_cons_succ]
   have ih := qjf (v := v) hi k'
   by_cases hk : k' = k
   ·subst hk
    have : xp k' a = false := by simpa using ha
    rw [this]
    exact ih
   ·cases h2 : xp k' a with
    | true => rw [if_neg hk]
    | false => rw [ih]
theorem qpn {k : List UInt8} {l : List KV} (h : l.findIdx? (xp k) = none) : l.find? (xp k) = none := by
 rw [List.findIdx?_eq_none_iff] at h
 exact List.find?_eq_none.2 fun x hx => by rw [h x hx]; simp
theorem q3w (k v : List UInt8) (m : Cont) (k' : List UInt8) : mGet k' (mPut k v m) = if k' = k then some v else mGet k' m := by
 unfold mGet mPut
 cases h : m.l.findIdx? (xp k) with
 | some j =>
  simp only [qjf h k']
  split <;> rfl
 | none =>
  simp only [List.find?_append]
  by_cases hk : k' = k
  ·subst hk
   rw [qpn h, if_pos rfl]
   simp [xp]
  ·rw [if_neg hk]
   have : [(m.c, k, v)].find? (xp k') = none := by simp [xp, hk]
   rw [this, Option.or_none]
theorem qlf {k v : List UInt8} : ∀ {l : List KV} {j : Nat}, l.findIdx? (xp k) = some j → (l.modify j fun e => (e.1, k, v)).map (·.2.1) = l.map (·.2.1) ∧ (l.modify j fun e => (e.1, k, v)).map (·.1) = l.map (·.1)
 | [], j, h => by simp at h
 | a :: l, j, h => by
  rw [List.findIdx?_cons] at h
  by_cases ha : xp k a = true
  ·rw [if_pos ha] at h
   cases h
   rw [qbf] at ha
   simp only [List.modify_zero_cons, List.map_cons, ha, and_self]
  ·rw [if_neg (by simpa using ha)] at h
   obtain ⟨i, hi, rfl⟩ := Option.map_eq_some_iff.1 h
   obtain ⟨h1, h2⟩ := qlf (v := v) hi
   simp only [List.modify_succ_cons, List.map_cons, h1, h2, and_self]
theorem qlg {α : Type} {l : List α} {x : α} (h : l.Nodup) (hx : x ∉ l) : (l ++ [x]).Nodup :=
 List.nodup_append.2 ⟨h, by simp, fun a ha b hb e => by simp at hb; subst hb; subst e; exact hx ha⟩
theorem qy0 {m : Cont} (h : m.Ok) (k v : List UInt8) : (mPut k v m).Ok := by
 unfold mPut
 cases hf : m.l.findIdx? (xp k) with
 | some j =>
  obtain ⟨h1, h2⟩ := qlf (v := v) hf
  refine ⟨by simpa only [h2] using h.num, fun x hx => ?_, by simpa only [h1] using h.key⟩
  have : x.1 ∈ (m.l.modify j fun e => (e.1, k, v)).map (·.1) := List.mem_map_of_mem hx
  rw [h2] at this
  obtain ⟨y, hy, he⟩ := List.mem_map.1 this
  rw [← he]; exact h.lt y hy
 | none =>
  rw [List.findIdx?_eq_none_iff] at hf
  refine ⟨?_, fun x hx => ?_, ?_⟩
  ·rw [List.map_append]
   refine qlg h.num fun hm => ?_
   obtain ⟨y, hy, he⟩ := List.mem_map.1 hm
   have := h.lt y hy
   simp only at he
   omega
  ·simp only
   rcases List.mem_append.1 hx with hx | hx
   ·have := h.lt x hx; omega
   ·simp at hx; subst hx; simp
  ·rw [List.map_append]
   refine qlg h.key fun hm => ?_
   obtain ⟨y, hy, he⟩ := List.mem_map.1 hm
   have := hf y hy
   simp [xp, he] at this
theorem qe6 (k : List UInt8) (m : Cont) : (mDel k m).l.Sublist m.l := by
 unfold mDel
 split
 ·exact List.eraseIdx_sublist ..
 ·exact List.Sublist.refl _
theorem qy1 {m : Cont} (h : m.Ok) (k : List UInt8) : (mDel k m).Ok :=
 ⟨List.Nodup.sublist ((qe6 k m).map _) h.num, fun x hx => by rw [q7n]; exact h.lt x ((qe6 k m).subset hx), List.Nodup.sublist ((qe6 k m).map _) h.key⟩
theorem qlh {k : List UInt8} : ∀ {l : List KV} {j : Nat}, l.findIdx? (xp k) = some j → (l.map (·.2.1)).Nodup → ∀ k', (l.eraseIdx j).find? (xp k') = if k' = k then none else l.find? (xp k')
 | [], j, h, _, k' => by simp at h
 | a :: l, j, h, hn, k' => by
  rw [List.findIdx?_cons] at h
  simp only [List.map_cons, List.nodup_cons] at hn
  by_cases ha : xp k a = true
  ·rw [if_pos ha] at h
   cases h
   rw [qbf] at ha
   simp only [List.eraseIdx_cons_zero, List.find?_cons]
   by_cases hk : k' = k
   ·subst hk
    rw [if_pos rfl]
    refine List.find?_eq_none.2 fun x hx hk => ?_
    rw [qbf] at hk
    exact hn.1 (List.mem_map.2 ⟨x, hx, by rw [← ha, ← hk]⟩)
   ·rw [if_neg hk]
    have h2 : xp k' a = false := by simp [xp, ← ha, hk]
    rw [h2]
  ·rw [if_neg (by simpa using ha)] at h
   obtain ⟨i, hi, rfl⟩ := Option.map_eq_some_iff.1 h
   simp only [List.eraseIdx_cons_succ, List.find?_cons]
   have ih := qlh hi hn.2 k'
   by_cases hk : k' = k
   ·subst hk
    have : xp k' a = false := by simpa using ha
    rw [this, if_pos rfl]
    rw [if_pos rfl] at ih
    exact ih
   ·cases h2 : xp k' a with
    | true => rw [if_neg hk]
    | false => rw [ih]
theorem q3x {m : Cont} (h : m.Ok) (k k' : List UInt8) : mGet k' (mDel k m) = if k' = k then none else mGet k' m := by
 unfold mGet mDel
 cases hf : m.l.findIdx? (xp k) with
 | some j =>
  simp only [qlh hf h.key k']
  split <;> rfl
 | none =>
  simp only
  split
  ·rename_i hk; subst hk; rw [qpn hf]; rfl
  ·rfl
theorem q3y (k v : List UInt8) (m : Cont) : (mPut k v m).l.length ≤ m.l.length + 1 := by
 unfold mPut
 split <;> simp
theorem qtl (k : List UInt8) (m : Cont) : (mDel k m).l.length ≤ m.l.length := (qe6 k m).length_le
def kvOk (x : KV) : Prop := 1 ≤ x.2.1.length ∧ x.2.1.length ≤ 40 ∧ x.2.2.length ≤ 900
theorem q3z {k v : List UInt8} {m : Cont} {x : KV} (h : x ∈ (mPut k v m).l) : x ∈ m.l ∨ (x.2.1 = k ∧ x.2.2 = v) := by
 unfold mPut at h
 split at h
 ·rename_i j hj
  simp only at h
  obtain ⟨i, hi⟩ := List.getElem?_of_mem h
  rw [List.getElem?_modify] at hi
  cases hg : m.l[i]? with
  | none => rw [hg] at hi; cases hi
  | some y =>
   rw [hg] at hi
   simp only [Option.map_eq_map, Option.map_some, Option.some.injEq] at hi
   split at hi
   ·subst hi; exact .inr ⟨rfl, rfl⟩
   ·subst hi; exact .inl (List.mem_of_getElem? hg)
 ·rcases List.mem_append.1 h with h | h
  ·exact .inl h
  ·simp at h; subst h; exact .inr ⟨rfl, rfl⟩
structure Cont.Good (m : Cont) : Prop where
 ok : m.Ok
 few : m.l.length ≤ 400
 small : ∀ x ∈ m.l, kvOk x
theorem qd2 : ∀ (l : List OpS) {m : Cont}, m.Good → (∀ o ∈ l, jh o = true) → (va m l).2 = true → (va m l).1.Good
 | [], m, h, _, _ => h
 | o :: l, m, h, hp, hy => by
  rw [va] at hy ⊢
  have ho := vz.1 (hp o (List.mem_cons_self ..))
  have hp' := fun x hx => hp x (List.mem_cons_of_mem _ hx)
  split at hy
  ·rename_i hd
   rw [if_pos hd]
   exact qd2 l ⟨qy1 h.ok _, Nat.le_trans (qtl _ _) h.few, fun x hx => h.small x ((qe6 _ _).subset hx)⟩ hp' hy
  ·rename_i hd
   rw [if_neg hd]
   split at hy
   ·cases hy
   ·rename_i h4
    rw [if_neg h4]
    refine qd2 l ⟨qy0 h.ok _ _, by omega, fun x hx => ?_⟩ hp' hy
    rcases q3z hx with hx | ⟨h1, h2⟩
    ·exact h.small x hx
    ·exact ⟨by rw [h1]; exact ho.1, by rw [h1]; exact ho.2.1, by rw [h2]; exact ho.2.2.1⟩
theorem qsb (f r : List UInt8) (hr : r.length ≤ 2000) : (qcr f r).length ≤ f.length + 70000 := by
 have := qi9 _ r (Nat.le_refl _)
 unfold qcr
 rw [qja _ _ (fun q hq => (qby _ r (Nat.le_refl _) q hq).2)]
 simp only; omega
structure Sto.Ok (n : Nat) (s : Sto) : Prop where
 good : s.m.Good
 file : s.file.length ≤ n * 70000
theorem qy2 (n : Nat) : newS.Ok n := by
 refine ⟨⟨⟨List.nodup_nil, fun x hx => (by cases hx), List.nodup_nil⟩, ?_, fun x hx => (by cases hx)⟩, ?_⟩
 ·simp only [newS, qph, List.length_nil, Nat.zero_le]
 ·simp only [newS, List.length_nil, Nat.zero_le]
theorem Sto.Ok.mono {n m : Nat} {s : Sto} (h : s.Ok n) (hn : n ≤ m) : s.Ok m := ⟨h.good, Nat.le_trans h.file (Nat.mul_le_mul_right _ hn)⟩
theorem qm1 (s : Sto) (l : List OpS) : ((xm s l).2 ≠ 0 ∧ (xm s l).1 = s) ∨ ((xm s l).2 = 0 ∧ (xa l).2 = 0 ∧ (va s.m l).2 = true ∧ (xm s l).1 = ⟨qcr s.file (xa l).1, s.synced, (va s.m l).1⟩) := by
 unfold xm
 split
 ·exact .inl ⟨by assumption, rfl⟩
 ·split
  ·exact .inl ⟨by simp, rfl⟩
  ·rename_i h1 h2
   exact .inr ⟨rfl, by simpa using h1, by simpa using h2, rfl⟩
theorem qd3 {n : Nat} {s : Sto} (h : s.Ok n) (l : List OpS) : (xm s l).1.Ok (n + 1) := by
 rcases qm1 s l with ⟨_, he⟩ | ⟨_, h1, h2, he⟩
 ·rw [he]; exact h.mono (Nat.le_succ _)
 ·rw [he]
  refine ⟨qd2 l h.good (qb0 h1).2.1 h2, ?_⟩
  have := qsb s.file _ (qbz l)
  have := h.file
  simp only; omega
theorem qc8 {s : Sto} {l : List OpS} (hl : l.length ≤ 100000) (hf : s.file.length ≤ 100000000) (h : (xm s l).2 = 0) :
  ql Try.prog 13 [.d (.ptr 0 0), .d (.sl 3 (l.map qs))] [stoO s 1, mapO s.m] (.d (.int .i64 0)) [stoO (xm s l).1 2, mapO s.m, mapO (xm s l).1.m] := by
 have := qpi s l hl hf
 rw [qe3, if_pos h, h] at this
 exact this
def yo (k : List UInt8) : Option (List UInt8) → List OpS → Option (List UInt8)
 | a, [] => a
 | a, o :: l => yo k (if o.key = k then (if o.del then none else some o.val) else a) l
theorem qgd (k : List UInt8) : ∀ (l : List OpS) {m : Cont}, m.Ok → (va m l).2 = true → mGet k (va m l).1 = yo k (mGet k m) l
 | [], m, _, _ => rfl
 | o :: l, m, h, hy => by
  rw [va] at hy ⊢
  rw [yo]
  split at hy
  ·rename_i hd
   rw [if_pos hd, qgd k l (qy1 h _) hy, q3x h]
   congr 1
   by_cases hk : k = o.key
   ·rw [if_pos hk, if_pos hk.symm, if_pos hd]
   ·rw [if_neg hk, if_neg (Ne.symm hk)]
  ·rename_i hd
   rw [if_neg hd]
   split at hy
   ·cases hy
   ·rename_i h4
    rw [if_neg h4, qgd k l (qy0 h _ _) hy, q3w]
    congr 1
    by_cases hk : k = o.key
    ·rw [if_pos hk, if_pos hk.symm, if_neg hd]
    ·rw [if_neg hk, if_neg (Ne.symm hk)]
end Go.Proofs.Ytinnaedmdoengaa
namespace Go.Proofs.Ytinnaedmdoengaa
open Go.Abs
set_option linter.unusedSimpArgs false
set_option linter.unusedVariables false
theorem qki (w : List UInt8) : wg (qe w) = w := by
 induction w with
 | nil => rfl
 | cons c w ih => simp_all [wg, qe]
theorem xf9 (w : List UInt8) : (∃ l, qe w = qe l) = True := eq_true ⟨w, rfl⟩
theorem xs5 : (∃ l, ([] : List (List D)) = qe l) = True := eq_true ⟨[], rfl⟩
theorem qm2 : wg [] = [] := rfl
attribute [go_sem] qki xf9 xs5 qm2
noncomputable section
set_option maxRecDepth 100000
def xs6 : List SOper := [
 ⟨some 2, .mov (.k (.d .nilsl)), none⟩]
def xs7 : List SOper := [
 ⟨some 3, .mov (.k (.d .nilsl)), none⟩]
def xs8 : List SOper := [
 ⟨some 4, .mov (.k (.d (.int .i64 0))), none⟩]
def xs9 : List SOper := [
 ⟨some 5, .mov (.t 4), none⟩,
 ⟨some 6, .mov (.t 0), none⟩,
 ⟨some 7, .len (.t 6), none⟩,
 ⟨some 8, .bin .lss (.t 5) (.t 7), none⟩]
def xta : List SOper := [
 ⟨some 11, .mov (.t 3), none⟩,
 ⟨some 12, .mov (.t 0), none⟩,
 ⟨some 13, .mov (.t 4), none⟩,
 ⟨some 14, .iaddr 3 (.t 12) (.t 13), none⟩,
 ⟨some 15, .faddr 0 (.t 14), none⟩,
 ⟨some 16, .load none (.t 15), none⟩,
 ⟨some 17, .mov (.t 0), none⟩,
 ⟨some 18, .mov (.t 4), none⟩,
 ⟨some 19, .iaddr 3 (.t 17) (.t 18), none⟩,
 ⟨some 20, .faddr 1 (.t 19), none⟩,
 ⟨some 21, .load none (.t 20), none⟩,
 ⟨some 22, .buildSlice false 1 0 [(.int .u8 0)] [], none⟩,
 ⟨some 23, .mov (.t 0), none⟩,
 ⟨some 24, .mov (.t 4), none⟩,
 ⟨some 25, .iaddr 3 (.t 23) (.t 24), none⟩,
 ⟨some 26, .faddr 2 (.t 25), none⟩,
 ⟨some 27, .load none (.t 26), none⟩,
 ⟨some 28, .append false 1 1 (.t 22) (.t 27), none⟩,
 ⟨some 29, .build [(.str []), (.bool false), .nilsl] [(0, 1, (.t 16)), (1, 1, (.t 21)), (2, 1, (.t 28))], none⟩,
 ⟨some 30, .buildSlice false 3 1 [(.str []), (.bool false), .nilsl] [(0, 3, (.t 29))], none⟩,
 ⟨some 31, .append false 3 48 (.t 11) (.t 30), none⟩,
 ⟨some 3, .mov (.t 31), none⟩]
def xtb : List SOper := [
 ⟨some 9, .mov (.t 4), none⟩,
 ⟨some 10, .bin .add (.t 9) (.k (.d (.int .i64 1))), none⟩,
 ⟨some 4, .mov (.t 10), none⟩]
def xga : SCode := (.seq (.seq (.region xs9 0 []) (.cond (.t 8) .skip (.exit 0))) (.seq (.block 1 (.region xta 0 [])) (.region xtb 0 [])))
theorem za2 : qg xga.eq_1 := qh xga.eq_1
def xtc : List SOper := [
 ⟨some 32, .mov (.t 3), none⟩,
 ⟨some 2, .mov (.t 32), none⟩]
def s14 : SCode := (.seq (.region xs6 0 []) (.seq (.region xs7 0 []) (.seq (.seq (.region xs8 0 []) (.block 0 (.loop xga))) (.seq (.region xtc 0 []) .ret))))
theorem e14 : qg s14.eq_1 := qh s14.eq_1
theorem za3 : qa xs6.eq_1 := qc
theorem za4 : qa xs7.eq_1 := qc
theorem za5 : qa xs8.eq_1 := qc
theorem za6 : qa xs9.eq_1 := qc
theorem za7 : qa xta.eq_1 := qc
theorem za8 : qa xtb.eq_1 := qc
theorem za9 : qa xtc.eq_1 := qc
attribute [go_sem] za3 za4 za5 za6 za7 za8 za2 za9 e14
def xtd : List SOper := [
 ⟨some 4, .mov (.k (.d .nilsl)), none⟩]
def xte : List SOper := [
 ⟨some 8, .mov (.t 0), none⟩,
 ⟨some 9, .mov (.t 1), none⟩,
 ⟨some 10, .call (.k (.d (.func (.func 17) [] []))) [(.t 8), (.t 9)], none⟩,
 ⟨some 5, .mov (.t 10), none⟩]
def xtf : List SOper := [
 ⟨some 6, .mov (.k (.d .nilsl)), none⟩]
def xtg : List SOper := [
 ⟨some 7, .mov (.k (.d (.int .i64 0))), none⟩]
def xth : List SOper := [
 ⟨some 11, .mov (.t 7), none⟩,
 ⟨some 12, .mov (.t 5), none⟩,
 ⟨some 13, .len (.t 12), none⟩,
 ⟨some 14, .bin .lss (.t 11) (.t 13), none⟩]
def xti : List SOper := [
 ⟨some 17, .mov (.t 6), none⟩,
 ⟨some 18, .mov (.t 5), none⟩,
 ⟨some 19, .mov (.t 7), none⟩,
 ⟨some 20, .iaddr 2 (.t 18) (.t 19), none⟩,
 ⟨some 21, .load (some 2) (.t 20), none⟩,
 ⟨some 22, .buildSlice false 2 1 [(.str []), .nilsl] [(0, 2, (.t 21))], none⟩,
 ⟨some 23, .append false 2 40 (.t 17) (.t 22), none⟩,
 ⟨some 6, .mov (.t 23), none⟩]
def xtj : List SOper := [
 ⟨some 15, .mov (.t 7), none⟩,
 ⟨some 16, .bin .add (.t 15) (.k (.d (.int .i64 1))), none⟩,
 ⟨some 7, .mov (.t 16), none⟩]
def xgb : SCode := (.seq (.seq (.region xth 0 []) (.cond (.t 14) .skip (.exit 0))) (.seq (.block 1 (.region xti 0 [])) (.region xtj 0 [])))
theorem zba : qg xgb.eq_1 := qh xgb.eq_1
def xtk : List SOper := [
 ⟨some 24, .mov (.t 6), none⟩,
 ⟨some 4, .mov (.t 24), none⟩]
def s36 : SCode := (.seq (.region xtd 0 []) (.seq (.region xte 0 []) (.seq (.region xtf 0 []) (.seq (.seq (.region xtg 0 []) (.block 0 (.loop xgb))) (.seq (.region xtk 0 []) .ret)))))
theorem e36 : qg s36.eq_1 := qh s36.eq_1
theorem zbb : qa xtd.eq_1 := qc
theorem zbc : qa xte.eq_1 := qc
theorem zbd : qa xtf.eq_1 := qc
theorem zbe : qa xtg.eq_1 := qc
theorem zbf : qa xth.eq_1 := qc
theorem zbg : qa xti.eq_1 := qc
theorem zbh : qa xtj.eq_1 := qc
theorem zbi : qa xtk.eq_1 := qc
attribute [go_sem] zbb zbc zbd zbe zbf zbg zbh zba zbi e36
def xtl : List SOper := [
 ⟨some 2, .mov (.k (.d (.bool false))), none⟩]
def xtm : List SOper := [
 ⟨some 3, .mov (.k (.d (.int .i64 0))), none⟩]
def xtn : List SOper := [
 ⟨some 4, .mov (.k (.d (.int .i64 0))), none⟩]
def xto : List SOper := [
 ⟨some 5, .mov (.t 4), none⟩,
 ⟨some 6, .mov (.t 0), none⟩,
 ⟨some 7, .len (.t 6), none⟩,
 ⟨some 8, .bin .lss (.t 5) (.t 7), none⟩]
def xtp : List SOper := [
 ⟨some 11, .mov (.t 0), none⟩,
 ⟨some 12, .mov (.t 4), none⟩,
 ⟨some 13, .iaddr 3 (.t 11) (.t 12), none⟩,
 ⟨some 14, .faddr 0 (.t 13), none⟩,
 ⟨some 15, .load none (.t 14), none⟩,
 ⟨some 16, .lenS (.t 15), none⟩,
 ⟨some 17, .bin .gtr (.t 16) (.k (.d (.int .i64 100))), none⟩,
 ⟨some 18, .mov (.t 17), none⟩,
 ⟨some 19, .mov (.t 0), some (18, false)⟩,
 ⟨some 20, .mov (.t 4), some (18, false)⟩,
 ⟨some 21, .iaddr 3 (.t 19) (.t 20), some (18, false)⟩,
 ⟨some 22, .faddr 2 (.t 21), some (18, false)⟩,
 ⟨some 23, .load none (.t 22), some (18, false)⟩,
 ⟨some 24, .len (.t 23), some (18, false)⟩,
 ⟨some 25, .bin .gtr (.t 24) (.k (.d (.int .i64 1000))), some (18, false)⟩,
 ⟨some 26, .pick (.t 18) (.k (.d (.bool true))) (.t 25), none⟩]
def xtq : List SOper := [
 ⟨some 2, .mov (.k (.d (.bool false))), none⟩]
def xtr : List SOper := [
 ⟨some 27, .mov (.t 3), none⟩,
 ⟨some 28, .mov (.t 0), none⟩,
 ⟨some 29, .mov (.t 4), none⟩,
 ⟨some 30, .iaddr 3 (.t 28) (.t 29), none⟩,
 ⟨some 31, .faddr 2 (.t 30), none⟩,
 ⟨some 32, .load none (.t 31), none⟩,
 ⟨some 33, .len (.t 32), none⟩,
 ⟨some 34, .bin .add (.t 27) (.t 33), none⟩,
 ⟨some 3, .mov (.t 34), none⟩]
def xts : List SOper := [
 ⟨some 9, .mov (.t 4), none⟩,
 ⟨some 10, .bin .add (.t 9) (.k (.d (.int .i64 1))), none⟩,
 ⟨some 4, .mov (.t 10), none⟩]
def xgc : SCode := (.seq (.seq (.region xto 0 []) (.cond (.t 8) .skip (.exit 0))) (.seq (.block 1 (.seq (.seq (.region xtp 0 []) (.cond (.t 26) (.seq (.region xtq 0 []) .ret) .skip)) (.region xtr 0 []))) (.region xts 0 [])))
theorem zbj : qg xgc.eq_1 := qh xgc.eq_1
def xtt : List SOper := [
 ⟨some 35, .mov (.t 0), none⟩,
 ⟨some 36, .len (.t 35), none⟩,
 ⟨some 37, .bin .leq (.t 36) (.k (.d (.int .i64 30))), none⟩,
 ⟨some 38, .mov (.t 37), none⟩,
 ⟨some 39, .mov (.t 3), some (38, true)⟩,
 ⟨some 40, .bin .leq (.t 39) (.k (.d (.int .i64 3000))), some (38, true)⟩,
 ⟨some 41, .pick (.t 38) (.t 40) (.k (.d (.bool false))), none⟩,
 ⟨some 2, .mov (.t 41), none⟩]
def s25 : SCode := (.seq (.region xtl 0 []) (.seq (.region xtm 0 []) (.seq (.seq (.region xtn 0 []) (.block 0 (.loop xgc))) (.seq (.region xtt 0 []) .ret))))
theorem e25 : qg s25.eq_1 := qh s25.eq_1
theorem zbk : qa xtl.eq_1 := qc
theorem zbl : qa xtm.eq_1 := qc
theorem zbm : qa xtn.eq_1 := qc
theorem zbn : qa xto.eq_1 := qc
theorem zbo : qa xtp.eq_1 := qc
theorem zbp : qa xtq.eq_1 := qc
theorem zbq : qa xtr.eq_1 := qc
theorem zbr : qa xts.eq_1 := qc
theorem zbs : qa xtt.eq_1 := qc
attribute [go_sem] zbk zbl zbm zbn zbo zbp zbq zbr zbj zbs e25
def xtu : List SOper := [
 ⟨some 2, .mov (.k (.d (.bool false))), none⟩]
def xtv : List SOper := [
 ⟨some 3, .mov (.k (.d (.int .i64 0))), none⟩]
def xtw : List SOper := [
 ⟨some 4, .mov (.t 3), none⟩,
 ⟨some 5, .mov (.t 0), none⟩,
 ⟨some 6, .len (.t 5), none⟩,
 ⟨some 7, .bin .lss (.t 4) (.t 6), none⟩]
def xtx : List SOper := [
 ⟨some 10, .mov (.t 0), none⟩,
 ⟨some 11, .mov (.t 3), none⟩,
 ⟨some 12, .iaddr 2 (.t 10) (.t 11), none⟩,
 ⟨some 13, .faddr 1 (.t 12), none⟩,
 ⟨some 14, .load none (.t 13), none⟩,
 ⟨some 15, .call (.k (.d (.func (.func 25) [] []))) [(.t 14)], none⟩,
 ⟨some 16, .not (.t 15), none⟩]
def xty : List SOper := [
 ⟨some 2, .mov (.k (.d (.bool false))), none⟩]
def xtz : List SOper := [
 ⟨some 8, .mov (.t 3), none⟩,
 ⟨some 9, .bin .add (.t 8) (.k (.d (.int .i64 1))), none⟩,
 ⟨some 3, .mov (.t 9), none⟩]
def xgd : SCode := (.seq (.seq (.region xtw 0 []) (.cond (.t 7) .skip (.exit 0))) (.seq (.block 1 (.seq (.region xtx 0 []) (.cond (.t 16) (.seq (.region xty 0 []) .ret) .skip))) (.region xtz 0 [])))
theorem zbt : qg xgd.eq_1 := qh xgd.eq_1
def xt0 : List SOper := [
 ⟨some 17, .mov (.t 0), none⟩,
 ⟨some 18, .len (.t 17), none⟩,
 ⟨some 19, .bin .leq (.t 18) (.k (.d (.int .i64 15))), none⟩,
 ⟨some 2, .mov (.t 19), none⟩]
def s11 : SCode := (.seq (.region xtu 0 []) (.seq (.seq (.region xtv 0 []) (.block 0 (.loop xgd))) (.seq (.region xt0 0 []) .ret)))
theorem e11 : qg s11.eq_1 := qh s11.eq_1
theorem zbu : qa xtu.eq_1 := qc
theorem zbv : qa xtv.eq_1 := qc
theorem zbw : qa xtw.eq_1 := qc
theorem zbx : qa xtx.eq_1 := qc
theorem zby : qa xty.eq_1 := qc
theorem zbz : qa xtz.eq_1 := qc
theorem zb0 : qa xt0.eq_1 := qc
attribute [go_sem] zbu zbv zbw zbx zby zbz zbt zb0 e11
end
structure StepS where
 kind : Int
 ops : List OpS
 deriving DecidableEq, Inhabited
def xj (x : StepS) : List D := [.int .i64 x.kind, .sl 3 (x.ops.map qs)]
theorem qe9 (o : StepS) : D.noPtrL (xj o) = true := by simp only [xj, D.noPtrL, D.noPtr, qo2, Bool.and_self]
theorem qsc (l : List StepS) : D.noPtrR (l.map xj) = true := xl qe9 l
attribute [go_sem] qe9 qsc
noncomputable section
set_option maxRecDepth 100000
def xt2 : List SOper := [
 ⟨some 0, .mov (.k (.d (.bool false))), none⟩]
def xt3 : List SOper := [
 ⟨some 5, .call (.k (.d (.func (.func 12) [] []))) [], none⟩,
 ⟨some 1, .mov (.t 5), none⟩]
def xt4 : List SOper := [
 ⟨some 6, .mov (.t 1), none⟩,
 ⟨some 7, .buildSlice false 1 1 [(.int .u8 0)] [(0, 1, (.k (.d (.int .u8 1))))], none⟩,
 ⟨some 8, .build [(.str []), (.bool false), .nilsl] [(0, 1, (.k (.d (.str [97])))), (2, 1, (.t 7))], none⟩,
 ⟨some 9, .buildSlice false 1 1 [(.int .u8 0)] [(0, 1, (.k (.d (.int .u8 2))))], none⟩,
 ⟨some 10, .build [(.str []), (.bool false), .nilsl] [(0, 1, (.k (.d (.str [98])))), (2, 1, (.t 9))], none⟩,
 ⟨some 11, .buildSlice false 3 2 [(.str []), (.bool false), .nilsl] [(0, 3, (.t 8)), (3, 3, (.t 10))], none⟩,
 ⟨some 12, .call (.k (.d (.func (.func 13) [] []))) [(.t 6), (.t 11)], none⟩,
 ⟨some 2, .mov (.t 12), none⟩]
def xt5 : List SOper := [
 ⟨some 13, .mov (.t 1), none⟩,
 ⟨some 14, .build [(.str []), (.bool false), .nilsl] [(0, 1, (.k (.d (.str [97])))), (1, 1, (.k (.d (.bool true))))], none⟩,
 ⟨some 15, .buildSlice false 3 1 [(.str []), (.bool false), .nilsl] [(0, 3, (.t 14))], none⟩,
 ⟨some 16, .call (.k (.d (.func (.func 13) [] []))) [(.t 13), (.t 15)], none⟩,
 ⟨some 3, .mov (.t 16), none⟩]
def xt6 : List SOper := [
 ⟨some 17, .mov (.t 1), none⟩,
 ⟨some 18, .call (.k (.d (.func (.func 36) [] []))) [(.t 17), (.k (.d (.str [])))], none⟩,
 ⟨some 4, .mov (.t 18), none⟩]
def xt7 : List SOper := [
 ⟨some 19, .mov (.t 2), none⟩,
 ⟨some 20, .bin .eql (.t 19) (.k (.d (.int .i64 0))), none⟩,
 ⟨some 21, .mov (.t 20), none⟩,
 ⟨some 22, .mov (.t 3), some (21, true)⟩,
 ⟨some 23, .bin .eql (.t 22) (.k (.d (.int .i64 0))), some (21, true)⟩,
 ⟨some 24, .pick (.t 21) (.t 23) (.k (.d (.bool false))), none⟩,
 ⟨some 25, .mov (.t 24), none⟩,
 ⟨some 26, .mov (.t 4), some (25, true)⟩,
 ⟨some 27, .len (.t 26), some (25, true)⟩,
 ⟨some 28, .bin .eql (.t 27) (.k (.d (.int .i64 1))), some (25, true)⟩,
 ⟨some 29, .pick (.t 25) (.t 28) (.k (.d (.bool false))), none⟩,
 ⟨some 30, .mov (.t 29), none⟩,
 ⟨some 31, .mov (.t 4), some (30, true)⟩,
 ⟨some 32, .iaddr 2 (.t 31) (.k (.d (.int .i64 0))), some (30, true)⟩,
 ⟨some 33, .faddr 0 (.t 32), some (30, true)⟩,
 ⟨some 34, .load none (.t 33), some (30, true)⟩,
 ⟨some 35, .bin .eql (.t 34) (.k (.d (.str [98]))), some (30, true)⟩,
 ⟨some 36, .pick (.t 30) (.t 35) (.k (.d (.bool false))), none⟩,
 ⟨some 37, .mov (.t 36), none⟩,
 ⟨some 38, .mov (.t 4), some (37, true)⟩,
 ⟨some 39, .iaddr 2 (.t 38) (.k (.d (.int .i64 0))), some (37, true)⟩,
 ⟨some 40, .faddr 1 (.t 39), some (37, true)⟩,
 ⟨some 41, .load none (.t 40), some (37, true)⟩,
 ⟨some 42, .b2s (.t 41), some (37, true)⟩,
 ⟨some 43, .bin .eql (.t 42) (.k (.d (.str [2]))), some (37, true)⟩,
 ⟨some 44, .pick (.t 37) (.t 43) (.k (.d (.bool false))), none⟩,
 ⟨some 0, .mov (.t 44), none⟩]
def s10 : SCode := (.seq (.region xt2 0 []) (.seq (.region xt3 2 []) (.seq (.region xt4 1 []) (.seq (.region xt5 1 []) (.seq (.region xt6 0 []) (.seq (.region xt7 0 []) .ret))))))
theorem e10 : qg s10.eq_1 := qh s10.eq_1
theorem zb2 : qa xt2.eq_1 := qc
theorem zb3 : qa xt3.eq_1 := qc
theorem zb4 : qa xt4.eq_1 := qc
theorem zb5 : qa xt5.eq_1 := qc
theorem zb6 : qa xt6.eq_1 := qc
theorem zb7 : qa xt7.eq_1 := qc
attribute [go_sem] zb2 zb3 zb4 zb5 zb6 zb7 e10
end
def ops1 : List OpS := [⟨[97], false, [1]⟩, ⟨[98], false, [2]⟩]
def ops2 : List OpS := [⟨[97], true, []⟩]
def st1 : Sto := (xm newS ops1).1
def st2 : Sto := (xm st1 ops2).1
theorem c1 : (xm newS ops1).2 = 0 := by decide +kernel
theorem c2 : (xm st1 ops2).2 = 0 := by decide +kernel
theorem c3 : qsa st2.m [] = [([98], [2])] := by decide +kernel
theorem qy6 : ql Try.prog 12 [] [] (.d (.ptr 1 0)) [mapO newS.m, stoO newS 0] := xq1
end Go.Proofs.Ytinnaedmdoengaa
namespace Go.Proofs.Ytinnaedmdoengaa
open Go.Abs
set_option linter.unusedSimpArgs false
set_option linter.unusedVariables false
noncomputable section
set_option maxRecDepth 100000
def xt8 : List SOper := [
 ⟨some 2, .mov (.k (.d .nilsl)), none⟩]
def xt9 : List SOper := [
 ⟨some 5, .mov (.t 0), none⟩,
 ⟨some 6, .conv .u64 (.t 5), none⟩,
 ⟨some 7, .bin .mul (.t 6) (.k (.d (.int .u64 2))), none⟩,
 ⟨some 3, .mov (.t 7), none⟩]
def xua : List SOper := [
 ⟨some 8, .mov (.t 0), none⟩,
 ⟨some 9, .bin .lss (.t 8) (.k (.d (.int .i64 0))), none⟩]
def xub : List SOper := [
 ⟨some 10, .mov (.t 0), none⟩,
 ⟨some 11, .bin .add (.t 10) (.k (.d (.int .i64 1))), none⟩,
 ⟨some 12, .neg (.t 11), none⟩,
 ⟨some 13, .conv .u64 (.t 12), none⟩,
 ⟨some 14, .bin .mul (.t 13) (.k (.d (.int .u64 2))), none⟩,
 ⟨some 15, .bin .add (.t 14) (.k (.d (.int .u64 1))), none⟩,
 ⟨some 3, .mov (.t 15), none⟩]
def xuc : List SOper := [
 ⟨some 4, .mov (.k (.d .nilsl)), none⟩]
def xud : List SOper := [
 ⟨some 16, .mov (.t 3), none⟩,
 ⟨some 17, .bin .geq (.t 16) (.k (.d (.int .u64 128))), none⟩]
def xue : List SOper := [
 ⟨some 18, .mov (.t 4), none⟩,
 ⟨some 19, .mov (.t 3), none⟩,
 ⟨some 20, .bin .rem (.t 19) (.k (.d (.int .u64 128))), none⟩,
 ⟨some 21, .conv .u8 (.t 20), none⟩,
 ⟨some 22, .bin .add (.t 21) (.k (.d (.int .u8 128))), none⟩,
 ⟨some 23, .buildSlice false 1 1 [(.int .u8 0)] [(0, 1, (.t 22))], none⟩,
 ⟨some 24, .append false 1 1 (.t 18) (.t 23), none⟩,
 ⟨some 4, .mov (.t 24), none⟩]
def xuf : List SOper := [
 ⟨some 25, .mov (.t 3), none⟩,
 ⟨some 26, .bin .quo (.t 25) (.k (.d (.int .u64 128))), none⟩,
 ⟨some 3, .mov (.t 26), none⟩]
def xgf : SCode := (.seq (.seq (.region xud 0 []) (.cond (.t 17) .skip (.exit 0))) (.block 1 (.seq (.region xue 0 []) (.region xuf 0 []))))
theorem zb8 : qg xgf.eq_1 := qh xgf.eq_1
def xug : List SOper := [
 ⟨some 27, .mov (.t 4), none⟩,
 ⟨some 28, .mov (.t 3), none⟩,
 ⟨some 29, .conv .u8 (.t 28), none⟩,
 ⟨some 30, .buildSlice false 1 1 [(.int .u8 0)] [(0, 1, (.t 29))], none⟩,
 ⟨some 31, .append false 1 1 (.t 27) (.t 30), none⟩,
 ⟨some 2, .mov (.t 31), none⟩]
def s75 : SCode := (.seq (.region xt8 0 []) (.seq (.region xt9 0 []) (.seq (.seq (.region xua 0 []) (.cond (.t 9) (.region xub 0 []) .skip)) (.seq (.region xuc 0 []) (.seq (.block 0 (.loop xgf)) (.seq (.region xug 0 []) .ret))))))
theorem e75 : qg s75.eq_1 := qh s75.eq_1
theorem zb9 : qa xt8.eq_1 := qc
theorem zca : qa xt9.eq_1 := qc
theorem zcb : qa xua.eq_1 := qc
theorem zcc : qa xub.eq_1 := qc
theorem zcd : qa xuc.eq_1 := qc
theorem zce : qa xud.eq_1 := qc
theorem zcf : qa xue.eq_1 := qc
theorem zcg : qa xuf.eq_1 := qc
theorem zch : qa xug.eq_1 := qc
attribute [go_sem] zb9 zca zcb zcc zcd zce zcf zcg zb8 zch e75
def xuh : List SOper := [
 ⟨some 2, .mov (.k (.d .nilsl)), none⟩]
def xui : List SOper := [
 ⟨some 3, .mov (.t 0), none⟩,
 ⟨some 4, .len (.t 3), none⟩,
 ⟨some 5, .call (.k (.d (.func (.func 75) [] []))) [(.t 4)], none⟩,
 ⟨some 6, .mov (.t 0), none⟩,
 ⟨some 7, .append false 1 1 (.t 5) (.t 6), none⟩,
 ⟨some 2, .mov (.t 7), none⟩]
def s79 : SCode := (.seq (.region xuh 0 []) (.seq (.region xui 0 []) .ret))
theorem e79 : qg s79.eq_1 := qh s79.eq_1
theorem zci : qa xuh.eq_1 := qc
theorem zcj : qa xui.eq_1 := qc
attribute [go_sem] zci zcj e79
def xuj : List SOper := [
 ⟨some 2, .mov (.k (.d .nilsl)), none⟩]
def xuk : List SOper := [
 ⟨some 3, .mov (.t 0), none⟩,
 ⟨some 4, .s2b (.t 3), none⟩,
 ⟨some 5, .call (.k (.d (.func (.func 79) [] []))) [(.t 4)], none⟩,
 ⟨some 2, .mov (.t 5), none⟩]
def s77 : SCode := (.seq (.region xuj 0 []) (.seq (.region xuk 0 []) .ret))
theorem e77 : qg s77.eq_1 := qh s77.eq_1
theorem zck : qa xuj.eq_1 := qc
theorem zcl : qa xuk.eq_1 := qc
attribute [go_sem] zck zcl e77
def xul : List SOper := [
 ⟨some 2, .mov (.k (.d .nilsl)), none⟩]
def xum : List SOper := [
 ⟨some 3, .mov (.t 0), none⟩]
def xun : List SOper := [
 ⟨some 4, .buildSlice false 1 1 [(.int .u8 0)] [(0, 1, (.k (.d (.int .u8 1))))], none⟩,
 ⟨some 2, .mov (.t 4), none⟩]
def xuo : List SOper := [
 ⟨some 5, .buildSlice false 1 1 [(.int .u8 0)] [(0, 1, (.k (.d (.int .u8 0))))], none⟩,
 ⟨some 2, .mov (.t 5), none⟩]
def s78 : SCode := (.seq (.region xul 0 []) (.seq (.seq (.region xum 0 []) (.cond (.t 3) (.seq (.region xun 0 []) .ret) .skip)) (.seq (.region xuo 0 []) .ret)))
theorem e78 : qg s78.eq_1 := qh s78.eq_1
theorem zcm : qa xul.eq_1 := qc
theorem zcn : qa xum.eq_1 := qc
theorem zco : qa xun.eq_1 := qc
theorem zcp : qa xuo.eq_1 := qc
attribute [go_sem] zcm zcn zco zcp e78
def xup : List SOper := [
 ⟨some 1, .box 1 (.t 0), none⟩,
 ⟨some 2, .mov (.k (.d (.bool false))), none⟩]
def xuq : List SOper := [
 ⟨some 3, .faddr 0 (.t 1), none⟩,
 ⟨some 4, .load none (.t 3), none⟩,
 ⟨some 5, .lenS (.t 4), none⟩,
 ⟨some 6, .bin .geq (.t 5) (.k (.d (.int .i64 1))), none⟩,
 ⟨some 7, .mov (.t 6), none⟩,
 ⟨some 8, .faddr 0 (.t 1), some (7, true)⟩,
 ⟨some 9, .load none (.t 8), some (7, true)⟩,
 ⟨some 10, .lenS (.t 9), some (7, true)⟩,
 ⟨some 11, .bin .leq (.t 10) (.k (.d (.int .i64 40))), some (7, true)⟩,
 ⟨some 12, .pick (.t 7) (.t 11) (.k (.d (.bool false))), none⟩,
 ⟨some 13, .mov (.t 12), none⟩,
 ⟨some 14, .faddr 2 (.t 1), some (13, true)⟩,
 ⟨some 15, .load none (.t 14), some (13, true)⟩,
 ⟨some 16, .len (.t 15), some (13, true)⟩,
 ⟨some 17, .bin .leq (.t 16) (.k (.d (.int .i64 900))), some (13, true)⟩,
 ⟨some 18, .pick (.t 13) (.t 17) (.k (.d (.bool false))), none⟩,
 ⟨some 19, .mov (.t 18), none⟩,
 ⟨some 20, .faddr 1 (.t 1), some (19, true)⟩,
 ⟨some 21, .load none (.t 20), some (19, true)⟩,
 ⟨some 22, .not (.t 21), some (19, true)⟩,
 ⟨some 23, .mov (.t 22), some (19, true)⟩,
 ⟨some 24, .faddr 2 (.t 1), some (23, false)⟩,
 ⟨some 25, .load none (.t 24), some (23, false)⟩,
 ⟨some 26, .len (.t 25), some (23, false)⟩,
 ⟨some 27, .bin .eql (.t 26) (.k (.d (.int .i64 0))), some (23, false)⟩,
 ⟨some 28, .pick (.t 23) (.k (.d (.bool true))) (.t 27), some (19, true)⟩,
 ⟨some 29, .pick (.t 19) (.t 28) (.k (.d (.bool false))), none⟩,
 ⟨some 2, .mov (.t 29), none⟩]
def s76 : SCode := (.seq (.region xup 1 []) (.seq (.region xuq 0 []) .ret))
theorem e76 : qg s76.eq_1 := qh s76.eq_1
theorem zcq : qa xup.eq_1 := qc
theorem zcr : qa xuq.eq_1 := qc
attribute [go_sem] zcq zcr e76
def xur : List SOper := [
 ⟨some 2, .mov (.k (.d .nilsl)), none⟩,
 ⟨some 3, .mov (.k (.d (.int .i64 0))), none⟩]
def xus : List SOper := [
 ⟨some 6, .mov (.t 0), none⟩,
 ⟨some 7, .len (.t 6), none⟩,
 ⟨some 8, .bin .eql (.t 7) (.k (.d (.int .i64 0))), none⟩]
def xut : List SOper := [
 ⟨some 2, .mov (.k (.d .nilsl)), none⟩,
 ⟨some 3, .mov (.k (.d (.int .i64 1))), none⟩]
def xuu : List SOper := [
 ⟨some 9, .mov (.t 0), none⟩,
 ⟨some 10, .len (.t 9), none⟩,
 ⟨some 11, .call (.k (.d (.func (.func 75) [] []))) [(.t 10)], none⟩,
 ⟨some 4, .mov (.t 11), none⟩]
def xuv : List SOper := [
 ⟨some 5, .mov (.k (.d (.int .i64 0))), none⟩]
def xuw : List SOper := [
 ⟨some 12, .mov (.t 5), none⟩,
 ⟨some 13, .mov (.t 0), none⟩,
 ⟨some 14, .len (.t 13), none⟩,
 ⟨some 15, .bin .lss (.t 12) (.t 14), none⟩]
def xux : List SOper := [
 ⟨some 18, .mov (.t 0), none⟩,
 ⟨some 19, .mov (.t 5), none⟩,
 ⟨some 20, .iaddr 3 (.t 18) (.t 19), none⟩,
 ⟨some 21, .load (some 3) (.t 20), none⟩,
 ⟨some 22, .call (.k (.d (.func (.func 76) [] []))) [(.t 21)], none⟩,
 ⟨some 23, .not (.t 22), none⟩]
def xuy : List SOper := [
 ⟨some 2, .mov (.k (.d .nilsl)), none⟩,
 ⟨some 3, .mov (.k (.d (.int .i64 1))), none⟩]
def xuz : List SOper := [
 ⟨some 24, .mov (.t 4), none⟩,
 ⟨some 25, .mov (.t 0), none⟩,
 ⟨some 26, .mov (.t 5), none⟩,
 ⟨some 27, .iaddr 3 (.t 25) (.t 26), none⟩,
 ⟨some 28, .faddr 0 (.t 27), none⟩,
 ⟨some 29, .load none (.t 28), none⟩,
 ⟨some 30, .call (.k (.d (.func (.func 77) [] []))) [(.t 29)], none⟩,
 ⟨some 31, .append false 1 1 (.t 24) (.t 30), none⟩,
 ⟨some 32, .mov (.t 0), none⟩,
 ⟨some 33, .mov (.t 5), none⟩,
 ⟨some 34, .iaddr 3 (.t 32) (.t 33), none⟩,
 ⟨some 35, .faddr 1 (.t 34), none⟩,
 ⟨some 36, .load none (.t 35), none⟩,
 ⟨some 37, .call (.k (.d (.func (.func 78) [] []))) [(.t 36)], none⟩,
 ⟨some 38, .append false 1 1 (.t 31) (.t 37), none⟩,
 ⟨some 4, .mov (.t 38), none⟩]
def xu0 : List SOper := [
 ⟨some 39, .mov (.t 4), none⟩,
 ⟨some 40, .mov (.t 0), none⟩,
 ⟨some 41, .mov (.t 5), none⟩,
 ⟨some 42, .iaddr 3 (.t 40) (.t 41), none⟩,
 ⟨some 43, .faddr 2 (.t 42), none⟩,
 ⟨some 44, .load none (.t 43), none⟩,
 ⟨some 45, .call (.k (.d (.func (.func 79) [] []))) [(.t 44)], none⟩,
 ⟨some 46, .append false 1 1 (.t 39) (.t 45), none⟩,
 ⟨some 4, .mov (.t 46), none⟩]
def q9d : List SOper := [
 ⟨some 16, .mov (.t 5), none⟩,
 ⟨some 17, .bin .add (.t 16) (.k (.d (.int .i64 1))), none⟩,
 ⟨some 5, .mov (.t 17), none⟩]
def qy7 : SCode := (.seq (.seq (.region xuw 0 []) (.cond (.t 15) .skip (.exit 0))) (.seq (.block 1 (.seq (.seq (.region xux 0 []) (.cond (.t 23) (.seq (.region xuy 0 []) .ret) .skip)) (.seq (.region xuz 0 [(6, 12)]) (.region xu0 0 [])))) (.region q9d 0 [])))
theorem xu1 : qg qy7.eq_1 := qh qy7.eq_1
def q9e : List SOper := [
 ⟨some 47, .mov (.t 0), none⟩,
 ⟨some 48, .len (.t 47), none⟩,
 ⟨some 49, .bin .gtr (.t 48) (.k (.d (.int .i64 20))), none⟩,
 ⟨some 50, .mov (.t 49), none⟩,
 ⟨some 51, .mov (.t 4), some (50, false)⟩,
 ⟨some 52, .len (.t 51), some (50, false)⟩,
 ⟨some 53, .bin .gtr (.t 52) (.k (.d (.int .i64 2000))), some (50, false)⟩,
 ⟨some 54, .pick (.t 50) (.k (.d (.bool true))) (.t 53), none⟩]
def q9f : List SOper := [
 ⟨some 2, .mov (.k (.d .nilsl)), none⟩,
 ⟨some 3, .mov (.k (.d (.int .i64 6))), none⟩]
def q9g : List SOper := [
 ⟨some 55, .mov (.t 4), none⟩,
 ⟨some 2, .mov (.t 55), none⟩,
 ⟨some 3, .mov (.k (.d (.int .i64 0))), none⟩]
def s31 : SCode := (.seq (.region xur 0 []) (.seq (.seq (.region xus 0 []) (.cond (.t 8) (.seq (.region xut 0 []) .ret) .skip)) (.seq (.region xuu 0 []) (.seq (.seq (.region xuv 0 []) (.block 0 (.loop qy7))) (.seq (.seq (.region q9e 0 []) (.cond (.t 54) (.seq (.region q9f 0 []) .ret) .skip)) (.seq (.region q9g 0 []) .ret))))))
theorem e31 : qg s31.eq_1 := qh s31.eq_1
theorem zcs : qa xur.eq_1 := qc
theorem zct : qa xus.eq_1 := qc
theorem zcu : qa xut.eq_1 := qc
theorem zcv : qa xuu.eq_1 := qc
theorem zcw : qa xuv.eq_1 := qc
theorem zcx : qa xuw.eq_1 := qc
theorem zcy : qa xux.eq_1 := qc
theorem zcz : qa xuy.eq_1 := qc
theorem zc0 : qa xuz.eq_1 := qc
theorem zc1 : qa xu0.eq_1 := qc
theorem xu2 : qa q9d.eq_1 := qc
theorem xu3 : qa q9e.eq_1 := qc
theorem xu4 : qa q9f.eq_1 := qc
theorem xu5 : qa q9g.eq_1 := qc
attribute [go_sem] zcs zct zcu zcv zcw zcx zcy zcz zc0 zc1 xu2 xu1 xu3 xu4 xu5 e31
end
end Go.Proofs.Ytinnaedmdoengaa
namespace Go.Proofs.Ytinnaedmdoengaa
open Go.Abs
set_option linter.unusedSimpArgs false
set_option linter.unusedVariables false
structure Rd where
 b : List UInt8
 pos : Nat
 failed : Bool
 deriving DecidableEq, Inhabited
def rdO (r : Rd) : AObj := .row [.d (.sl 1 (qe r.b)), .d (.int .i64 (r.pos : Nat)), .d (.bool r.failed)]
structure Rd.Ok (r : Rd) : Prop where
 len : r.b.length ≤ 1000000000
 pos : r.pos ≤ r.b.length
def jk (n : Nat) (r : Rd) : List UInt8 × Rd := if r.failed || decide (r.b.length - r.pos < n) then ([], { r with failed := true }) else ((r.b.drop r.pos).take n, { r with pos := r.pos + n })
noncomputable section
set_option maxRecDepth 100000
def xu6 : List SOper := [
 ⟨some 2, .mov (.k (.d .nilptr)), none⟩]
def xu7 : List SOper := [
 ⟨some 3, .mov (.t 0), none⟩,
 ⟨some 4, .append false 1 1 (.k (.d .nilsl)) (.t 3), none⟩,
 ⟨some 5, .build [.nilsl, (.int .i64 0), (.bool false)] [(0, 1, (.t 4))], none⟩,
 ⟨some 6, .box 1 (.t 5), none⟩,
 ⟨some 2, .mov (.t 6), none⟩]
def s61 : SCode := (.seq (.region xu6 0 []) (.seq (.region xu7 1 []) .ret))
theorem e61 : qg s61.eq_1 := qh s61.eq_1
theorem zc2 : qa xu6.eq_1 := qc
theorem zc3 : qa xu7.eq_1 := qc
attribute [go_sem] zc2 zc3 e61
theorem F61 : FnIs Try.prog 61 Try.f61 [] news s61 [.tmp 2] 7 := x5 follows Try.func61
def q9h : List SOper := [
 ⟨some 4, .mov (.k (.d .nilsl)), none⟩]
def q9i : List SOper := [
 ⟨some 5, .mov (.t 0), none⟩,
 ⟨some 6, .nilCheck (.t 5), none⟩,
 ⟨some 7, .faddr 2 (.t 6), none⟩,
 ⟨some 8, .load none (.t 7), none⟩,
 ⟨some 9, .mov (.t 8), none⟩,
 ⟨some 10, .mov (.t 1), some (9, false)⟩,
 ⟨some 11, .mov (.t 0), some (9, false)⟩,
 ⟨some 12, .nilCheck (.t 11), some (9, false)⟩,
 ⟨some 13, .faddr 0 (.t 12), some (9, false)⟩,
 ⟨some 14, .load none (.t 13), some (9, false)⟩,
 ⟨some 15, .len (.t 14), some (9, false)⟩,
 ⟨some 16, .mov (.t 0), some (9, false)⟩,
 ⟨some 17, .nilCheck (.t 16), some (9, false)⟩,
 ⟨some 18, .faddr 1 (.t 17), some (9, false)⟩,
 ⟨some 19, .load none (.t 18), some (9, false)⟩,
 ⟨some 20, .bin .sub (.t 15) (.t 19), some (9, false)⟩,
 ⟨some 21, .bin .gtr (.t 10) (.t 20), some (9, false)⟩,
 ⟨some 22, .pick (.t 9) (.k (.d (.bool true))) (.t 21), none⟩]
def q9j : List SOper := [
 ⟨some 23, .mov (.t 0), none⟩,
 ⟨some 24, .nilCheck (.t 23), none⟩,
 ⟨some 25, .faddr 2 (.t 24), none⟩,
 ⟨none, .store none (.t 25) (.k (.d (.bool true))), none⟩]
def q9k : List SOper := [
 ⟨some 4, .mov (.k (.d .nilsl)), none⟩]
def q9l : List SOper := [
 ⟨some 26, .mov (.t 0), none⟩,
 ⟨some 27, .nilCheck (.t 26), none⟩,
 ⟨some 28, .faddr 1 (.t 27), none⟩,
 ⟨some 29, .load none (.t 28), none⟩,
 ⟨some 30, .mov (.t 1), none⟩,
 ⟨some 31, .bin .add (.t 29) (.t 30), none⟩,
 ⟨some 32, .nilCheck (.t 26), none⟩,
 ⟨some 33, .faddr 1 (.t 32), none⟩,
 ⟨none, .store none (.t 33) (.t 31), none⟩]
def q9m : List SOper := [
 ⟨some 34, .mov (.t 0), none⟩,
 ⟨some 35, .nilCheck (.t 34), none⟩,
 ⟨some 36, .faddr 0 (.t 35), none⟩,
 ⟨some 37, .load none (.t 36), none⟩,
 ⟨some 38, .mov (.t 0), none⟩,
 ⟨some 39, .nilCheck (.t 38), none⟩,
 ⟨some 40, .faddr 1 (.t 39), none⟩,
 ⟨some 41, .load none (.t 40), none⟩,
 ⟨some 42, .mov (.t 1), none⟩,
 ⟨some 43, .bin .sub (.t 41) (.t 42), none⟩,
 ⟨some 44, .mov (.t 0), none⟩,
 ⟨some 45, .nilCheck (.t 44), none⟩,
 ⟨some 46, .faddr 1 (.t 45), none⟩,
 ⟨some 47, .load none (.t 46), none⟩,
 ⟨some 48, .slice 1 (.t 37) (some (.t 43)) (some (.t 47)) none, none⟩,
 ⟨some 4, .mov (.t 48), none⟩]
def s141 : SCode := (.seq (.region q9h 0 []) (.seq (.seq (.region q9i 0 []) (.cond (.t 22) (.seq (.region q9j 0 []) (.seq (.region q9k 0 []) .ret)) .skip)) (.seq (.region q9l 0 []) (.seq (.region q9m 0 []) .ret))))
theorem zie : qg s141.eq_1 := qh s141.eq_1
theorem xu8 : qa q9h.eq_1 := qc
theorem xu9 : qa q9i.eq_1 := qc
theorem xva : qa q9j.eq_1 := qc
theorem xvb : qa q9k.eq_1 := qc
theorem xvc : qa q9l.eq_1 := qc
theorem xvd : qa q9m.eq_1 := qc
attribute [go_sem] xu8 xu9 xva xvb xvc xvd zie
theorem x4p : FnIs Try.prog 141 Try.f141 [] news s141 [.tmp 4] 49 := x5 follows Try.func141
def q9n : List SOper := [
 ⟨some 2, .mov (.k (.d (.int .i64 0))), none⟩]
def q9o : List SOper := [
 ⟨some 3, .mov (.t 0), none⟩,
 ⟨some 4, .eqnil false .ptr (.t 3), none⟩]
def q9p : List SOper := [
 ⟨some 2, .mov (.k (.d (.int .i64 0))), none⟩]
def q9q : List SOper := [
 ⟨some 5, .mov (.t 0), none⟩,
 ⟨some 6, .nilCheck (.t 5), none⟩,
 ⟨some 7, .faddr 0 (.t 6), none⟩,
 ⟨some 8, .load none (.t 7), none⟩,
 ⟨some 9, .len (.t 8), none⟩,
 ⟨some 10, .mov (.t 0), none⟩,
 ⟨some 11, .nilCheck (.t 10), none⟩,
 ⟨some 12, .faddr 1 (.t 11), none⟩,
 ⟨some 13, .load none (.t 12), none⟩,
 ⟨some 14, .bin .sub (.t 9) (.t 13), none⟩,
 ⟨some 2, .mov (.t 14), none⟩]
def s118 : SCode := (.seq (.region q9n 0 []) (.seq (.seq (.region q9o 0 []) (.cond (.t 4) (.seq (.region q9p 0 []) .ret) .skip)) (.seq (.region q9q 0 []) .ret)))
theorem zif : qg s118.eq_1 := qh s118.eq_1
theorem xve : qa q9n.eq_1 := qc
theorem xvf : qa q9o.eq_1 := qc
theorem xvg : qa q9p.eq_1 := qc
theorem xvh : qa q9q.eq_1 := qc
attribute [go_sem] xve xvf xvg xvh zif
theorem zgy : FnIs Try.prog 118 Try.f118 [] news s118 [.tmp 2] 15 := x5 follows Try.func118
def xvi : List SOper := [
 ⟨some 2, .mov (.k (.d (.int .i64 0))), none⟩]
def xvj : List SOper := [
 ⟨some 4, .mov (.t 0), none⟩,
 ⟨some 5, .eqnil false .ptr (.t 4), none⟩,
 ⟨some 3, .mov (.t 5), none⟩]
def xvk : List SOper := [
 ⟨some 2, .mov (.k (.d (.int .i64 7))), none⟩]
def xvl : List SOper := [
 ⟨some 7, .mov (.t 0), none⟩,
 ⟨some 8, .nilCheck (.t 7), none⟩,
 ⟨some 9, .faddr 2 (.t 8), none⟩,
 ⟨some 10, .load none (.t 9), none⟩,
 ⟨some 11, .mov (.t 10), none⟩,
 ⟨some 12, .mov (.t 0), some (11, false)⟩,
 ⟨some 13, .call (.k (.d (.func (.func 118) [] []))) [(.t 12)], some (11, false)⟩,
 ⟨some 14, .bin .gtr (.t 13) (.k (.d (.int .i64 0))), some (11, false)⟩,
 ⟨some 15, .pick (.t 11) (.k (.d (.bool true))) (.t 14), none⟩,
 ⟨some 6, .mov (.t 15), none⟩]
def xvm : List SOper := [
 ⟨some 2, .mov (.k (.d (.int .i64 4))), none⟩]
def xvn : List SOper := [
 ⟨some 2, .mov (.k (.d (.int .i64 0))), none⟩]
def s84 : SCode := (.seq (.region xvi 0 []) (.seq (.block 0 (.seq (.region xvj 0 []) (.cond (.t 3) (.seq (.region xvk 0 []) .ret) (.seq (.region xvl 0 []) (.cond (.t 6) (.seq (.region xvm 0 []) .ret) .skip))))) (.seq (.region xvn 0 []) .ret)))
theorem e84 : qg s84.eq_1 := qh s84.eq_1
theorem zc4 : qa xvi.eq_1 := qc
theorem zc5 : qa xvj.eq_1 := qc
theorem zc6 : qa xvk.eq_1 := qc
theorem zc7 : qa xvl.eq_1 := qc
theorem zc8 : qa xvm.eq_1 := qc
theorem zc9 : qa xvn.eq_1 := qc
attribute [go_sem] zc4 zc5 zc6 zc7 zc8 zc9 e84
theorem F84 : FnIs Try.prog 84 Try.f84 [] news s84 [.tmp 2] 16 := x5 follows Try.func84
end
theorem qm3 (b : List UInt8) (hb : b.length ≤ 1000000000) : ql Try.prog 61 [.d (.sl 1 (qe b))] [] (.d (.ptr 0 0)) [rdO ⟨b, 0, false⟩] := by
 refine F61.go ?_
 try (refine ev ?_; try exact True.intro)
 (repeat (with_reducible refine ob ?_))
 try (refine ev2 @rdO.eq_1 @Int.ofNat_zero ?_; try exact True.intro)
theorem qm4 (r : Rd) (n : Nat) (hr : r.Ok) (hn : n ≤ 1000000000) : ql Try.prog 141 [.d (.ptr 0 0), .d (.int .i64 n)] [rdO r] (.d (.sl 1 (qe (jk n r).1))) [rdO (jk n r).2] := by
 have h1 := hr.len
 have h2 := hr.pos
 have e1 : IntKind.i64.wrap ((r.b.length : Int) - (r.pos : Int)) = ((r.b.length - r.pos : Nat) : Int) := by rw [xx (by unfold I64; omega)]; omega
 have e2 : IntKind.i64.wrap ((r.pos : Int) + (n : Int)) = ((r.pos + n : Nat) : Int) := by rw [xx (by unfold I64; omega)]; omega
 have e3 : IntKind.i64.wrap ((r.pos : Int) + (n : Int) - (n : Int)) = ((r.pos : Nat) : Int) := by rw [xx (by unfold I64; omega)]; omega
 have e5 : ((r.pos : Int) + (n : Int)).toNat = r.pos + n := by omega
 refine x4p.go ?_
 try (refine ev2 @rdO.eq_1 @e1 ?_; try exact True.intro)
 refine ⟨fun h => by rw [h]; rfl, ?_⟩
 have hd : (r.failed || decide ((n : Int) > ((r.b.length - r.pos : Nat) : Int))) = (r.failed || decide (r.b.length - r.pos < n)) := by
  congr 1; exact decide_eq_decide.2 (by omega)
 refine jj _ (fun h => ?_) (fun h => ?_)
 ·rw [hd] at h
  have hx : jk n r = ([], { r with failed := true }) := by unfold jk; rw [if_pos h]
  try (refine ev2 @hx @qx ?_; try exact True.intro)
 ·rw [hd] at h
  have hx : jk n r = ((r.b.drop r.pos).take n, { r with pos := r.pos + n }) := by unfold jk; rw [if_neg (by rw [h]; simp)]
  simp only [Bool.or_eq_false_iff, decide_eq_false_iff_not] at h
  have e4 : r.pos + n - r.pos = n := by omega
  try (refine ev2 @hx @e2 ?_; try exact True.intro)
  try (refine ev1 @e3 ?_; try exact True.intro)
  (repeat (with_reducible refine ob ?_))
  try (refine ev6 @wp @vj @e4 @e3 @e5 @Int.toNat_natCast ?_; try exact True.intro)
theorem qcu {r : Rd} (hr : r.Ok) (n : Nat) : (jk n r).2.Ok ∧ (jk n r).2.b = r.b := by
 unfold jk
 split
 ·exact ⟨⟨hr.len, hr.pos⟩, rfl⟩
 ·rename_i h
  simp only [Bool.or_eq_true, decide_eq_true_eq, not_or] at h
  have := hr.pos
  exact ⟨⟨hr.len, by simp only; omega⟩, rfl⟩
theorem q32 (r : Rd) (hr : r.Ok) : ql Try.prog 118 [.d (.ptr 0 0)] [rdO r] (.d (.int .i64 (r.b.length - r.pos : Nat))) [rdO r] := by
 have h1 := hr.len
 have h2 := hr.pos
 have e1 : IntKind.i64.wrap ((r.b.length : Int) - (r.pos : Int)) = ((r.b.length - r.pos : Nat) : Int) := by rw [xx (by unfold I64; omega)]; omega
 refine zgy.go ?_
 try (refine ev1 @rdO.eq_1 ?_; try exact True.intro)
 (repeat (with_reducible refine ob ?_)); refine no_ ?_
 try (refine ev1 @e1 ?_; try exact True.intro)
def rEnd (r : Rd) : Int := if r.failed || decide (r.pos < r.b.length) then 4 else 0
theorem qy8 (r : Rd) (hr : r.Ok) : ql Try.prog 84 [.d (.ptr 0 0)] [rdO r] (.d (.int .i64 (rEnd r))) [rdO r] := by
 have h2 := hr.pos
 have hl := q32 r hr
 simp only [rdO] at hl
 obtain ⟨b, p, f⟩ := r
 refine F84.go ?_
 try (refine ev1 @rdO.eq_1 ?_; try exact True.intro)
 (repeat (with_reducible refine ob ?_)); refine no_ ?_
 cases f
 ·try (refine ev ?_; try exact True.intro)
  (repeat (with_reducible refine ob ?_)); refine clO [0] zgy (hl) ?_
  try (refine ev ?_; try exact True.intro)
  refine jj _ (fun h => ?_) (fun h => ?_)
  ·have hx : rEnd ⟨b, p, false⟩ = 4 := by unfold rEnd; rw [if_pos]; simp at h ⊢; omega
   try (refine ev1 @hx ?_; try exact True.intro)
  ·have hx : rEnd ⟨b, p, false⟩ = 0 := by unfold rEnd; rw [if_neg]; simp at h ⊢; omega
   try (refine ev1 @hx ?_; try exact True.intro)
 ·try (refine ev ?_; try exact True.intro)
  refine qev (.int .i64 0) rfl ?_
  try (refine ev1 @rEnd.eq_1 ?_; try exact True.intro)
  (repeat (with_reducible refine ob ?_)); refine qdb ?_
  try (refine ev ?_; try exact True.intro)
def unz (u : Nat) : Int := if u % 2 = 0 then (u / 2 : Nat) else -((u / 2 : Nat) : Int) - 1
def qfa : Nat → Nat → Nat → Rd → Int × Rd
 | 0, _, _, r => (0, { r with failed := true })
 | k + 1, i, u, r =>
  if (jk 1 r).2.failed then (0, (jk 1 r).2) else
   if ((jk 1 r).1.headD 0).toNat < 128 then (unz ((u + ((jk 1 r).1.headD 0).toNat % 128 * 128 ^ i) % 18446744073709551616), { (jk 1 r).2 with failed := (((jk 1 r).1.headD 0).toNat == 0 && decide (0 < i)) || (decide (i = 9) && decide (((jk 1 r).1.headD 0).toNat > 1)) })
   else qfa k (i + 1) ((u + ((jk 1 r).1.headD 0).toNat % 128 * 128 ^ i) % 18446744073709551616) (jk 1 r).2
def rInt (r : Rd) : Int × Rd := qfa 10 0 0 r
noncomputable section
set_option maxRecDepth 100000
def q9r : List SOper := [
 ⟨some 2, .mov (.k (.d (.int .i64 0))), none⟩]
def q9s : List SOper := [
 ⟨some 3, .mov (.k (.d (.int .u64 0))), none⟩]
def q9t : List SOper := [
 ⟨some 6, .mov (.k (.d (.int .i64 0))), none⟩]
def q9u : List SOper := [
 ⟨some 7, .bin .lss (.t 6) (.k (.d (.int .i64 10))), none⟩]
def q9v : List SOper := [
 ⟨some 8, .mov (.t 6), none⟩,
 ⟨some 4, .mov (.t 8), none⟩]
def q9w : List SOper := [
 ⟨some 9, .mov (.t 0), none⟩,
 ⟨some 10, .call (.k (.d (.func (.func 141) [] []))) [(.t 9), (.k (.d (.int .i64 1)))], none⟩,
 ⟨some 5, .mov (.t 10), none⟩]
def q9x : List SOper := [
 ⟨some 11, .mov (.t 0), none⟩,
 ⟨some 12, .nilCheck (.t 11), none⟩,
 ⟨some 13, .faddr 2 (.t 12), none⟩,
 ⟨some 14, .load none (.t 13), none⟩]
def q9y : List SOper := [
 ⟨some 2, .mov (.k (.d (.int .i64 0))), none⟩]
def q9z : List SOper := [
 ⟨some 15, .mov (.t 3), none⟩,
 ⟨some 16, .mov (.t 5), none⟩,
 ⟨some 17, .iaddr 1 (.t 16) (.k (.d (.int .i64 0))), none⟩,
 ⟨some 18, .load none (.t 17), none⟩,
 ⟨some 19, .bin .and (.t 18) (.k (.d (.int .u8 127))), none⟩,
 ⟨some 20, .conv .u64 (.t 19), none⟩,
 ⟨some 21, .mov (.t 4), none⟩,
 ⟨some 22, .bin .mul (.k (.d (.int .i64 7))) (.t 21), none⟩,
 ⟨some 23, .bin .shl (.t 20) (.t 22), none⟩,
 ⟨some 24, .bin .or (.t 15) (.t 23), none⟩,
 ⟨some 3, .mov (.t 24), none⟩]
def q90 : List SOper := [
 ⟨some 25, .mov (.t 5), none⟩,
 ⟨some 26, .iaddr 1 (.t 25) (.k (.d (.int .i64 0))), none⟩,
 ⟨some 27, .load none (.t 26), none⟩,
 ⟨some 28, .bin .lss (.t 27) (.k (.d (.int .u8 128))), none⟩]
def qy9 : List SOper := [
 ⟨some 29, .mov (.t 0), none⟩,
 ⟨some 30, .mov (.t 5), none⟩,
 ⟨some 31, .iaddr 1 (.t 30) (.k (.d (.int .i64 0))), none⟩,
 ⟨some 32, .load none (.t 31), none⟩,
 ⟨some 33, .bin .eql (.t 32) (.k (.d (.int .u8 0))), none⟩,
 ⟨some 34, .mov (.t 33), none⟩,
 ⟨some 35, .mov (.t 4), some (34, true)⟩,
 ⟨some 36, .bin .gtr (.t 35) (.k (.d (.int .i64 0))), some (34, true)⟩,
 ⟨some 37, .pick (.t 34) (.t 36) (.k (.d (.bool false))), none⟩,
 ⟨some 38, .mov (.t 37), none⟩,
 ⟨some 39, .mov (.t 4), some (38, false)⟩,
 ⟨some 40, .bin .eql (.t 39) (.k (.d (.int .i64 9))), some (38, false)⟩,
 ⟨some 41, .mov (.t 40), some (38, false)⟩,
 ⟨some 42, .mov (.t 5), some (41, true)⟩,
 ⟨some 43, .iaddr 1 (.t 42) (.k (.d (.int .i64 0))), some (41, true)⟩,
 ⟨some 44, .load none (.t 43), some (41, true)⟩,
 ⟨some 45, .bin .gtr (.t 44) (.k (.d (.int .u8 1))), some (41, true)⟩,
 ⟨some 46, .pick (.t 41) (.t 45) (.k (.d (.bool false))), some (38, false)⟩,
 ⟨some 47, .pick (.t 38) (.k (.d (.bool true))) (.t 46), none⟩,
 ⟨some 48, .nilCheck (.t 29), none⟩,
 ⟨some 49, .faddr 2 (.t 48), none⟩,
 ⟨none, .store none (.t 49) (.t 47), none⟩]
def qza : List SOper := [
 ⟨some 50, .mov (.t 3), none⟩,
 ⟨some 51, .bin .shr (.t 50) (.k (.d (.int .u64 1))), none⟩,
 ⟨some 52, .conv .i64 (.t 51), none⟩,
 ⟨some 53, .mov (.t 3), none⟩,
 ⟨some 54, .bin .and (.t 53) (.k (.d (.int .u64 1))), none⟩,
 ⟨some 55, .conv .i64 (.t 54), none⟩,
 ⟨some 56, .neg (.t 55), none⟩,
 ⟨some 57, .bin .xor (.t 52) (.t 56), none⟩,
 ⟨some 2, .mov (.t 57), none⟩]
def qzb : List SOper := [
 ⟨some 58, .bin .add (.t 6) (.k (.d (.int .i64 1))), none⟩,
 ⟨some 6, .mov (.t 58), none⟩]
def qsf : SCode := (.seq (.region q9u 0 []) (.seq (.cond (.t 7) .skip (.exit 0)) (.seq (.block 1 (.seq (.region q9v 0 []) (.seq (.region q9w 0 []) (.seq (.seq (.region q9x 0 []) (.cond (.t 14) (.seq (.region q9y 0 []) .ret) .skip)) (.seq (.region q9z 0 []) (.seq (.region q90 0 []) (.cond (.t 28) (.seq (.region qy9 0 []) (.seq (.region qza 0 []) .ret)) .skip))))))) (.region qzb 0 []))))
theorem xgg : qg qsf.eq_1 := qh qsf.eq_1
def qzc : List SOper := [
 ⟨some 59, .mov (.t 0), none⟩,
 ⟨some 60, .nilCheck (.t 59), none⟩,
 ⟨some 61, .faddr 2 (.t 60), none⟩,
 ⟨none, .store none (.t 61) (.k (.d (.bool true))), none⟩]
def qzd : List SOper := [
 ⟨some 2, .mov (.k (.d (.int .i64 0))), none⟩]
def s106 : SCode := (.seq (.region q9r 0 []) (.seq (.region q9s 0 []) (.seq (.seq (.region q9t 0 []) (.block 0 (.loop qsf))) (.seq (.region qzc 0 []) (.seq (.region qzd 0 []) .ret)))))
theorem zig : qg s106.eq_1 := qh s106.eq_1
theorem xvo : qa q9r.eq_1 := qc
theorem xvp : qa q9s.eq_1 := qc
theorem xvq : qa q9t.eq_1 := qc
theorem xvr : qa q9u.eq_1 := qc
theorem xvs : qa q9v.eq_1 := qc
theorem xvt : qa q9w.eq_1 := qc
theorem xvu : qa q9x.eq_1 := qc
theorem xvv : qa q9y.eq_1 := qc
theorem xvw : qa q9z.eq_1 := qc
theorem xvx : qa q90.eq_1 := qc
theorem xgh : qa qy9.eq_1 := qc
theorem xgi : qa qza.eq_1 := qc
theorem xgj : qa qzb.eq_1 := qc
theorem xgk : qa qzc.eq_1 := qc
theorem xgl : qa qzd.eq_1 := qc
attribute [go_sem] xvo xvp xvq xvr xvs xvt xvu xvv xvw xvx xgh xgi xgj xgg xgk xgl zig
theorem xvy : FnIs Try.prog 106 Try.f106 [] news s106 [.tmp 2] 62 := x5 follows Try.func106
end
theorem qpp {r : Rd} (h : (jk 1 r).2.failed = false) : ∃ c, (jk 1 r).1 = [c] := by
 unfold jk at h ⊢
 split at h
 ·cases h
 ·rename_i hn
  rw [if_neg hn]
  simp only [Bool.or_eq_true, decide_eq_true_eq, not_or] at hn
  have : r.pos < r.b.length := by omega
  exact ⟨r.b[r.pos], by simp only; rw [List.drop_eq_getElem_cons this]; rfl⟩
theorem qze (u d i : Nat) (hu : u < 2 ^ i) : u ||| d * 2 ^ i = u + d * 2 ^ i := by
 have := Nat.shiftLeft_add_eq_or_of_lt hu d
 rw [Nat.shiftLeft_eq] at this
 rw [Nat.or_comm, ← this, Nat.add_comm]
theorem qzf (i : Nat) : 128 ^ i = 2 ^ (7 * i) := by rw [Nat.pow_mul]
theorem qpq (n a b : Nat) (ha : a < 2 ^ n) (hb : b < 2 ^ n) : qqm n (a : Int) (b : Int) = ((a &&& b : Nat) : Int) := by
 unfold qqm
 rw [BitVec.ofInt_natCast, BitVec.ofInt_natCast, BitVec.toNat_and, BitVec.toNat_ofNat, BitVec.toNat_ofNat, Nat.mod_eq_of_lt ha, Nat.mod_eq_of_lt hb]
theorem q33 {u c i : Nat} (hi : i ≤ 9) (hu : u < 128 ^ i) (hc : c < 256) :
  IntKind.u64.wrap (bvOr 64 (u : Int) (IntKind.u64.wrap (IntKind.u64.wrap (IntKind.u8.wrap (qqm 8 (c : Int) 127)) * 2 ^ min (7 * i) 64))) = (((u + c % 128 * 128 ^ i) % 18446744073709551616 : Nat) : Int) := by
 have e1 : qqm 8 (c : Int) 127 = ((c % 128 : Nat) : Int) := by
  have := qpq 8 c 127 (by omega) (by omega)
  rw [show c &&& 127 = c % 128 from Nat.and_two_pow_sub_one_eq_mod c 7] at this
  exact this
 have e2 : min (7 * i) 64 = 7 * i := by omega
 have hcm : c % 128 < 128 := Nat.mod_lt _ (by decide)
 rw [e1, e2, qi4, show ((c % 128 : Nat) : Int) % 256 = ((c % 128 : Nat) : Int) by omega, f2 _ (by omega)]
 generalize c % 128 = d at hcm
 have e3 : ((d : Nat) : Int) * 2 ^ (7 * i) = ((d * 2 ^ (7 * i) : Nat) : Int) := by simp
 rw [e3]
 have hp : 128 ^ i ≤ 128 ^ 9 := Nat.pow_le_pow_right (by decide) hi
 have hp9 : (128 : Nat) ^ 9 = 9223372036854775808 := by decide
 have e4 : IntKind.u64.wrap ((d * 2 ^ (7 * i) : Nat) : Int) = ((d * 2 ^ (7 * i) % 18446744073709551616 : Nat) : Int) := by rw [qdz]; omega
 rw [e4, qtg _ _ (by omega) (Nat.mod_lt _ (by decide)), qzf]
 rw [qzf] at hu
 rcases Nat.lt_or_ge i 9 with h9 | h9
 ·have hp8 : 128 ^ i ≤ 128 ^ 8 := Nat.pow_le_pow_right (by decide) (by omega)
  have e8 : (128 : Nat) ^ 8 = 72057594037927936 := by decide
  rw [qzf] at hp8
  have hd : d * 2 ^ (7 * i) ≤ 127 * 72057594037927936 := Nat.mul_le_mul (by omega) (by omega)
  rw [Nat.mod_eq_of_lt (by omega), qze _ _ _ hu, f2 _ (by omega), Nat.mod_eq_of_lt (by omega)]
 ·have : i = 9 := by omega
  subst this
  have e9 : (2 : Nat) ^ (7 * 9) = 9223372036854775808 := by decide
  rw [e9] at hu ⊢
  have h1 : d * 9223372036854775808 % 18446744073709551616 = d % 2 * 2 ^ 63 := by
   have : (2 : Nat) ^ 63 = 9223372036854775808 := by decide
   rw [this]; omega
  rw [h1, qze u (d % 2) 63 (by
   have : (2 : Nat) ^ 63 = 9223372036854775808 := by decide
   omega)]
  have : (2 : Nat) ^ 63 = 9223372036854775808 := by decide
  rw [this, f2 _ (by omega)]
  congr 1
  omega
theorem q34 {u : Nat} (h : u < 18446744073709551616) :
  IntKind.i64.wrap (qnb 64 (IntKind.i64.wrap ((u : Int).fdiv (2 ^ min 1 64))) (IntKind.i64.wrap (0 - IntKind.i64.wrap (IntKind.u64.wrap (qqm 64 (u : Int) 1))))) = unz u := by
 have e1 : (u : Int).fdiv (2 ^ min 1 64) = ((u / 2 : Nat) : Int) := by
  show (u : Int).fdiv 2 = _
  rw [Int.fdiv_eq_ediv_of_nonneg _ (by decide)]; omega
 have e2 : qqm 64 (u : Int) 1 = ((u % 2 : Nat) : Int) := by
  have := qpq 64 u 1 (by omega) (by omega)
  rw [show u &&& 1 = u % 2 from Nat.and_two_pow_sub_one_eq_mod u 1] at this
  exact this
 rw [e1, e2, f2 _ (by omega), xx (n := ((u / 2 : Nat) : Int)) (by unfold I64; omega), xx (n := ((u % 2 : Nat) : Int)) (by unfold I64; omega), xx (n := 0 - ((u % 2 : Nat) : Int)) (by unfold I64; omega)]
 unfold qnb unz
 rcases Nat.mod_two_eq_zero_or_one u with hp | hp
 ·rw [hp, if_pos rfl]
  have : BitVec.ofInt 64 (0 - ((0 : Nat) : Int)) = 0#64 := by decide
  rw [this, BitVec.xor_zero, BitVec.ofInt_natCast, BitVec.toNat_ofNat, Nat.mod_eq_of_lt (by omega), xx (by unfold I64; omega)]
 ·rw [hp, if_neg (by decide)]
  have e3 : BitVec.ofInt 64 (0 - ((1 : Nat) : Int)) = BitVec.ofInt 64 18446744073709551615 := by decide
  rw [e3, qdm _ (by omega)]
  simp only [IntKind.wrap, IntKind.bits, IntKind.signed]
  simp
  omega
def q35 (i u : Nat) (r : Rd) : St := ⟨[(0, true, .d (.ptr 0 0)), (3, true, .d (.int .u64 (u : Nat))), (6, true, .d (.int .i64 (i : Nat)))], [rdO r], [], 1⟩
set_option maxRecDepth 10000 in
theorem qm5 (r : Rd) (hr : r.Ok) : ql Try.prog 106 [.d (.ptr 0 0)] [rdO r] (.d (.int .i64 (rInt r).1)) [rdO (rInt r).2] := by
 refine xvy.go ?_
 try (refine ev ?_; try exact True.intro)
 refine qy (fun i : { x : Nat × Nat × Rd // x.1 ≤ 10 ∧ x.2.1 < 18446744073709551616 ∧ (x.1 ≤ 9 → x.2.1 < 128 ^ x.1) ∧ x.2.2.Ok ∧ qfa (10 - x.1) x.1 x.2.1 x.2.2 = rInt r } => q35 i.val.1 i.val.2.1 i.val.2.2) (fun i => 10 - i.val.1) ⟨(0, 0, r), by simp, by simp, by simp, hr, rfl⟩ ?_ (fun i => ?_)
 ·try (refine ev3 @q35.eq_1 @Int.ofNat_zero @rdO.eq_1 ?_; try exact True.intro)
 obtain ⟨⟨i, u, rd⟩, hi, hu, hu2, hrd, hx⟩ := i
 simp only at hi hu hu2 hrd hx
 try (refine ev2 @q35.eq_1 @rdO.eq_1 ?_; try exact True.intro)
 (repeat (with_reducible refine ob ?_)); refine jj _ (fun h => ?_) (fun h => ?_)
 ·have hil : i < 10 := by simp at h; omega
  have hn := qm4 rd 1 hrd (by decide)
  obtain ⟨hn1, hn2⟩ := qcu hrd 1
  have hk : 10 - i = (10 - (i + 1)) + 1 := by omega
  rw [hk, qfa] at hx
  try (refine ev ?_; try exact True.intro)
  simp only [rdO] at hn
  (repeat (with_reducible refine ob ?_)); refine clO [0] x4p (hn) ?_
  try (refine ev ?_; try exact True.intro)
  cases hf : (jk 1 rd).2.failed with
  | true =>
   rw [if_pos hf] at hx
   (repeat (with_reducible refine ob ?_)); refine qdb ?_
   try (refine ev2 hx.symm @hf ?_; try exact True.intro)
  | false =>
   rw [if_neg (by rw [hf]; simp)] at hx
   obtain ⟨c, hc⟩ := qpp hf
   rw [hc] at hx ⊢
   simp only [List.headD_cons] at hx
   (repeat (with_reducible refine ob ?_)); refine no_ ?_
   have hcb : qe [c] = [[.int .u8 (c.toNat : Nat)]] := rfl
   have hlt := qcm c
   have hi9 : i ≤ 9 := by omega
   have hu' : (u + c.toNat % 128 * 128 ^ i) % 18446744073709551616 < 18446744073709551616 := Nat.mod_lt _ (by decide)
   have hu2' : i ≤ 8 → (u + c.toNat % 128 * 128 ^ i) % 18446744073709551616 < 128 ^ (i + 1) := fun h8 => by
    have h1 := hu2 (by omega)
    have h2 : c.toNat % 128 < 128 := Nat.mod_lt _ (by decide)
    have h3 : c.toNat % 128 * 128 ^ i ≤ 127 * 128 ^ i := Nat.mul_le_mul_right _ (by omega)
    have h4 := Nat.mod_le (u + c.toNat % 128 * 128 ^ i) 18446744073709551616
    rw [Nat.pow_succ]
    omega
   have a1 : IntKind.i64.wrap (7 * (i : Int)) = ((7 * i : Nat) : Int) := by rw [xx (by unfold I64; omega)]; omega
   try (refine ev3 @hcb @a1 (q33 hi9 (hu2 hi9) hlt) ?_; try exact True.intro)
   refine ⟨by omega, ?_⟩
   generalize (u + c.toNat % 128 * 128 ^ i) % 18446744073709551616 = u' at hx hu' hu2'
   refine jj _ (fun hc => ?_) (fun hc => ?_)
   ·have h128 : c.toNat < 128 := by simp at hc; omega
    simp only [h128, if_true] at hx
    try (refine ev ?_; try exact True.intro)
    have hb : (((c.toNat : Nat) : Int) == 0 && decide ((i : Int) > 0) || ((i : Int) == 9) && decide (((c.toNat : Nat) : Int) > 1)) = (c.toNat == 0 && decide (0 < i) || decide (i = 9) && decide (c.toNat > 1)) := by
     have b1 : (((c.toNat : Nat) : Int) == 0) = (c.toNat == 0) := by rw [Bool.eq_iff_iff]; simp
     have b2 : decide ((i : Int) > 0) = decide (0 < i) := decide_eq_decide.2 (by omega)
     have b3 : ((i : Int) == 9) = decide (i = 9) := by rw [Bool.eq_iff_iff]; simp; omega
     have b4 : decide (((c.toNat : Nat) : Int) > 1) = decide (c.toNat > 1) := decide_eq_decide.2 (by omega)
     rw [b1, b2, b3, b4]
    rw [q34 hu', hb, ← hx]
    exact ⟨fun h => ⟨h, fun h2 => by rw [h, h2]; rfl⟩, fun h => by rw [h]; rfl, rfl, (by simp only [go_sem]), rfl, rfl⟩
   ·have h128 : ¬ c.toNat < 128 := by simp at hc; omega
    simp only [h128, if_false] at hx
    try (refine ev ?_; try exact True.intro)
    refine ⟨⟨(i + 1, u', (jk 1 rd).2), hil, hu', fun h => hu2' (by omega), hn1, hx⟩, ?_, by dsimp only; omega⟩
    try (refine ev4 @q35.eq_1 @rdO.eq_1 @hf (qv (show i < 9223372036854775807 by omega)) ?_; try exact True.intro)
 ·have hil : i = 10 := by simp at h; omega
  subst hil
  have : rInt r = (0, { rd with failed := true }) := hx.symm
  try (refine ev2 @this @rdO.eq_1 ?_; try exact True.intro)
end Go.Proofs.Ytinnaedmdoengaa
namespace Go.Proofs.Ytinnaedmdoengaa
open Go.Abs
set_option linter.unusedSimpArgs false
set_option linter.unusedVariables false
attribute [go_sem] exists_eq' List.getD_nil
theorem qpr : ∀ (k i u : Nat) {r : Rd}, r.Ok → (qfa k i u r).2.Ok ∧ (qfa k i u r).2.b = r.b
 | 0, i, u, r, h => ⟨⟨h.len, h.pos⟩, rfl⟩
 | k + 1, i, u, r, h => by
  have hn := qcu h 1
  rw [qfa]
  split
  ·exact hn
  ·split
   ·exact ⟨⟨hn.1.len, hn.1.pos⟩, hn.2⟩
   ·have := qpr k (i + 1) ((u + ((jk 1 r).1.headD 0).toNat % 128 * 128 ^ i) % 18446744073709551616) hn.1
    exact ⟨this.1, this.2.trans hn.2⟩
theorem qay {r : Rd} (h : r.Ok) : (rInt r).2.Ok ∧ (rInt r).2.b = r.b := qpr 10 0 0 h
def Rd.fail (r : Rd) (f : Bool) : Rd := ⟨r.b, r.pos, f⟩
theorem Rd.Ok.fail {r : Rd} (h : r.Ok) (f : Bool) : (r.fail f).Ok := ⟨h.len, h.pos⟩
def qw (lo hi : Int) (r : Rd) : Int × Rd := ((rInt r).1, (rInt r).2.fail ((rInt r).2.failed || decide ((rInt r).1 < lo) || decide ((rInt r).1 > hi)))
def js (most : Int) (r : Rd) : List UInt8 × Rd := if (qw 0 most r).2.failed then ([], (qw 0 most r).2) else jk (qw 0 most r).1.toNat (qw 0 most r).2
def qaf {α : Type} (z : α) (f : Rd → α × Rd) (r : Rd) : α × Rd := if r.failed then (z, r) else if (f r).2.failed then (z, ⟨(f r).2.b, r.pos, (f r).2.failed⟩) else f r
theorem zu {r : Rd} (h : r.Ok) (lo hi : Int) : (qw lo hi r).2.Ok ∧ (qw lo hi r).2.b = r.b := ⟨(qay h).1.fail _, (qay h).2⟩
theorem w6 {r : Rd} {lo hi : Int} (h : (qw lo hi r).2.failed = false) : lo ≤ (qw lo hi r).1 ∧ (qw lo hi r).1 ≤ hi := by
 simp only [qw, Rd.fail, Bool.or_eq_false_iff, decide_eq_false_iff_not] at h ⊢
 omega
theorem qd4 {r : Rd} (h : r.Ok) (most : Int) : (js most r).2.Ok ∧ (js most r).2.b = r.b := by
 have h1 := zu h 0 most
 unfold js
 split
 ·exact h1
 ·have h2 := qcu h1.1 (qw 0 most r).1.toNat
  exact ⟨h2.1, h2.2.trans h1.2⟩
theorem qbg {α : Type} {z : α} {f : Rd → α × Rd} {r : Rd} (h : r.Ok) (hf : (f r).2.Ok ∧ (f r).2.b = r.b) : (qaf z f r).2.Ok ∧ (qaf z f r).2.b = r.b := by
 unfold qaf
 split
 ·exact ⟨h, rfl⟩
 ·split
  ·exact ⟨⟨hf.1.len, by simp only [hf.2]; exact h.pos⟩, hf.2⟩
  ·exact hf
noncomputable section
set_option maxRecDepth 100000
def q91 : List SOper := [
 ⟨some 6, .mov (.k (.d (.int .i64 0))), none⟩]
def q92 : List SOper := [
 ⟨some 8, .mov (.t 0), none⟩,
 ⟨some 9, .call (.k (.d (.func (.func 106) [] []))) [(.t 8)], none⟩,
 ⟨some 7, .mov (.t 9), none⟩]
def q93 : List SOper := [
 ⟨some 10, .mov (.t 0), none⟩,
 ⟨some 11, .mov (.t 0), none⟩,
 ⟨some 12, .nilCheck (.t 11), none⟩,
 ⟨some 13, .faddr 2 (.t 12), none⟩,
 ⟨some 14, .load none (.t 13), none⟩,
 ⟨some 15, .mov (.t 14), none⟩,
 ⟨some 16, .mov (.t 7), some (15, false)⟩,
 ⟨some 17, .mov (.t 1), some (15, false)⟩,
 ⟨some 18, .bin .lss (.t 16) (.t 17), some (15, false)⟩,
 ⟨some 19, .pick (.t 15) (.k (.d (.bool true))) (.t 18), none⟩,
 ⟨some 20, .mov (.t 19), none⟩,
 ⟨some 21, .mov (.t 7), some (20, false)⟩,
 ⟨some 22, .mov (.t 2), some (20, false)⟩,
 ⟨some 23, .bin .gtr (.t 21) (.t 22), some (20, false)⟩,
 ⟨some 24, .pick (.t 20) (.k (.d (.bool true))) (.t 23), none⟩,
 ⟨some 25, .nilCheck (.t 10), none⟩,
 ⟨some 26, .faddr 2 (.t 25), none⟩,
 ⟨none, .store none (.t 26) (.t 24), none⟩]
def q94 : List SOper := [
 ⟨some 27, .mov (.t 7), none⟩,
 ⟨some 6, .mov (.t 27), none⟩]
def s112 : SCode := (.seq (.region q91 0 []) (.seq (.region q92 0 []) (.seq (.region q93 0 []) (.seq (.region q94 0 []) .ret))))
theorem zih : qg s112.eq_1 := qh s112.eq_1
theorem xvz : qa q91.eq_1 := qc
theorem xv0 : qa q92.eq_1 := qc
theorem xv1 : qa q93.eq_1 := qc
theorem xv2 : qa q94.eq_1 := qc
attribute [go_sem] xvz xv0 xv1 xv2 zih
theorem xh5 : FnIs Try.prog 112 Try.f112 [] news s112 [.tmp 6] 28 := x5 follows Try.func112
def q95 : List SOper := [
 ⟨some 4, .mov (.k (.d .nilsl)), none⟩]
def q96 : List SOper := [
 ⟨some 6, .mov (.t 0), none⟩,
 ⟨some 7, .mov (.t 1), none⟩,
 ⟨some 8, .call (.k (.d (.func (.func 112) [] []))) [(.t 6), (.k (.d (.int .i64 0))), (.t 7)], none⟩,
 ⟨some 5, .mov (.t 8), none⟩]
def q97 : List SOper := [
 ⟨some 9, .mov (.t 0), none⟩,
 ⟨some 10, .nilCheck (.t 9), none⟩,
 ⟨some 11, .faddr 2 (.t 10), none⟩,
 ⟨some 12, .load none (.t 11), none⟩]
def q98 : List SOper := [
 ⟨some 4, .mov (.k (.d .nilsl)), none⟩]
def q99 : List SOper := [
 ⟨some 13, .mov (.t 0), none⟩,
 ⟨some 14, .mov (.t 5), none⟩,
 ⟨some 15, .call (.k (.d (.func (.func 141) [] []))) [(.t 13), (.t 14)], none⟩,
 ⟨some 4, .mov (.t 15), none⟩]
def s117 : SCode := (.seq (.region q95 0 []) (.seq (.region q96 0 []) (.seq (.seq (.region q97 0 []) (.cond (.t 12) (.seq (.region q98 0 []) .ret) .skip)) (.seq (.region q99 0 []) .ret))))
theorem zii : qg s117.eq_1 := qh s117.eq_1
theorem xv3 : qa q95.eq_1 := qc
theorem xv4 : qa q96.eq_1 := qc
theorem xv5 : qa q97.eq_1 := qc
theorem xv6 : qa q98.eq_1 := qc
theorem xv7 : qa q99.eq_1 := qc
attribute [go_sem] xv3 xv4 xv5 xv6 xv7 zii
theorem zda : FnIs Try.prog 117 Try.f117 [] news s117 [.tmp 4] 16 := x5 follows Try.func117
def xaa : List SOper := [
 ⟨some 2, .mov (.k (.d (.bool false))), none⟩]
def xab : List SOper := [
 ⟨some 4, .mov (.t 0), none⟩,
 ⟨some 5, .call (.k (.d (.func (.func 141) [] []))) [(.t 4), (.k (.d (.int .i64 1)))], none⟩,
 ⟨some 3, .mov (.t 5), none⟩]
def xac : List SOper := [
 ⟨some 6, .mov (.t 0), none⟩,
 ⟨some 7, .mov (.t 0), none⟩,
 ⟨some 8, .nilCheck (.t 7), none⟩,
 ⟨some 9, .faddr 2 (.t 8), none⟩,
 ⟨some 10, .load none (.t 9), none⟩,
 ⟨some 11, .mov (.t 10), none⟩,
 ⟨some 12, .mov (.t 3), some (11, false)⟩,
 ⟨some 13, .iaddr 1 (.t 12) (.k (.d (.int .i64 0))), some (11, false)⟩,
 ⟨some 14, .load none (.t 13), some (11, false)⟩,
 ⟨some 15, .bin .gtr (.t 14) (.k (.d (.int .u8 1))), some (11, false)⟩,
 ⟨some 16, .pick (.t 11) (.k (.d (.bool true))) (.t 15), none⟩,
 ⟨some 17, .nilCheck (.t 6), none⟩,
 ⟨some 18, .faddr 2 (.t 17), none⟩,
 ⟨none, .store none (.t 18) (.t 16), none⟩]
def xad : List SOper := [
 ⟨some 19, .mov (.t 0), none⟩,
 ⟨some 20, .nilCheck (.t 19), none⟩,
 ⟨some 21, .faddr 2 (.t 20), none⟩,
 ⟨some 22, .load none (.t 21), none⟩,
 ⟨some 23, .not (.t 22), none⟩,
 ⟨some 24, .mov (.t 23), none⟩,
 ⟨some 25, .mov (.t 3), some (24, true)⟩,
 ⟨some 26, .iaddr 1 (.t 25) (.k (.d (.int .i64 0))), some (24, true)⟩,
 ⟨some 27, .load none (.t 26), some (24, true)⟩,
 ⟨some 28, .bin .eql (.t 27) (.k (.d (.int .u8 1))), some (24, true)⟩,
 ⟨some 29, .pick (.t 24) (.t 28) (.k (.d (.bool false))), none⟩,
 ⟨some 2, .mov (.t 29), none⟩]
def s114 : SCode := (.seq (.region xaa 0 []) (.seq (.region xab 0 []) (.seq (.region xac 0 []) (.seq (.region xad 0 []) .ret))))
theorem zij : qg s114.eq_1 := qh s114.eq_1
theorem xv8 : qa xaa.eq_1 := qc
theorem xv9 : qa xab.eq_1 := qc
theorem xwa : qa xac.eq_1 := qc
theorem xwb : qa xad.eq_1 := qc
attribute [go_sem] xv8 xv9 xwa xwb zij
def xae : List SOper := [
 ⟨some 3, .mov (.k (.d (.int .i64 0))), none⟩]
def xaf : List SOper := [
 ⟨some 4, .load none (.t 0), none⟩,
 ⟨some 5, .load none (.t 1), none⟩,
 ⟨some 6, .load none (.t 2), none⟩,
 ⟨some 7, .call (.k (.d (.func (.func 112) [] []))) [(.t 4), (.t 5), (.t 6)], none⟩,
 ⟨some 3, .mov (.t 7), none⟩]
def s111 : SCode := (.seq (.region xae 0 []) (.seq (.region xaf 0 []) .ret))
theorem zik : qg s111.eq_1 := qh s111.eq_1
theorem xwc : qa xae.eq_1 := qc
theorem xwd : qa xaf.eq_1 := qc
attribute [go_sem] xwc xwd zik
def xag : List SOper := [
 ⟨some 2, .mov (.k (.d .nilsl)), none⟩]
def xah : List SOper := [
 ⟨some 3, .load none (.t 0), none⟩,
 ⟨some 4, .load none (.t 1), none⟩,
 ⟨some 5, .call (.k (.d (.func (.func 117) [] []))) [(.t 3), (.t 4)], none⟩,
 ⟨some 6, .append false 1 1 (.k (.d .nilsl)) (.t 5), none⟩,
 ⟨some 2, .mov (.t 6), none⟩]
def s116 : SCode := (.seq (.region xag 0 []) (.seq (.region xah 0 []) .ret))
theorem zil : qg s116.eq_1 := qh s116.eq_1
theorem xwe : qa xag.eq_1 := qc
theorem xwf : qa xah.eq_1 := qc
attribute [go_sem] xwe xwf zil
def xai : List SOper := [
 ⟨some 4, .mov (.k (.d (.int .i64 0))), none⟩]
def xaj : List SOper := [
 ⟨some 5, .mov (.k (.d (.int .i64 0))), none⟩]
def xak : List SOper := [
 ⟨some 8, .mov (.t 0), none⟩,
 ⟨some 9, .eqnil false .ptr (.t 8), none⟩,
 ⟨some 10, .mov (.t 9), none⟩,
 ⟨some 11, .mov (.t 0), some (10, false)⟩,
 ⟨some 12, .nilCheck (.t 11), some (10, false)⟩,
 ⟨some 13, .faddr 2 (.t 12), some (10, false)⟩,
 ⟨some 14, .load none (.t 13), some (10, false)⟩,
 ⟨some 15, .pick (.t 10) (.k (.d (.bool true))) (.t 14), none⟩]
def xal : List SOper := [
 ⟨some 16, .mov (.t 5), none⟩,
 ⟨some 4, .mov (.t 16), none⟩]
def xam : List SOper := [
 ⟨some 17, .mov (.t 0), none⟩,
 ⟨some 18, .nilCheck (.t 17), none⟩,
 ⟨some 19, .faddr 1 (.t 18), none⟩,
 ⟨some 20, .load none (.t 19), none⟩,
 ⟨some 6, .mov (.t 20), none⟩]
def xan : List SOper := [
 ⟨some 21, .mov (.t 1), none⟩,
 ⟨some 22, .call (.t 21) [], none⟩,
 ⟨some 7, .mov (.t 22), none⟩]
def xao : List SOper := [
 ⟨some 23, .mov (.t 0), none⟩,
 ⟨some 24, .nilCheck (.t 23), none⟩,
 ⟨some 25, .faddr 2 (.t 24), none⟩,
 ⟨some 26, .load none (.t 25), none⟩]
def xap : List SOper := [
 ⟨some 27, .mov (.t 0), none⟩,
 ⟨some 28, .mov (.t 6), none⟩,
 ⟨some 29, .nilCheck (.t 27), none⟩,
 ⟨some 30, .faddr 1 (.t 29), none⟩,
 ⟨none, .store none (.t 30) (.t 28), none⟩]
def xaq : List SOper := [
 ⟨some 31, .mov (.t 5), none⟩,
 ⟨some 4, .mov (.t 31), none⟩]
def xar : List SOper := [
 ⟨some 32, .mov (.t 7), none⟩,
 ⟨some 4, .mov (.t 32), none⟩]
def s105 : SCode := (.seq (.region xai 0 []) (.seq (.region xaj 0 []) (.seq (.seq (.region xak 0 []) (.cond (.t 15) (.seq (.region xal 0 []) .ret) .skip)) (.seq (.region xam 0 []) (.seq (.region xan 0 []) (.seq (.seq (.region xao 0 []) (.cond (.t 26) (.seq (.region xap 0 []) (.seq (.region xaq 0 []) .ret)) .skip)) (.seq (.region xar 0 []) .ret)))))))
theorem zim : qg s105.eq_1 := qh s105.eq_1
theorem xwg : qa xai.eq_1 := qc
theorem xwh : qa xaj.eq_1 := qc
theorem xwi : qa xak.eq_1 := qc
theorem xwj : qa xal.eq_1 := qc
theorem xwk : qa xam.eq_1 := qc
theorem xwl : qa xan.eq_1 := qc
theorem xwm : qa xao.eq_1 := qc
theorem xwn : qa xap.eq_1 := qc
theorem xwo : qa xaq.eq_1 := qc
theorem xwp : qa xar.eq_1 := qc
attribute [go_sem] xwg xwh xwi xwj xwk xwl xwm xwn xwo xwp zim
theorem x4q : FnIs Try.prog 105 Try.f105 [] news s105 [.tmp 4] 33 := x5 follows Try.func105
def xas : List SOper := [
 ⟨some 4, .mov (.k (.d (.bool false))), none⟩]
def xat : List SOper := [
 ⟨some 5, .mov (.k (.d (.bool false))), none⟩]
def xau : List SOper := [
 ⟨some 8, .mov (.t 0), none⟩,
 ⟨some 9, .eqnil false .ptr (.t 8), none⟩,
 ⟨some 10, .mov (.t 9), none⟩,
 ⟨some 11, .mov (.t 0), some (10, false)⟩,
 ⟨some 12, .nilCheck (.t 11), some (10, false)⟩,
 ⟨some 13, .faddr 2 (.t 12), some (10, false)⟩,
 ⟨some 14, .load none (.t 13), some (10, false)⟩,
 ⟨some 15, .pick (.t 10) (.k (.d (.bool true))) (.t 14), none⟩]
def xav : List SOper := [
 ⟨some 16, .mov (.t 5), none⟩,
 ⟨some 4, .mov (.t 16), none⟩]
def xaw : List SOper := [
 ⟨some 17, .mov (.t 0), none⟩,
 ⟨some 18, .nilCheck (.t 17), none⟩,
 ⟨some 19, .faddr 1 (.t 18), none⟩,
 ⟨some 20, .load none (.t 19), none⟩,
 ⟨some 6, .mov (.t 20), none⟩]
def xax : List SOper := [
 ⟨some 21, .mov (.t 1), none⟩,
 ⟨some 22, .call (.t 21) [], none⟩,
 ⟨some 7, .mov (.t 22), none⟩]
def xay : List SOper := [
 ⟨some 23, .mov (.t 0), none⟩,
 ⟨some 24, .nilCheck (.t 23), none⟩,
 ⟨some 25, .faddr 2 (.t 24), none⟩,
 ⟨some 26, .load none (.t 25), none⟩]
def xaz : List SOper := [
 ⟨some 27, .mov (.t 0), none⟩,
 ⟨some 28, .mov (.t 6), none⟩,
 ⟨some 29, .nilCheck (.t 27), none⟩,
 ⟨some 30, .faddr 1 (.t 29), none⟩,
 ⟨none, .store none (.t 30) (.t 28), none⟩]
def xa0 : List SOper := [
 ⟨some 31, .mov (.t 5), none⟩,
 ⟨some 4, .mov (.t 31), none⟩]
def xa1 : List SOper := [
 ⟨some 32, .mov (.t 7), none⟩,
 ⟨some 4, .mov (.t 32), none⟩]
def s113 : SCode := (.seq (.region xas 0 []) (.seq (.region xat 0 []) (.seq (.seq (.region xau 0 []) (.cond (.t 15) (.seq (.region xav 0 []) .ret) .skip)) (.seq (.region xaw 0 []) (.seq (.region xax 0 []) (.seq (.seq (.region xay 0 []) (.cond (.t 26) (.seq (.region xaz 0 []) (.seq (.region xa0 0 []) .ret)) .skip)) (.seq (.region xa1 0 []) .ret)))))))
theorem zin : qg s113.eq_1 := qh s113.eq_1
theorem xwq : qa xas.eq_1 := qc
theorem xwr : qa xat.eq_1 := qc
theorem xws : qa xau.eq_1 := qc
theorem xwt : qa xav.eq_1 := qc
theorem xwu : qa xaw.eq_1 := qc
theorem xwv : qa xax.eq_1 := qc
theorem xww : qa xay.eq_1 := qc
theorem xwx : qa xaz.eq_1 := qc
theorem xwy : qa xa0.eq_1 := qc
theorem xwz : qa xa1.eq_1 := qc
attribute [go_sem] xwq xwr xws xwt xwu xwv xww xwx xwy xwz zin
def xa2 : List SOper := [
 ⟨some 4, .mov (.k (.d .nilsl)), none⟩]
def xa3 : List SOper := [
 ⟨some 5, .mov (.k (.d .nilsl)), none⟩]
def xa4 : List SOper := [
 ⟨some 8, .mov (.t 0), none⟩,
 ⟨some 9, .eqnil false .ptr (.t 8), none⟩,
 ⟨some 10, .mov (.t 9), none⟩,
 ⟨some 11, .mov (.t 0), some (10, false)⟩,
 ⟨some 12, .nilCheck (.t 11), some (10, false)⟩,
 ⟨some 13, .faddr 2 (.t 12), some (10, false)⟩,
 ⟨some 14, .load none (.t 13), some (10, false)⟩,
 ⟨some 15, .pick (.t 10) (.k (.d (.bool true))) (.t 14), none⟩]
def xa5 : List SOper := [
 ⟨some 16, .mov (.t 5), none⟩,
 ⟨some 4, .mov (.t 16), none⟩]
def xa6 : List SOper := [
 ⟨some 17, .mov (.t 0), none⟩,
 ⟨some 18, .nilCheck (.t 17), none⟩,
 ⟨some 19, .faddr 1 (.t 18), none⟩,
 ⟨some 20, .load none (.t 19), none⟩,
 ⟨some 6, .mov (.t 20), none⟩]
def xa7 : List SOper := [
 ⟨some 21, .mov (.t 1), none⟩,
 ⟨some 22, .call (.t 21) [], none⟩,
 ⟨some 7, .mov (.t 22), none⟩]
def xa8 : List SOper := [
 ⟨some 23, .mov (.t 0), none⟩,
 ⟨some 24, .nilCheck (.t 23), none⟩,
 ⟨some 25, .faddr 2 (.t 24), none⟩,
 ⟨some 26, .load none (.t 25), none⟩]
def xa9 : List SOper := [
 ⟨some 27, .mov (.t 0), none⟩,
 ⟨some 28, .mov (.t 6), none⟩,
 ⟨some 29, .nilCheck (.t 27), none⟩,
 ⟨some 30, .faddr 1 (.t 29), none⟩,
 ⟨none, .store none (.t 30) (.t 28), none⟩]
def xba : List SOper := [
 ⟨some 31, .mov (.t 5), none⟩,
 ⟨some 4, .mov (.t 31), none⟩]
def xbb : List SOper := [
 ⟨some 32, .mov (.t 7), none⟩,
 ⟨some 4, .mov (.t 32), none⟩]
def s115 : SCode := (.seq (.region xa2 0 []) (.seq (.region xa3 0 []) (.seq (.seq (.region xa4 0 []) (.cond (.t 15) (.seq (.region xa5 0 []) .ret) .skip)) (.seq (.region xa6 0 []) (.seq (.region xa7 0 []) (.seq (.seq (.region xa8 0 []) (.cond (.t 26) (.seq (.region xa9 0 []) (.seq (.region xba 0 []) .ret)) .skip)) (.seq (.region xbb 0 []) .ret)))))))
theorem zio : qg s115.eq_1 := qh s115.eq_1
theorem xw0 : qa xa2.eq_1 := qc
theorem xw1 : qa xa3.eq_1 := qc
theorem xw2 : qa xa4.eq_1 := qc
theorem xw3 : qa xa5.eq_1 := qc
theorem xw4 : qa xa6.eq_1 := qc
theorem xw5 : qa xa7.eq_1 := qc
theorem xw6 : qa xa8.eq_1 := qc
theorem xw7 : qa xa9.eq_1 := qc
theorem xw8 : qa xba.eq_1 := qc
theorem xw9 : qa xbb.eq_1 := qc
attribute [go_sem] xw0 xw1 xw2 xw3 xw4 xw5 xw6 xw7 xw8 xw9 zio
def xxa : List SOper := [
 ⟨some 2, .mov (.k (.d (.int .i64 0))), none⟩]
def xxb : List SOper := [
 ⟨some 3, .mov (.t 0), none⟩,
 ⟨some 4, .mov (.t 0), none⟩,
 ⟨some 5, .mkFunc (.func 106) [(.t 4)] [], none⟩,
 ⟨some 6, .call (.k (.d (.func (.func 105) [] []))) [(.t 3), (.t 5)], none⟩,
 ⟨some 2, .mov (.t 6), none⟩]
def s62 : SCode := (.seq (.region xxa 0 []) (.seq (.region xxb 0 []) .ret))
theorem e62 : qg s62.eq_1 := qh s62.eq_1
theorem zdb : qa xxa.eq_1 := qc
theorem zdc : qa xxb.eq_1 := qc
attribute [go_sem] zdb zdc e62
theorem F62 : FnIs Try.prog 62 Try.f62 [] news s62 [.tmp 2] 7 := x5 follows Try.func62
def xxc : List SOper := [
 ⟨some 3, .box 3 (.t 0), none⟩,
 ⟨some 4, .box 2 (.t 1), none⟩,
 ⟨some 5, .box 1 (.t 2), none⟩,
 ⟨some 6, .mov (.k (.d (.int .i64 0))), none⟩]
def xxd : List SOper := [
 ⟨some 7, .load none (.t 3), none⟩,
 ⟨some 8, .mkFunc (.func 111) [] [(.t 3), (.t 4), (.t 5)], none⟩,
 ⟨some 9, .call (.k (.d (.func (.func 105) [] []))) [(.t 7), (.t 8)], none⟩,
 ⟨some 6, .mov (.t 9), none⟩]
def s80 : SCode := (.seq (.region xxc 3 []) (.seq (.region xxd 0 []) .ret))
theorem e80 : qg s80.eq_1 := qh s80.eq_1
theorem zdd : qa xxc.eq_1 := qc
theorem zde : qa xxd.eq_1 := qc
attribute [go_sem] zdd zde e80
def xxe : List SOper := [
 ⟨some 2, .mov (.k (.d (.bool false))), none⟩]
def xxf : List SOper := [
 ⟨some 3, .mov (.t 0), none⟩,
 ⟨some 4, .mov (.t 0), none⟩,
 ⟨some 5, .mkFunc (.func 114) [(.t 4)] [], none⟩,
 ⟨some 6, .call (.k (.d (.func (.func 113) [] []))) [(.t 3), (.t 5)], none⟩,
 ⟨some 2, .mov (.t 6), none⟩]
def s82 : SCode := (.seq (.region xxe 0 []) (.seq (.region xxf 0 []) .ret))
theorem e82 : qg s82.eq_1 := qh s82.eq_1
theorem zdf : qa xxe.eq_1 := qc
theorem zdg : qa xxf.eq_1 := qc
attribute [go_sem] zdf zdg e82
def xxg : List SOper := [
 ⟨some 2, .box 2 (.t 0), none⟩,
 ⟨some 3, .box 1 (.t 1), none⟩,
 ⟨some 4, .mov (.k (.d .nilsl)), none⟩]
def xxh : List SOper := [
 ⟨some 5, .load none (.t 2), none⟩,
 ⟨some 6, .mkFunc (.func 116) [] [(.t 2), (.t 3)], none⟩,
 ⟨some 7, .call (.k (.d (.func (.func 115) [] []))) [(.t 5), (.t 6)], none⟩,
 ⟨some 4, .mov (.t 7), none⟩]
def s83 : SCode := (.seq (.region xxg 2 []) (.seq (.region xxh 0 []) .ret))
theorem e83 : qg s83.eq_1 := qh s83.eq_1
theorem zdh : qa xxg.eq_1 := qc
theorem zdi : qa xxh.eq_1 := qc
attribute [go_sem] zdh zdi e83
def xxi : List SOper := [
 ⟨some 4, .mov (.k (.d (.str []))), none⟩]
def xxj : List SOper := [
 ⟨some 5, .mov (.t 0), none⟩,
 ⟨some 6, .mov (.t 1), none⟩,
 ⟨some 7, .call (.k (.d (.func (.func 83) [] []))) [(.t 5), (.t 6)], none⟩,
 ⟨some 8, .b2s (.t 7), none⟩,
 ⟨some 4, .mov (.t 8), none⟩]
def s81 : SCode := (.seq (.region xxi 0 []) (.seq (.region xxj 0 []) .ret))
theorem e81 : qg s81.eq_1 := qh s81.eq_1
theorem zdj : qa xxi.eq_1 := qc
theorem zdk : qa xxj.eq_1 := qc
attribute [go_sem] zdj zdk e81
end
theorem qag (r : Rd) (lo hi : Int) (hr : r.Ok) : ql Try.prog 112 [.d (.ptr 0 0), .d (.int .i64 lo), .d (.int .i64 hi)] [rdO r] (.d (.int .i64 (qw lo hi r).1)) [rdO (qw lo hi r).2] := by
 have hc := qm5 r hr
 simp only [rdO] at hc
 refine xh5.go ?_
 try (refine ev3 @rdO.eq_1 @qw.eq_1 @Rd.fail.eq_1 ?_; try exact True.intro)
 generalize rInt r = x at hc ⊢
 obtain ⟨n, b, p, f⟩ := x
 (repeat (with_reducible refine ob ?_)); refine clO [0] xvy (hc) ?_
 try (refine ev ?_; try exact True.intro)
 cases f <;> simp
theorem qlk (r : Rd) (most : Nat) (hr : r.Ok) (hm : most ≤ 1000000000) : ql Try.prog 117 [.d (.ptr 0 0), .d (.int .i64 most)] [rdO r] (.d (.sl 1 (qe (js most r).1))) [rdO (js most r).2] := by
 have hc := qag r 0 most hr
 have hin := w6 (r := r) (lo := 0) (hi := most)
 have hinv := (zu hr 0 most).1
 refine zda.go ?_
 try (refine ev1 @js.eq_1 ?_; try exact True.intro)
 generalize qw 0 most r = x at hc hin hinv ⊢
 obtain ⟨n, r1⟩ := x
 simp only [rdO] at hc
 try (refine ev1 @rdO.eq_1 ?_; try exact True.intro)
 (repeat (with_reducible refine ob ?_)); refine clO [0] xh5 (hc) ?_
 try (refine ev ?_; try exact True.intro)
 cases hf : r1.failed
 ·obtain ⟨h1, h2⟩ := hin hf
  simp only at h1 h2
  have hn := qm4 r1 n.toNat hinv (by omega)
  rw [Int.toNat_of_nonneg h1] at hn
  simp only [rdO, hf] at hn
  (repeat (with_reducible refine ob ?_)); refine no_ ?_
  try (refine ev ?_; try exact True.intro)
  (repeat (with_reducible refine ob ?_)); refine clO [0] x4p (hn) ?_
  try (refine ev ?_; try exact True.intro)
 ·(repeat (with_reducible refine ob ?_)); refine qdb ?_
  try (refine ev2 @hf @qx ?_; try exact True.intro)
def qaj := qaf (0 : Int) rInt
theorem qvr (r : Rd) (hr : r.Ok) : ql Try.prog 105 [.d (.ptr 0 0), .d (.func (.func 106) [.ptr 0 0] [])] [rdO r] (.d (.int .i64 (qaj r).1)) [rdO (qaj r).2] := by
 have hc := qm5 r hr
 unfold qaj
 unfold qaf
 obtain ⟨b, p, f⟩ := r
 simp only [rdO] at hc
 refine x4q.go ?_
 try (refine ev1 @rdO.eq_1 ?_; try exact True.intro)
 cases f
 ·try (refine ev ?_; try exact True.intro)
  (repeat (with_reducible refine ob ?_)); refine no_ ?_
  try (refine ev ?_; try exact True.intro)
  (repeat (with_reducible refine ob ?_)); refine clO [0] xvy (hc) ?_
  try (refine ev ?_; try exact True.intro)
  cases hf : (rInt ⟨b, p, false⟩).2.failed
  ·try (refine ev ?_; try exact True.intro)
   (repeat (with_reducible refine ob ?_)); refine no_ ?_
   try simp only [hf, if_false, go_sem, Nat.reduceAdd, Nat.reduceMul, Nat.reduceSub, Nat.reduceEqDiff, Nat.reduceLT, Nat.reduceLeDiff, Nat.reduceBEq, reduceIte, reduceCtorEq, Int.reduceAdd, Int.reduceLT, Int.reduceLE, Int.reduceGT, Int.reduceGE, Int.reduceEq, Int.reduceNe, Int.reduceBEq, Int.reduceBNe, Int.reduceToNat, Int.reduceNeg]
  ·try (refine ev ?_; try exact True.intro)
   (repeat (with_reducible refine ob ?_)); refine qdb ?_
   try (refine ev1 @hf ?_; try exact True.intro)
 ·try (refine ev ?_; try exact True.intro)
  (repeat (with_reducible refine ob ?_)); refine qdb ?_
  try (refine ev ?_; try exact True.intro)
theorem qm6 (r : Rd) (hr : r.Ok) : ql Try.prog 62 [.d (.ptr 0 0)] [rdO r] (.d (.int .i64 (qaj r).1)) [rdO (qaj r).2] := by
 have hc := qvr r hr
 simp only [rdO] at hc
 refine F62.go ?_
 try (refine ev1 @rdO.eq_1 ?_; try exact True.intro)
 (repeat (with_reducible refine ob ?_)); refine clO [0] x4q (hc) ?_
 try (refine ev ?_; try exact True.intro)
end Go.Proofs.Ytinnaedmdoengaa
namespace Go.Proofs.Ytinnaedmdoengaa
open Go.Abs
set_option linter.unusedSimpArgs false
set_option linter.unusedVariables false
theorem qpu {r : Rd} (h : r.Ok) : (qaj r).2.Ok ∧ (qaj r).2.b = r.b := qbg h (qay h)
noncomputable section
set_option maxRecDepth 100000
def xxk : List SOper := [
 ⟨some 2, .mov (.k (.d .nilsl)), none⟩,
 ⟨some 3, .mov (.k (.d (.int .i64 0))), none⟩]
def xxl : List SOper := [
 ⟨some 10, .mov (.t 0), none⟩,
 ⟨some 11, .call (.k (.d (.func (.func 61) [] []))) [(.t 10)], none⟩,
 ⟨some 4, .mov (.t 11), none⟩]
def xxm : List SOper := [
 ⟨some 12, .mov (.t 4), none⟩,
 ⟨some 13, .call (.k (.d (.func (.func 80) [] []))) [(.t 12), (.k (.d (.int .i64 1))), (.k (.d (.int .i64 20)))], none⟩,
 ⟨some 5, .mov (.t 13), none⟩]
def xxn : List SOper := [
 ⟨some 6, .mov (.k (.d .nilsl)), none⟩]
def xxo : List SOper := [
 ⟨some 14, .mov (.t 5), none⟩,
 ⟨some 15, .mov (.k (.d (.int .i64 0))), none⟩]
def xxp : List SOper := [
 ⟨some 16, .bin .lss (.t 15) (.t 14), none⟩]
def xxq : List SOper := [
 ⟨some 17, .mov (.t 4), none⟩,
 ⟨some 18, .call (.k (.d (.func (.func 81) [] []))) [(.t 17), (.k (.d (.int .i64 40)))], none⟩,
 ⟨some 19, .build [(.str []), (.bool false), .nilsl] [(0, 1, (.t 18))], none⟩,
 ⟨some 7, .alloc 1 [(.d (.str [])), (.d (.bool false)), (.d .nilsl)], none⟩,
 ⟨none, .store (some 3) (.t 7) (.t 19), none⟩]
def xxr : List SOper := [
 ⟨some 20, .mov (.t 4), none⟩,
 ⟨some 21, .call (.k (.d (.func (.func 82) [] []))) [(.t 20)], none⟩,
 ⟨some 22, .faddr 1 (.t 7), none⟩,
 ⟨none, .store none (.t 22) (.t 21), none⟩]
def xxs : List SOper := [
 ⟨some 23, .mov (.t 4), none⟩,
 ⟨some 24, .call (.k (.d (.func (.func 83) [] []))) [(.t 23), (.k (.d (.int .i64 900)))], none⟩,
 ⟨some 25, .faddr 2 (.t 7), none⟩,
 ⟨none, .store none (.t 25) (.t 24), none⟩]
def xxt : List SOper := [
 ⟨some 26, .mov (.t 6), none⟩,
 ⟨some 27, .load (some 3) (.t 7), none⟩,
 ⟨some 28, .buildSlice false 3 1 [(.str []), (.bool false), .nilsl] [(0, 3, (.t 27))], none⟩,
 ⟨some 29, .append false 3 48 (.t 26) (.t 28), none⟩,
 ⟨some 6, .mov (.t 29), none⟩]
def xbe : List SOper := [
 ⟨some 30, .bin .add (.t 15) (.k (.d (.int .i64 1))), none⟩,
 ⟨some 15, .mov (.t 30), none⟩]
def qzl : SCode := (.seq (.region xxp 0 []) (.seq (.cond (.t 16) .skip (.exit 0)) (.seq (.block 1 (.seq (.region xxq 1 []) (.seq (.region xxr 0 []) (.seq (.region xxs 0 []) (.region xxt 0 []))))) (.region xbe 0 []))))
theorem xxu : qg qzl.eq_1 := qh qzl.eq_1
def xbf : List SOper := [
 ⟨some 31, .mov (.t 4), none⟩,
 ⟨some 32, .call (.k (.d (.func (.func 84) [] []))) [(.t 31)], none⟩,
 ⟨some 33, .bin .neq (.t 32) (.k (.d (.int .i64 0))), none⟩]
def xbg : List SOper := [
 ⟨some 2, .mov (.k (.d .nilsl)), none⟩,
 ⟨some 3, .mov (.k (.d (.int .i64 4))), none⟩]
def xbh : List SOper := [
 ⟨some 35, .mov (.t 6), none⟩,
 ⟨some 36, .call (.k (.d (.func (.func 30) [] []))) [(.t 35)], none⟩,
 ⟨some 34, .mov (.t 36), none⟩,
 ⟨some 37, .extract 0 (.t 34), none⟩,
 ⟨some 38, .extract 1 (.t 34), none⟩,
 ⟨some 8, .mov (.t 37), none⟩,
 ⟨some 9, .mov (.t 38), none⟩]
def xbi : List SOper := [
 ⟨some 39, .mov (.t 9), none⟩,
 ⟨some 40, .bin .neq (.t 39) (.k (.d (.int .i64 0))), none⟩]
def xbj : List SOper := [
 ⟨some 2, .mov (.k (.d .nilsl)), none⟩,
 ⟨some 3, .mov (.k (.d (.int .i64 4))), none⟩]
def xbk : List SOper := [
 ⟨some 41, .mov (.t 6), none⟩,
 ⟨some 2, .mov (.t 41), none⟩,
 ⟨some 3, .mov (.k (.d (.int .i64 0))), none⟩]
def s32 : SCode := (.seq (.region xxk 0 []) (.seq (.region xxl 1 []) (.seq (.region xxm 0 []) (.seq (.region xxn 0 []) (.seq (.seq (.region xxo 0 []) (.block 0 (.loop qzl))) (.seq (.seq (.region xbf 0 []) (.cond (.t 33) (.seq (.region xbg 0 []) .ret) .skip)) (.seq (.seq (.region xbh 0 []) (.seq (.region xbi 0 []) (.cond (.t 40) (.seq (.region xbj 0 []) .ret) .skip))) (.seq (.region xbk 0 []) .ret))))))))
theorem e32 : qg s32.eq_1 := qh s32.eq_1
theorem zdl : qa xxk.eq_1 := qc
theorem zdm : qa xxl.eq_1 := qc
theorem zdn : qa xxm.eq_1 := qc
theorem zdo : qa xxn.eq_1 := qc
theorem zdp : qa xxo.eq_1 := qc
theorem zdq : qa xxp.eq_1 := qc
theorem zdr : qa xxq.eq_1 := qc
theorem zds : qa xxr.eq_1 := qc
theorem zdt : qa xxs.eq_1 := qc
theorem zdu : qa xxt.eq_1 := qc
theorem xxv : qa xbe.eq_1 := qc
theorem xxw : qa xbf.eq_1 := qc
theorem xxx : qa xbg.eq_1 := qc
theorem xxy : qa xbh.eq_1 := qc
theorem xxz : qa xbi.eq_1 := qc
theorem xx0 : qa xbj.eq_1 := qc
theorem xx1 : qa xbk.eq_1 := qc
attribute [go_sem] zdl zdm zdn zdo zdp zdq zdr zds zdt zdu xxv xxu xxw xxx xxy xxz xx0 xx1 e32
end
end Go.Proofs.Ytinnaedmdoengaa
namespace Go.Proofs.Ytinnaedmdoengaa
open Go.Abs
set_option linter.unusedSimpArgs false
set_option linter.unusedVariables false
def dG : Nat → Nat → Nat → List UInt8 → Option (Int × List UInt8)
 | 0, _, _, _ => none
 | _ + 1, _, _, [] => none
 | k + 1, j, u, c :: l =>
  if c.toNat < 128 then (if ((c.toNat == 0 && decide (0 < j)) || (decide (j = 9) && decide (c.toNat > 1))) = true then none else some (unz (u + c.toNat * 128 ^ j), l))
  else dG k (j + 1) (u + c.toNat % 128 * 128 ^ j) l
def dInt (l : List UInt8) : Option (Int × List UInt8) := dG 10 0 0 l
def Got {α : Type} (o : Option (α × List UInt8)) (b : List UInt8) (x : α × Rd) : Prop := match o with
 | some (v, l) => x = (v, ⟨b, b.length - l.length, false⟩)
 | none => x.2.failed = true
def qkk {α : Type} (z : α) (f : Rd → α × Rd) (d : List UInt8 → Option (α × List UInt8)) : Prop :=
 ∀ r : Rd, r.Ok → f r = if r.failed = true then (z, r) else match d (r.b.drop r.pos) with
  | some (v, l) => (v, ⟨r.b, r.b.length - l.length, false⟩)
  | none => (z, ⟨r.b, r.pos, true⟩)
def qhk {α : Type} (d : List UInt8 → Option (α × List UInt8)) : Prop := ∀ l0 v l, d l0 = some (v, l) → ∃ p, l0 = p ++ l
theorem ki {b : List UInt8} {p : Nat} {q l : List UInt8} (hp : p ≤ b.length) (h : b.drop p = q ++ l) : b.drop (b.length - l.length) = l ∧ l.length ≤ b.length := by
 have h1 := congrArg List.length h
 simp only [List.length_drop, List.length_append] at h1
 have h2 : b.drop (p + q.length) = l := by rw [← List.drop_drop, h, List.drop_left]
 have e : b.length - l.length = p + q.length := by omega
 rw [e]; exact ⟨h2, by omega⟩
theorem qzm : ∀ (k j u : Nat) {l0 : List UInt8} {v : Int} {l : List UInt8}, dG k j u l0 = some (v, l) → ∃ p, l0 = p ++ l
 | 0, _, _, _, _, _, h => by simp [dG] at h
 | k + 1, j, u, [], _, _, h => by simp [dG] at h
 | k + 1, j, u, c :: l0, v, l, h => by
  rw [dG] at h
  split at h
  ·split at h
   ·cases h
   ·cases h; exact ⟨[c], rfl⟩
  ·obtain ⟨p, rfl⟩ := qzm k (j + 1) _ h
   exact ⟨c :: p, rfl⟩
theorem qpv : qhk dInt := fun _ _ _ h => qzm 10 0 0 h
theorem qlm {r : Rd} (hr : r.Ok) (hf : r.failed = false) {c : UInt8} {l : List UInt8} (h : r.b.drop r.pos = c :: l) : jk 1 r = ([c], ⟨r.b, r.pos + 1, false⟩) ∧ r.b.drop (r.pos + 1) = l := by
 have hl := congrArg List.length h
 simp only [List.length_drop, List.length_cons] at hl
 have h2 : r.b.drop (r.pos + 1) = l := by rw [← List.drop_drop, h]; rfl
 refine ⟨?_, h2⟩
 unfold jk
 rw [if_neg (by simp [hf]; omega), h, hf]; rfl
theorem qpw {r : Rd} (hf : r.failed = false) (h : r.b.drop r.pos = []) : jk 1 r = ([], ⟨r.b, r.pos, true⟩) := by
 have hl := congrArg List.length h
 simp only [List.length_drop, List.length_nil] at hl
 unfold jk
 rw [if_pos (by simp [hf]; omega)]
theorem qcw {j : Nat} (h : j ≤ 8) : 128 ^ (j + 1) ≤ 9223372036854775808 := by
 have h1 : 128 ^ (j + 1) ≤ 128 ^ 9 := Nat.pow_le_pow_right (by decide) (by omega)
 have h2 : (128 : Nat) ^ 9 = 9223372036854775808 := by decide
 omega
theorem qzn : ∀ (k j u : Nat) {r : Rd}, j + k = 10 → u < 128 ^ j → r.Ok → r.failed = false →
  Got (dG k j u (r.b.drop r.pos)) r.b (qfa k j u r)
 | 0, j, u, r, _, _, _, _ => by simp only [Got, dG, qfa]
 | k + 1, j, u, r, hj, hu, hr, hf => by
  cases hd : r.b.drop r.pos with
  | nil =>
   simp only [dG]
   rw [qfa, qpw hf hd, if_pos rfl]
   exact (rfl : true = true)
  | cons c l =>
   obtain ⟨h1, h2⟩ := qlm hr hf hd
   have hlt := qcm c
   have hlen := congrArg List.length hd
   simp only [List.length_drop, List.length_cons] at hlen
   rw [qfa, h1, dG]
   simp only [Bool.false_eq_true, if_false, List.headD_cons]
   by_cases hc : c.toNat < 128
   ·simp only [hc, if_true]
    by_cases hb : ((c.toNat == 0 && decide (0 < j)) || (decide (j = 9) && decide (c.toNat > 1))) = true
    ·rw [if_pos hb]
     exact hb
    ·rw [if_neg hb]
     simp only [Bool.not_eq_true] at hb
     have hm : c.toNat % 128 = c.toNat := Nat.mod_eq_of_lt hc
     have hs : u + c.toNat * 128 ^ j < 18446744073709551616 := by
      rcases Nat.lt_or_ge j 9 with h9 | h9
      ·have hp := qcw (j := j) (by omega)
       rw [Nat.pow_succ] at hp
       have : c.toNat * 128 ^ j ≤ 127 * 128 ^ j := Nat.mul_le_mul_right _ (by omega)
       omega
      ·have : j = 9 := by omega
       subst this
       simp at hb
       have e : (128 : Nat) ^ 9 = 9223372036854775808 := by decide
       rw [e] at hu ⊢
       omega
     rw [hm, Nat.mod_eq_of_lt hs]
     simp only [Got, Prod.mk.injEq, Rd.mk.injEq]
     exact ⟨trivial, trivial, by omega, hb⟩
   ·simp only [hc, if_false]
    cases k with
    | zero => simp only [Got, dG, qfa]
    | succ k =>
     have hp := qcw (j := j) (by omega)
     have hu2 : u + c.toNat % 128 * 128 ^ j < 128 ^ (j + 1) := by
      have h3 : c.toNat % 128 * 128 ^ j ≤ 127 * 128 ^ j := Nat.mul_le_mul_right _ (by omega)
      rw [Nat.pow_succ]
      omega
     rw [Nat.mod_eq_of_lt (show u + c.toNat % 128 * 128 ^ j < 18446744073709551616 by omega)]
     have ih := qzn (k + 1) (j + 1) (u + c.toNat % 128 * 128 ^ j) (r := ⟨r.b, r.pos + 1, false⟩) (by omega) hu2 ⟨hr.len, by have := hr.pos; simp only; omega⟩ rfl
     rw [show (⟨r.b, r.pos + 1, false⟩ : Rd).b.drop (⟨r.b, r.pos + 1, false⟩ : Rd).pos = l from h2] at ih
     exact ih
theorem qtm {r : Rd} (hr : r.Ok) (hf : r.failed = false) : Got (dInt (r.b.drop r.pos)) r.b (rInt r) := qzn 10 0 0 rfl (by decide) hr hf
theorem y5 {α : Type} {z : α} {f : Rd → α × Rd} {d : List UInt8 → Option (α × List UInt8)} (hi : ∀ r : Rd, r.Ok → (f r).2.b = r.b)
  (h : ∀ r : Rd, r.Ok → r.failed = false → Got (d (r.b.drop r.pos)) r.b (f r)) : qkk z (qaf z f) d := by
 intro r hr
 unfold qaf
 by_cases hf : r.failed = true
 ·rw [if_pos hf, if_pos hf]
 ·rw [if_neg hf, if_neg hf]
  have := h r hr (by simpa using hf)
  cases hd : d (r.b.drop r.pos) with
  | none =>
   rw [hd] at this
   simp only [Got] at this
   rw [if_pos this, hi r hr, this]
  | some x =>
   obtain ⟨v, l⟩ := x
   rw [hd] at this
   simp only [Got] at this
   rw [this, if_neg (by simp)]
theorem qjh : qkk 0 qaj dInt := y5 (fun r hr => (qay hr).2) (fun r hr hf => qtm hr hf)
def xk (lo hi : Int) (l0 : List UInt8) : Option (Int × List UInt8) := match dInt l0 with
 | some (n, l) => if n < lo ∨ n > hi then none else some (n, l)
 | none => none
theorem ke (lo hi : Int) : qhk (xk lo hi) := by
 intro l0 v l h
 unfold xk at h
 split at h
 ·rename_i hd
  split at h
  ·cases h
  ·cases h; exact qpv _ _ _ hd
 ·cases h
theorem qc9 (lo hi : Int) {r : Rd} (hr : r.Ok) (hf : r.failed = false) : Got (xk lo hi (r.b.drop r.pos)) r.b (qw lo hi r) := by
 have h := qtm hr hf
 unfold xk
 cases hd : dInt (r.b.drop r.pos) with
 | none =>
  rw [hd] at h
  simp only [Got] at h ⊢
  simp only [qw, Rd.fail, h, Bool.true_or]
 | some x =>
  obtain ⟨n, l⟩ := x
  rw [hd] at h
  simp only [Got] at h ⊢
  by_cases hn : n < lo ∨ n > hi
  ·rw [if_pos hn]
   simp only [qw, Rd.fail, h, Bool.false_or]
   simpa using hn
  ·rw [if_neg hn]
   simp only [qw, Rd.fail, h, Bool.false_or]
   have : (decide (n < lo) || decide (n > hi)) = false := by simpa using hn
   rw [this]
def wt (most : Int) (l0 : List UInt8) : Option (List UInt8 × List UInt8) := match xk 0 most l0 with
 | some (n, l) => if l.length < n.toNat then none else some (l.take n.toNat, l.drop n.toNat)
 | none => none
theorem qpx (most : Int) {r : Rd} (hr : r.Ok) (hf : r.failed = false) : Got (wt most (r.b.drop r.pos)) r.b (js most r) := by
 have h := qc9 0 most hr hf
 unfold wt
 cases hd : xk 0 most (r.b.drop r.pos) with
 | none =>
  rw [hd] at h
  simp only [Got] at h ⊢
  unfold js
  rw [if_pos h]; exact h
 | some x =>
  obtain ⟨n, l⟩ := x
  rw [hd] at h
  simp only [Got] at h ⊢
  obtain ⟨p, hp⟩ := ke _ _ _ _ _ hd
  obtain ⟨t1, t2⟩ := ki hr.pos hp
  have e : r.b.length - (r.b.length - l.length) = l.length := by omega
  by_cases hn : l.length < n.toNat
  ·rw [if_pos hn]
   simp only [js, h, Bool.false_eq_true, if_false, jk, Bool.false_or]
   rw [e, if_pos (by simpa using hn)]
  ·rw [if_neg hn]
   simp only [js, h, Bool.false_eq_true, if_false, jk, Bool.false_or]
   rw [e, if_neg (by simpa using hn), t1]
   have : r.b.length - l.length + n.toNat = r.b.length - (l.drop n.toNat).length := by rw [List.length_drop]; omega
   rw [this]
end Go.Proofs.Ytinnaedmdoengaa
namespace Go.Proofs.Ytinnaedmdoengaa
open Go.Abs
set_option linter.unusedSimpArgs false
set_option linter.unusedVariables false
noncomputable section
set_option maxRecDepth 100000
def xbl : List SOper := [
 ⟨some 2, .mov (.k (.d (.int .i64 0))), none⟩]
def xbm : List SOper := [
 ⟨some 3, .mov (.k (.d (.int .u64 0))), none⟩,
 ⟨some 4, .mov (.k (.d (.int .u64 1))), none⟩]
def xbn : List SOper := [
 ⟨some 7, .mov (.t 0), none⟩,
 ⟨some 8, .nilCheck (.t 7), none⟩,
 ⟨some 9, .faddr 1 (.t 8), none⟩,
 ⟨some 10, .load none (.t 9), none⟩,
 ⟨some 5, .mov (.t 10), none⟩]
def xbo : List SOper := [
 ⟨some 11, .mov (.t 5), none⟩,
 ⟨some 12, .mov (.t 0), none⟩,
 ⟨some 13, .nilCheck (.t 12), none⟩,
 ⟨some 14, .faddr 0 (.t 13), none⟩,
 ⟨some 15, .load none (.t 14), none⟩,
 ⟨some 16, .len (.t 15), none⟩,
 ⟨some 17, .bin .lss (.t 11) (.t 16), none⟩,
 ⟨some 18, .mov (.t 17), none⟩,
 ⟨some 19, .mov (.t 5), some (18, true)⟩,
 ⟨some 20, .mov (.t 0), some (18, true)⟩,
 ⟨some 21, .nilCheck (.t 20), some (18, true)⟩,
 ⟨some 22, .faddr 1 (.t 21), some (18, true)⟩,
 ⟨some 23, .load none (.t 22), some (18, true)⟩,
 ⟨some 24, .bin .add (.t 23) (.k (.d (.int .i64 10))), some (18, true)⟩,
 ⟨some 25, .bin .lss (.t 19) (.t 24), some (18, true)⟩,
 ⟨some 26, .pick (.t 18) (.t 25) (.k (.d (.bool false))), none⟩,
 ⟨some 27, .mov (.t 26), none⟩,
 ⟨some 28, .mov (.t 0), some (27, true)⟩,
 ⟨some 29, .nilCheck (.t 28), some (27, true)⟩,
 ⟨some 30, .faddr 2 (.t 29), some (27, true)⟩,
 ⟨some 31, .load none (.t 30), some (27, true)⟩,
 ⟨some 32, .not (.t 31), some (27, true)⟩,
 ⟨some 33, .pick (.t 27) (.t 32) (.k (.d (.bool false))), none⟩]
def xbp : List SOper := [
 ⟨some 36, .mov (.t 0), none⟩,
 ⟨some 37, .nilCheck (.t 36), none⟩,
 ⟨some 38, .faddr 0 (.t 37), none⟩,
 ⟨some 39, .load none (.t 38), none⟩,
 ⟨some 40, .mov (.t 5), none⟩,
 ⟨some 41, .iaddr 1 (.t 39) (.t 40), none⟩,
 ⟨some 42, .load none (.t 41), none⟩,
 ⟨some 43, .bin .rem (.t 42) (.k (.d (.int .u8 128))), none⟩,
 ⟨some 44, .conv .u64 (.t 43), none⟩,
 ⟨some 6, .mov (.t 44), none⟩]
def xbq : List SOper := [
 ⟨some 45, .mov (.t 5), none⟩,
 ⟨some 46, .mov (.t 0), none⟩,
 ⟨some 47, .nilCheck (.t 46), none⟩,
 ⟨some 48, .faddr 1 (.t 47), none⟩,
 ⟨some 49, .load none (.t 48), none⟩,
 ⟨some 50, .bin .add (.t 49) (.k (.d (.int .i64 9))), none⟩,
 ⟨some 51, .bin .eql (.t 45) (.t 50), none⟩,
 ⟨some 52, .mov (.t 51), none⟩,
 ⟨some 53, .mov (.t 6), some (52, true)⟩,
 ⟨some 54, .bin .gtr (.t 53) (.k (.d (.int .u64 1))), some (52, true)⟩,
 ⟨some 55, .pick (.t 52) (.t 54) (.k (.d (.bool false))), none⟩]
def xbr : List SOper := [
 ⟨some 56, .mov (.t 3), none⟩,
 ⟨some 57, .mov (.t 6), none⟩,
 ⟨some 58, .mov (.t 4), none⟩,
 ⟨some 59, .bin .mul (.t 57) (.t 58), none⟩,
 ⟨some 60, .bin .add (.t 56) (.t 59), none⟩,
 ⟨some 3, .mov (.t 60), none⟩]
def xbs : List SOper := [
 ⟨some 61, .mov (.t 4), none⟩,
 ⟨some 62, .bin .mul (.t 61) (.k (.d (.int .u64 128))), none⟩,
 ⟨some 4, .mov (.t 62), none⟩]
def xbt : List SOper := [
 ⟨some 63, .mov (.t 0), none⟩,
 ⟨some 64, .nilCheck (.t 63), none⟩,
 ⟨some 65, .faddr 0 (.t 64), none⟩,
 ⟨some 66, .load none (.t 65), none⟩,
 ⟨some 67, .mov (.t 5), none⟩,
 ⟨some 68, .iaddr 1 (.t 66) (.t 67), none⟩,
 ⟨some 69, .load none (.t 68), none⟩,
 ⟨some 70, .bin .geq (.t 69) (.k (.d (.int .u8 128))), none⟩]
def xbu : List SOper := [
 ⟨some 71, .mov (.t 6), none⟩,
 ⟨some 72, .bin .eql (.t 71) (.k (.d (.int .u64 0))), none⟩,
 ⟨some 73, .mov (.t 72), none⟩,
 ⟨some 74, .mov (.t 5), some (73, true)⟩,
 ⟨some 75, .mov (.t 0), some (73, true)⟩,
 ⟨some 76, .nilCheck (.t 75), some (73, true)⟩,
 ⟨some 77, .faddr 1 (.t 76), some (73, true)⟩,
 ⟨some 78, .load none (.t 77), some (73, true)⟩,
 ⟨some 79, .bin .gtr (.t 74) (.t 78), some (73, true)⟩,
 ⟨some 80, .pick (.t 73) (.t 79) (.k (.d (.bool false))), none⟩]
def qzo : List SOper := [
 ⟨some 81, .mov (.t 0), none⟩,
 ⟨some 82, .mov (.t 5), none⟩,
 ⟨some 83, .bin .add (.t 82) (.k (.d (.int .i64 1))), none⟩,
 ⟨some 84, .nilCheck (.t 81), none⟩,
 ⟨some 85, .faddr 1 (.t 84), none⟩,
 ⟨none, .store none (.t 85) (.t 83), none⟩]
def qzp : List SOper := [
 ⟨some 86, .mov (.t 3), none⟩,
 ⟨some 87, .bin .rem (.t 86) (.k (.d (.int .u64 2))), none⟩,
 ⟨some 88, .bin .eql (.t 87) (.k (.d (.int .u64 1))), none⟩]
def qzq : List SOper := [
 ⟨some 89, .mov (.t 3), none⟩,
 ⟨some 90, .bin .quo (.t 89) (.k (.d (.int .u64 2))), none⟩,
 ⟨some 91, .conv .i64 (.t 90), none⟩,
 ⟨some 92, .neg (.t 91), none⟩,
 ⟨some 93, .bin .sub (.t 92) (.k (.d (.int .i64 1))), none⟩,
 ⟨some 2, .mov (.t 93), none⟩]
def qzr : List SOper := [
 ⟨some 94, .mov (.t 3), none⟩,
 ⟨some 95, .bin .quo (.t 94) (.k (.d (.int .u64 2))), none⟩,
 ⟨some 96, .conv .i64 (.t 95), none⟩,
 ⟨some 2, .mov (.t 96), none⟩]
def qzs : List SOper := [
 ⟨some 34, .mov (.t 5), none⟩,
 ⟨some 35, .bin .add (.t 34) (.k (.d (.int .i64 1))), none⟩,
 ⟨some 5, .mov (.t 35), none⟩]
def qsk : SCode := (.seq (.seq (.region xbo 0 []) (.cond (.t 33) .skip (.exit 0))) (.seq (.block 1 (.seq (.region xbp 0 []) (.seq (.seq (.region xbq 0 []) (.cond (.t 55) (.exit 0) .skip)) (.seq (.region xbr 0 []) (.seq (.region xbs 0 []) (.seq (.seq (.region xbt 0 []) (.cond (.t 70) (.exit 1) .skip)) (.seq (.seq (.region xbu 0 []) (.cond (.t 80) (.exit 0) .skip)) (.seq (.region qzo 0 []) (.seq (.seq (.region qzp 0 []) (.cond (.t 88) (.seq (.region qzq 0 []) .ret) .skip)) (.seq (.region qzr 0 []) .ret)))))))))) (.region qzs 0 [])))
theorem xgn : qg qsk.eq_1 := qh qsk.eq_1
def qzt : List SOper := [
 ⟨some 97, .mov (.t 0), none⟩,
 ⟨some 98, .nilCheck (.t 97), none⟩,
 ⟨some 99, .faddr 2 (.t 98), none⟩,
 ⟨none, .store none (.t 99) (.k (.d (.bool true))), none⟩]
def qzu : List SOper := [
 ⟨some 2, .mov (.k (.d (.int .i64 0))), none⟩]
def s119 : SCode := (.seq (.region xbl 0 []) (.seq (.region xbm 0 []) (.seq (.seq (.region xbn 0 []) (.block 0 (.loop qsk))) (.seq (.region qzt 0 []) (.seq (.region qzu 0 []) .ret)))))
theorem ziq : qg s119.eq_1 := qh s119.eq_1
theorem xx2 : qa xbl.eq_1 := qc
theorem xx3 : qa xbm.eq_1 := qc
theorem xx4 : qa xbn.eq_1 := qc
theorem xx5 : qa xbo.eq_1 := qc
theorem xx6 : qa xbp.eq_1 := qc
theorem xx7 : qa xbq.eq_1 := qc
theorem xx8 : qa xbr.eq_1 := qc
theorem xx9 : qa xbs.eq_1 := qc
theorem xya : qa xbt.eq_1 := qc
theorem xyb : qa xbu.eq_1 := qc
theorem xgo : qa qzo.eq_1 := qc
theorem xgp : qa qzp.eq_1 := qc
theorem xgq : qa qzq.eq_1 := qc
theorem xgr : qa qzr.eq_1 := qc
theorem xgs : qa qzs.eq_1 := qc
theorem xgt : qa qzt.eq_1 := qc
theorem xgu : qa qzu.eq_1 := qc
attribute [go_sem] xx2 xx3 xx4 xx5 xx6 xx7 xx8 xx9 xya xyb xgo xgp xgq xgr xgs xgn xgt xgu ziq
end
end Go.Proofs.Ytinnaedmdoengaa
namespace Go.Proofs.Ytinnaedmdoengaa
open Go.Abs
set_option linter.unusedSimpArgs false
set_option linter.unusedVariables false
noncomputable section
set_option maxRecDepth 100000
def xbv : List SOper := [
 ⟨some 4, .mov (.t 0), none⟩,
 ⟨some 5, .mov (.t 0), none⟩,
 ⟨some 6, .mov (.t 1), none⟩,
 ⟨some 7, .nilCheck (.t 4), none⟩,
 ⟨some 8, .faddr 1 (.t 7), none⟩,
 ⟨none, .store none (.t 8) (.t 6), none⟩,
 ⟨some 9, .nilCheck (.t 5), none⟩,
 ⟨some 10, .faddr 2 (.t 9), none⟩,
 ⟨none, .store none (.t 10) (.k (.d (.bool true))), none⟩]
def s120 : SCode := (.region xbv 0 [])
theorem zir : qg s120.eq_1 := qh s120.eq_1
theorem xyc : qa xbv.eq_1 := qc
attribute [go_sem] xyc zir
def xye : List SOper := [
 ⟨some 6, .mov (.k (.d (.int .i64 0))), none⟩]
def xyf : List SOper := [
 ⟨some 9, .mov (.t 0), none⟩,
 ⟨some 10, .nilCheck (.t 9), none⟩,
 ⟨some 11, .faddr 1 (.t 10), none⟩,
 ⟨some 12, .load none (.t 11), none⟩,
 ⟨some 7, .mov (.t 12), none⟩]
def xyg : List SOper := [
 ⟨some 13, .mov (.t 0), none⟩,
 ⟨some 14, .call (.k (.d (.func (.func 119) [] []))) [(.t 13)], none⟩,
 ⟨some 8, .mov (.t 14), none⟩]
def xyh : List SOper := [
 ⟨some 15, .mov (.t 0), none⟩,
 ⟨some 16, .nilCheck (.t 15), none⟩,
 ⟨some 17, .faddr 2 (.t 16), none⟩,
 ⟨some 18, .load none (.t 17), none⟩]
def xyi : List SOper := [
 ⟨some 6, .mov (.k (.d (.int .i64 0))), none⟩]
def xyj : List SOper := [
 ⟨some 19, .mov (.t 8), none⟩,
 ⟨some 20, .mov (.t 1), none⟩,
 ⟨some 21, .bin .lss (.t 19) (.t 20), none⟩,
 ⟨some 22, .mov (.t 21), none⟩,
 ⟨some 23, .mov (.t 8), some (22, false)⟩,
 ⟨some 24, .mov (.t 2), some (22, false)⟩,
 ⟨some 25, .bin .gtr (.t 23) (.t 24), some (22, false)⟩,
 ⟨some 26, .pick (.t 22) (.k (.d (.bool true))) (.t 25), none⟩]
def xyk : List SOper := [
 ⟨some 27, .mov (.t 0), none⟩,
 ⟨some 28, .mov (.t 7), none⟩,
 ⟨some 29, .call (.k (.d (.func (.func 120) [] []))) [(.t 27), (.t 28)], none⟩]
def xyl : List SOper := [
 ⟨some 6, .mov (.k (.d (.int .i64 0))), none⟩]
def xym : List SOper := [
 ⟨some 30, .mov (.t 8), none⟩,
 ⟨some 6, .mov (.t 30), none⟩]
def s85 : SCode := (.seq (.region xye 0 []) (.seq (.region xyf 0 []) (.seq (.region xyg 0 []) (.seq (.seq (.region xyh 0 []) (.cond (.t 18) (.seq (.region xyi 0 []) .ret) .skip)) (.seq (.seq (.region xyj 0 []) (.cond (.t 26) (.seq (.region xyk 0 []) (.seq (.region xyl 0 []) .ret)) .skip)) (.seq (.region xym 0 []) .ret))))))
theorem e85 : qg s85.eq_1 := qh s85.eq_1
theorem zdv : qa xye.eq_1 := qc
theorem zdw : qa xyf.eq_1 := qc
theorem zdx : qa xyg.eq_1 := qc
theorem zdy : qa xyh.eq_1 := qc
theorem zdz : qa xyi.eq_1 := qc
theorem zd0 : qa xyj.eq_1 := qc
theorem zd1 : qa xyk.eq_1 := qc
theorem zd2 : qa xyl.eq_1 := qc
theorem zd3 : qa xym.eq_1 := qc
attribute [go_sem] zdv zdw zdx zdy zdz zd0 zd1 zd2 zd3 e85
def xyn : List SOper := [
 ⟨some 2, .mov (.k (.d (.bool false))), none⟩]
def xyo : List SOper := [
 ⟨some 3, .mov (.t 0), none⟩,
 ⟨some 4, .nilCheck (.t 3), none⟩,
 ⟨some 5, .faddr 2 (.t 4), none⟩,
 ⟨some 6, .load none (.t 5), none⟩,
 ⟨some 7, .mov (.t 6), none⟩,
 ⟨some 8, .mov (.t 0), some (7, false)⟩,
 ⟨some 9, .nilCheck (.t 8), some (7, false)⟩,
 ⟨some 10, .faddr 1 (.t 9), some (7, false)⟩,
 ⟨some 11, .load none (.t 10), some (7, false)⟩,
 ⟨some 12, .mov (.t 0), some (7, false)⟩,
 ⟨some 13, .nilCheck (.t 12), some (7, false)⟩,
 ⟨some 14, .faddr 0 (.t 13), some (7, false)⟩,
 ⟨some 15, .load none (.t 14), some (7, false)⟩,
 ⟨some 16, .len (.t 15), some (7, false)⟩,
 ⟨some 17, .bin .geq (.t 11) (.t 16), some (7, false)⟩,
 ⟨some 18, .pick (.t 7) (.k (.d (.bool true))) (.t 17), none⟩,
 ⟨some 19, .mov (.t 18), none⟩,
 ⟨some 20, .mov (.t 0), some (19, false)⟩,
 ⟨some 21, .nilCheck (.t 20), some (19, false)⟩,
 ⟨some 22, .faddr 0 (.t 21), some (19, false)⟩,
 ⟨some 23, .load none (.t 22), some (19, false)⟩,
 ⟨some 24, .mov (.t 0), some (19, false)⟩,
 ⟨some 25, .nilCheck (.t 24), some (19, false)⟩,
 ⟨some 26, .faddr 1 (.t 25), some (19, false)⟩,
 ⟨some 27, .load none (.t 26), some (19, false)⟩,
 ⟨some 28, .iaddr 1 (.t 23) (.t 27), some (19, false)⟩,
 ⟨some 29, .load none (.t 28), some (19, false)⟩,
 ⟨some 30, .bin .gtr (.t 29) (.k (.d (.int .u8 1))), some (19, false)⟩,
 ⟨some 31, .pick (.t 19) (.k (.d (.bool true))) (.t 30), none⟩]
def xyp : List SOper := [
 ⟨some 32, .mov (.t 0), none⟩,
 ⟨some 33, .nilCheck (.t 32), none⟩,
 ⟨some 34, .faddr 2 (.t 33), none⟩,
 ⟨none, .store none (.t 34) (.k (.d (.bool true))), none⟩]
def xyq : List SOper := [
 ⟨some 2, .mov (.k (.d (.bool false))), none⟩]
def xyr : List SOper := [
 ⟨some 35, .mov (.t 0), none⟩,
 ⟨some 36, .nilCheck (.t 35), none⟩,
 ⟨some 37, .faddr 1 (.t 36), none⟩,
 ⟨some 38, .load none (.t 37), none⟩,
 ⟨some 39, .bin .add (.t 38) (.k (.d (.int .i64 1))), none⟩,
 ⟨some 40, .nilCheck (.t 35), none⟩,
 ⟨some 41, .faddr 1 (.t 40), none⟩,
 ⟨none, .store none (.t 41) (.t 39), none⟩]
def xys : List SOper := [
 ⟨some 42, .mov (.t 0), none⟩,
 ⟨some 43, .nilCheck (.t 42), none⟩,
 ⟨some 44, .faddr 0 (.t 43), none⟩,
 ⟨some 45, .load none (.t 44), none⟩,
 ⟨some 46, .mov (.t 0), none⟩,
 ⟨some 47, .nilCheck (.t 46), none⟩,
 ⟨some 48, .faddr 1 (.t 47), none⟩,
 ⟨some 49, .load none (.t 48), none⟩,
 ⟨some 50, .bin .sub (.t 49) (.k (.d (.int .i64 1))), none⟩,
 ⟨some 51, .iaddr 1 (.t 45) (.t 50), none⟩,
 ⟨some 52, .load none (.t 51), none⟩,
 ⟨some 53, .bin .eql (.t 52) (.k (.d (.int .u8 1))), none⟩,
 ⟨some 2, .mov (.t 53), none⟩]
def s87 : SCode := (.seq (.region xyn 0 []) (.seq (.seq (.region xyo 0 []) (.cond (.t 31) (.seq (.region xyp 0 []) (.seq (.region xyq 0 []) .ret)) .skip)) (.seq (.region xyr 0 []) (.seq (.region xys 0 []) .ret))))
theorem e87 : qg s87.eq_1 := qh s87.eq_1
theorem zd4 : qa xyn.eq_1 := qc
theorem zd5 : qa xyo.eq_1 := qc
theorem zd6 : qa xyp.eq_1 := qc
theorem zd7 : qa xyq.eq_1 := qc
theorem zd8 : qa xyr.eq_1 := qc
theorem zd9 : qa xys.eq_1 := qc
attribute [go_sem] zd4 zd5 zd6 zd7 zd8 zd9 e87
def xyt : List SOper := [
 ⟨some 4, .mov (.k (.d .nilsl)), none⟩]
def xyu : List SOper := [
 ⟨some 7, .mov (.t 0), none⟩,
 ⟨some 8, .nilCheck (.t 7), none⟩,
 ⟨some 9, .faddr 1 (.t 8), none⟩,
 ⟨some 10, .load none (.t 9), none⟩,
 ⟨some 5, .mov (.t 10), none⟩]
def xyv : List SOper := [
 ⟨some 11, .mov (.t 0), none⟩,
 ⟨some 12, .mov (.t 1), none⟩,
 ⟨some 13, .call (.k (.d (.func (.func 85) [] []))) [(.t 11), (.k (.d (.int .i64 0))), (.t 12)], none⟩,
 ⟨some 6, .mov (.t 13), none⟩]
def xyw : List SOper := [
 ⟨some 14, .mov (.t 0), none⟩,
 ⟨some 15, .nilCheck (.t 14), none⟩,
 ⟨some 16, .faddr 2 (.t 15), none⟩,
 ⟨some 17, .load none (.t 16), none⟩,
 ⟨some 18, .mov (.t 17), none⟩,
 ⟨some 19, .mov (.t 6), some (18, false)⟩,
 ⟨some 20, .mov (.t 0), some (18, false)⟩,
 ⟨some 21, .nilCheck (.t 20), some (18, false)⟩,
 ⟨some 22, .faddr 0 (.t 21), some (18, false)⟩,
 ⟨some 23, .load none (.t 22), some (18, false)⟩,
 ⟨some 24, .len (.t 23), some (18, false)⟩,
 ⟨some 25, .mov (.t 0), some (18, false)⟩,
 ⟨some 26, .nilCheck (.t 25), some (18, false)⟩,
 ⟨some 27, .faddr 1 (.t 26), some (18, false)⟩,
 ⟨some 28, .load none (.t 27), some (18, false)⟩,
 ⟨some 29, .bin .sub (.t 24) (.t 28), some (18, false)⟩,
 ⟨some 30, .bin .gtr (.t 19) (.t 29), some (18, false)⟩,
 ⟨some 31, .pick (.t 18) (.k (.d (.bool true))) (.t 30), none⟩]
def xyx : List SOper := [
 ⟨some 32, .mov (.t 0), none⟩,
 ⟨some 33, .mov (.t 5), none⟩,
 ⟨some 34, .call (.k (.d (.func (.func 120) [] []))) [(.t 32), (.t 33)], none⟩]
def xyy : List SOper := [
 ⟨some 4, .mov (.k (.d .nilsl)), none⟩]
def xyz : List SOper := [
 ⟨some 35, .mov (.t 0), none⟩,
 ⟨some 36, .nilCheck (.t 35), none⟩,
 ⟨some 37, .faddr 1 (.t 36), none⟩,
 ⟨some 38, .load none (.t 37), none⟩,
 ⟨some 39, .mov (.t 6), none⟩,
 ⟨some 40, .bin .add (.t 38) (.t 39), none⟩,
 ⟨some 41, .nilCheck (.t 35), none⟩,
 ⟨some 42, .faddr 1 (.t 41), none⟩,
 ⟨none, .store none (.t 42) (.t 40), none⟩]
def xy0 : List SOper := [
 ⟨some 43, .buildSlice false 1 0 [(.int .u8 0)] [], none⟩,
 ⟨some 44, .mov (.t 0), none⟩,
 ⟨some 45, .nilCheck (.t 44), none⟩,
 ⟨some 46, .faddr 0 (.t 45), none⟩,
 ⟨some 47, .load none (.t 46), none⟩,
 ⟨some 48, .mov (.t 0), none⟩,
 ⟨some 49, .nilCheck (.t 48), none⟩,
 ⟨some 50, .faddr 1 (.t 49), none⟩,
 ⟨some 51, .load none (.t 50), none⟩,
 ⟨some 52, .mov (.t 6), none⟩,
 ⟨some 53, .bin .sub (.t 51) (.t 52), none⟩,
 ⟨some 54, .mov (.t 0), none⟩,
 ⟨some 55, .nilCheck (.t 54), none⟩,
 ⟨some 56, .faddr 1 (.t 55), none⟩,
 ⟨some 57, .load none (.t 56), none⟩,
 ⟨some 58, .slice 1 (.t 47) (some (.t 53)) (some (.t 57)) none, none⟩,
 ⟨some 59, .append false 1 1 (.t 43) (.t 58), none⟩,
 ⟨some 4, .mov (.t 59), none⟩]
def s88 : SCode := (.seq (.region xyt 0 []) (.seq (.region xyu 0 []) (.seq (.region xyv 0 []) (.seq (.seq (.region xyw 0 []) (.cond (.t 31) (.seq (.region xyx 0 []) (.seq (.region xyy 0 []) .ret)) .skip)) (.seq (.region xyz 0 []) (.seq (.region xy0 0 []) .ret))))))
theorem e88 : qg s88.eq_1 := qh s88.eq_1
theorem zea : qa xyt.eq_1 := qc
theorem zeb : qa xyu.eq_1 := qc
theorem zec : qa xyv.eq_1 := qc
theorem zed : qa xyw.eq_1 := qc
theorem zee : qa xyx.eq_1 := qc
theorem zef : qa xyy.eq_1 := qc
theorem zeg : qa xyz.eq_1 := qc
theorem zeh : qa xy0.eq_1 := qc
attribute [go_sem] zea zeb zec zed zee zef zeg zeh e88
def xy1 : List SOper := [
 ⟨some 4, .mov (.k (.d (.str []))), none⟩]
def xy2 : List SOper := [
 ⟨some 5, .mov (.t 0), none⟩,
 ⟨some 6, .mov (.t 1), none⟩,
 ⟨some 7, .call (.k (.d (.func (.func 88) [] []))) [(.t 5), (.t 6)], none⟩,
 ⟨some 8, .b2s (.t 7), none⟩,
 ⟨some 4, .mov (.t 8), none⟩]
def s86 : SCode := (.seq (.region xy1 0 []) (.seq (.region xy2 0 []) .ret))
theorem e86 : qg s86.eq_1 := qh s86.eq_1
theorem zei : qa xy1.eq_1 := qc
theorem zej : qa xy2.eq_1 := qc
attribute [go_sem] zei zej e86
def xy3 : List SOper := [
 ⟨some 2, .mov (.k (.d (.int .i64 0))), none⟩]
def xy4 : List SOper := [
 ⟨some 3, .mov (.t 0), none⟩,
 ⟨some 4, .nilCheck (.t 3), none⟩,
 ⟨some 5, .faddr 2 (.t 4), none⟩,
 ⟨some 6, .load none (.t 5), none⟩,
 ⟨some 7, .mov (.t 6), none⟩,
 ⟨some 8, .mov (.t 0), some (7, false)⟩,
 ⟨some 9, .nilCheck (.t 8), some (7, false)⟩,
 ⟨some 10, .faddr 1 (.t 9), some (7, false)⟩,
 ⟨some 11, .load none (.t 10), some (7, false)⟩,
 ⟨some 12, .mov (.t 0), some (7, false)⟩,
 ⟨some 13, .nilCheck (.t 12), some (7, false)⟩,
 ⟨some 14, .faddr 0 (.t 13), some (7, false)⟩,
 ⟨some 15, .load none (.t 14), some (7, false)⟩,
 ⟨some 16, .len (.t 15), some (7, false)⟩,
 ⟨some 17, .bin .neq (.t 11) (.t 16), some (7, false)⟩,
 ⟨some 18, .pick (.t 7) (.k (.d (.bool true))) (.t 17), none⟩]
def xy5 : List SOper := [
 ⟨some 2, .mov (.k (.d (.int .i64 4))), none⟩]
def xy6 : List SOper := [
 ⟨some 2, .mov (.k (.d (.int .i64 0))), none⟩]
def s89 : SCode := (.seq (.region xy3 0 []) (.seq (.seq (.region xy4 0 []) (.cond (.t 18) (.seq (.region xy5 0 []) .ret) .skip)) (.seq (.region xy6 0 []) .ret)))
theorem e89 : qg s89.eq_1 := qh s89.eq_1
theorem zek : qa xy3.eq_1 := qc
theorem zel : qa xy4.eq_1 := qc
theorem zem : qa xy5.eq_1 := qc
theorem zen : qa xy6.eq_1 := qc
attribute [go_sem] zek zel zem zen e89
end
noncomputable section
set_option maxRecDepth 100000
def xy7 : List SOper := [
 ⟨some 2, .mov (.k (.d .nilsl)), none⟩,
 ⟨some 3, .mov (.k (.d (.int .i64 0))), none⟩]
def xy8 : List SOper := [
 ⟨some 11, .buildSlice false 1 0 [(.int .u8 0)] [], none⟩,
 ⟨some 12, .mov (.t 0), none⟩,
 ⟨some 13, .append false 1 1 (.t 11) (.t 12), none⟩,
 ⟨some 14, .build [.nilsl, (.int .i64 0), (.bool false)] [(0, 1, (.t 13))], none⟩,
 ⟨some 15, .box 1 (.t 14), none⟩,
 ⟨some 4, .mov (.t 15), none⟩]
def xy9 : List SOper := [
 ⟨some 16, .mov (.t 4), none⟩,
 ⟨some 17, .call (.k (.d (.func (.func 85) [] []))) [(.t 16), (.k (.d (.int .i64 1))), (.k (.d (.int .i64 20)))], none⟩,
 ⟨some 5, .mov (.t 17), none⟩]
def xza : List SOper := [
 ⟨some 6, .mov (.k (.d .nilsl)), none⟩]
def xzb : List SOper := [
 ⟨some 7, .mov (.k (.d (.int .i64 0))), none⟩]
def xzc : List SOper := [
 ⟨some 18, .mov (.t 7), none⟩,
 ⟨some 19, .mov (.t 5), none⟩,
 ⟨some 20, .bin .lss (.t 18) (.t 19), none⟩]
def xzd : List SOper := [
 ⟨some 23, .mov (.t 4), none⟩,
 ⟨some 24, .call (.k (.d (.func (.func 86) [] []))) [(.t 23), (.k (.d (.int .i64 40)))], none⟩,
 ⟨some 25, .mov (.t 4), none⟩,
 ⟨some 26, .call (.k (.d (.func (.func 87) [] []))) [(.t 25)], none⟩,
 ⟨some 27, .build [(.str []), (.bool false), .nilsl] [(0, 1, (.t 24)), (1, 1, (.t 26))], none⟩,
 ⟨some 8, .alloc 1 [(.d (.str [])), (.d (.bool false)), (.d .nilsl)], none⟩,
 ⟨none, .store (some 3) (.t 8) (.t 27), none⟩]
def xze : List SOper := [
 ⟨some 28, .mov (.t 4), none⟩,
 ⟨some 29, .call (.k (.d (.func (.func 88) [] []))) [(.t 28), (.k (.d (.int .i64 900)))], none⟩,
 ⟨some 30, .faddr 2 (.t 8), none⟩,
 ⟨none, .store none (.t 30) (.t 29), none⟩]
def xzf : List SOper := [
 ⟨some 31, .mov (.t 6), none⟩,
 ⟨some 32, .load (some 3) (.t 8), none⟩,
 ⟨some 33, .buildSlice false 3 1 [(.str []), (.bool false), .nilsl] [(0, 3, (.t 32))], none⟩,
 ⟨some 34, .append false 3 48 (.t 31) (.t 33), none⟩,
 ⟨some 6, .mov (.t 34), none⟩]
def xzg : List SOper := [
 ⟨some 21, .mov (.t 7), none⟩,
 ⟨some 22, .bin .add (.t 21) (.k (.d (.int .i64 1))), none⟩,
 ⟨some 7, .mov (.t 22), none⟩]
def qzx : SCode := (.seq (.seq (.region xzc 0 []) (.cond (.t 20) .skip (.exit 0))) (.seq (.block 1 (.seq (.region xzd 1 []) (.seq (.region xze 0 []) (.region xzf 0 [])))) (.region xzg 0 [])))
theorem xzh : qg qzx.eq_1 := qh qzx.eq_1
def xbw : List SOper := [
 ⟨some 35, .mov (.t 4), none⟩,
 ⟨some 36, .call (.k (.d (.func (.func 89) [] []))) [(.t 35)], none⟩,
 ⟨some 37, .bin .neq (.t 36) (.k (.d (.int .i64 0))), none⟩]
def xbx : List SOper := [
 ⟨some 2, .mov (.k (.d .nilsl)), none⟩,
 ⟨some 3, .mov (.k (.d (.int .i64 4))), none⟩]
def xby : List SOper := [
 ⟨some 39, .mov (.t 6), none⟩,
 ⟨some 40, .call (.k (.d (.func (.func 31) [] []))) [(.t 39)], none⟩,
 ⟨some 38, .mov (.t 40), none⟩,
 ⟨some 41, .extract 0 (.t 38), none⟩,
 ⟨some 42, .extract 1 (.t 38), none⟩,
 ⟨some 9, .mov (.t 41), none⟩,
 ⟨some 10, .mov (.t 42), none⟩]
def xbz : List SOper := [
 ⟨some 43, .mov (.t 10), none⟩,
 ⟨some 44, .bin .neq (.t 43) (.k (.d (.int .i64 0))), none⟩]
def xb0 : List SOper := [
 ⟨some 2, .mov (.k (.d .nilsl)), none⟩,
 ⟨some 3, .mov (.k (.d (.int .i64 4))), none⟩]
def xb1 : List SOper := [
 ⟨some 45, .mov (.t 6), none⟩,
 ⟨some 2, .mov (.t 45), none⟩,
 ⟨some 3, .mov (.k (.d (.int .i64 0))), none⟩]
def s33 : SCode := (.seq (.region xy7 0 []) (.seq (.region xy8 1 []) (.seq (.region xy9 0 []) (.seq (.region xza 0 []) (.seq (.seq (.region xzb 0 []) (.block 0 (.loop qzx))) (.seq (.seq (.region xbw 0 []) (.cond (.t 37) (.seq (.region xbx 0 []) .ret) .skip)) (.seq (.seq (.region xby 0 []) (.seq (.region xbz 0 []) (.cond (.t 44) (.seq (.region xb0 0 []) .ret) .skip))) (.seq (.region xb1 0 []) .ret))))))))
theorem e33 : qg s33.eq_1 := qh s33.eq_1
theorem zeo : qa xy7.eq_1 := qc
theorem zep : qa xy8.eq_1 := qc
theorem zeq : qa xy9.eq_1 := qc
theorem zer : qa xza.eq_1 := qc
theorem zes : qa xzb.eq_1 := qc
theorem zet : qa xzc.eq_1 := qc
theorem zeu : qa xzd.eq_1 := qc
theorem zev : qa xze.eq_1 := qc
theorem zew : qa xzf.eq_1 := qc
theorem zex : qa xzg.eq_1 := qc
theorem xzi : qa xbw.eq_1 := qc
theorem xzj : qa xbx.eq_1 := qc
theorem xzk : qa xby.eq_1 := qc
theorem xzl : qa xbz.eq_1 := qc
theorem xzm : qa xb0.eq_1 := qc
theorem xzn : qa xb1.eq_1 := qc
attribute [go_sem] zeo zep zeq zer zes zet zeu zev zew zex xzh xzi xzj xzk xzl xzm xzn e33
end
end Go.Proofs.Ytinnaedmdoengaa
namespace Go.Proofs.Ytinnaedmdoengaa
open Go.Abs
set_option linter.unusedSimpArgs false
set_option linter.unusedVariables false
theorem xzo (v : Nat) : zz (unz v) = v := by
 unfold zz unz
 split <;> split <;> omega
theorem xzp (n : Int) : unz (zz n) = n := by
 unfold zz unz
 split <;> split <;> omega
theorem toNat_ofNat {n : Nat} (h : n < 256) : (UInt8.ofNat n).toNat = n := by simp [UInt8.toNat_ofNat]; omega
theorem xzq (k : Nat) : ∀ (j u v : Nat) (l : List UInt8), j + (k + 1) = 10 → v * 128 ^ j < 18446744073709551616 → (v = 0 → j = 0) → dG (k + 1) j u (yn v ++ l) = some (unz (u + v * 128 ^ j), l) := by
 have small : ∀ (k j u v : Nat) (l : List UInt8), v < 128 → v * 128 ^ j < 18446744073709551616 → (v = 0 → j = 0) → dG (k + 1) j u (yn v ++ l) = some (unz (u + v * 128 ^ j), l) := by
  intro k j u v l hv hb h0
  rw [qae hv, List.singleton_append, dG, toNat_ofNat (by omega), if_pos hv, if_neg]
  simp only [Bool.or_eq_true, Bool.and_eq_true, beq_iff_eq, decide_eq_true_eq, not_or, not_and]
  refine ⟨fun h => by have := h0 h; omega, fun h => ?_⟩
  subst h
  have e : (128 : Nat) ^ 9 = 9223372036854775808 := by decide
  rw [e] at hb; omega
 induction k with
 | zero =>
  intro j u v l hj hb h0
  refine small 0 j u v l ?_ hb h0
  have : j = 9 := by omega
  subst this
  have e : (128 : Nat) ^ 9 = 9223372036854775808 := by decide
  rw [e] at hb; omega
 | succ k ih =>
  intro j u v l hj hb h0
  by_cases hv : v < 128
  ·exact small _ j u v l hv hb h0
  ·have hm : v % 128 + 128 < 256 := by omega
   rw [qad hv, List.cons_append, dG, toNat_ofNat hm, if_neg (by omega)]
   have e1 : (v % 128 + 128) % 128 = v % 128 := by omega
   have e2 : v % 128 * 128 ^ j + v / 128 * 128 ^ (j + 1) = v * 128 ^ j := by
    rw [Nat.pow_succ, Nat.mul_comm (128 ^ j) 128, ← Nat.mul_assoc, ← Nat.add_mul]
    congr 1; omega
   have hle : v / 128 * 128 ^ (j + 1) ≤ v * 128 ^ j := by omega
   rw [e1, ih (j + 1) _ (v / 128) l (by omega) (by omega) (by omega)]
   rw [Nat.add_assoc, e2]
theorem w7 {n : Int} (hn : I64 n) (l : List UInt8) : dInt (wInt n ++ l) = some (n, l) := by
 have := xzq 9 0 0 (zz n) l rfl (by rw [Nat.pow_zero, Nat.mul_one]; exact q3d hn) (fun _ => rfl)
 rw [Nat.pow_zero, Nat.mul_one, Nat.zero_add, xzp] at this
 exact this
theorem xb3 : ∀ (k j u : Nat) {l0 : List UInt8} {x : Int} {l : List UInt8}, j + k = 10 → dG k j u l0 = some (x, l) →
  ∃ v, x = unz (u + v * 128 ^ j) ∧ l0 = yn v ++ l ∧ (v = 0 → j = 0) ∧ v * 128 ^ j < 18446744073709551616
 | 0, j, u, l0, x, l, hj, h => by simp [dG] at h
 | k + 1, j, u, [], x, l, hj, h => by simp [dG] at h
 | k + 1, j, u, c :: l0, x, l, hj, h => by
  rw [dG] at h
  have hlt := qcm c
  split at h
  ·rename_i hc
   split at h
   ·cases h
   ·rename_i hb
    cases h
    simp only [Bool.or_eq_true, Bool.and_eq_true, beq_iff_eq, decide_eq_true_eq, not_or, not_and] at hb
    refine ⟨c.toNat, rfl, ?_, fun h => by have := hb.1 h; omega, ?_⟩
    ·rw [qae hc, List.singleton_append]
     congr 1
     exact (UInt8.ofNat_toNat).symm
    ·rcases Nat.lt_or_ge j 9 with h9 | h9
     ·have hp := qcw (j := j) (by omega)
      rw [Nat.pow_succ] at hp
      have : c.toNat * 128 ^ j ≤ 127 * 128 ^ j := Nat.mul_le_mul_right _ (by omega)
      omega
     ·have : j = 9 := by omega
      subst this
      have := hb.2 rfl
      have e : (128 : Nat) ^ 9 = 9223372036854775808 := by decide
      rw [e]; omega
  ·rename_i hc
   obtain ⟨v, h1, h2, h3, h4⟩ := xb3 k (j + 1) _ (by omega) h
   have e2 : c.toNat % 128 * 128 ^ j + v * 128 ^ (j + 1) = (v * 128 + c.toNat % 128) * 128 ^ j := by
    rw [Nat.pow_succ, Nat.mul_comm (128 ^ j) 128, ← Nat.mul_assoc, ← Nat.add_mul, Nat.add_comm]
   have hv : v ≠ 0 := fun h => by have := h3 h; omega
   have hk : k ≠ 0 := by
    rintro rfl
    simp [dG] at h
   refine ⟨v * 128 + c.toNat % 128, by rw [h1, Nat.add_assoc, e2], ?_, fun h => by omega, ?_⟩
   ·rw [h2, qad (u := v * 128 + c.toNat % 128) (by omega), List.cons_append]
    have e3 : (v * 128 + c.toNat % 128) % 128 + 128 = c.toNat := by omega
    have e4 : (v * 128 + c.toNat % 128) / 128 = v := by omega
    rw [e3, e4]
    congr 1
    exact (UInt8.ofNat_toNat).symm
   ·rw [← e2]
    have hp := qcw (j := j) (by omega)
    have h5 : c.toNat % 128 * 128 ^ j ≤ 127 * 128 ^ j := Nat.mul_le_mul_right _ (by omega)
    have h6 : v * 128 ^ (j + 1) % 128 ^ (j + 1) = 0 := Nat.mul_mod_left _ _
    have h7 : (18446744073709551616 : Nat) % 128 ^ (j + 1) = 0 := by
     have : (18446744073709551616 : Nat) = 2 * 128 ^ 9 := by decide
     rw [this, ← Nat.pow_sub_mul_pow 128 (show j + 1 ≤ 9 by omega), ← Nat.mul_assoc]
     exact Nat.mul_mod_left _ _
    have h8 : 127 * 128 ^ j < 128 ^ (j + 1) := by rw [Nat.pow_succ]; have : 0 < 128 ^ j := Nat.pow_pos (by decide); omega
    generalize hP : 128 ^ (j + 1) = P at h4 h6 h7 h8 ⊢
    obtain ⟨q, hq⟩ := Nat.dvd_of_mod_eq_zero h7
    rw [hq] at h4 ⊢
    have : v < q := by
     rw [Nat.mul_comm P q] at h4
     exact Nat.lt_of_mul_lt_mul_right h4
    have : (v + 1) * P ≤ q * P := Nat.mul_le_mul_right _ this
    rw [Nat.add_mul, Nat.one_mul] at this
    rw [Nat.mul_comm P q]
    omega
theorem qhu {l0 : List UInt8} {n : Int} {l : List UInt8} (h : dInt l0 = some (n, l)) : I64 n ∧ l0 = wInt n ++ l := by
 obtain ⟨v, h1, h2, _, h4⟩ := xb3 10 0 0 rfl h
 rw [Nat.pow_zero, Nat.mul_one] at h1 h4
 rw [Nat.zero_add] at h1
 subst h1
 refine ⟨?_, by rw [wInt, xzo]; exact h2⟩
 unfold I64 unz
 split <;> omega
theorem qgf {most : Int} {s : List UInt8} (hs : (s.length : Int) ≤ most) (hm : most ≤ 1000000000) (l : List UInt8) : wt most (wv s ++ l) = some (s, l) := by
 unfold wt xk wv
 rw [List.append_assoc, w7 (xw (by omega))]
 simp only
 rw [if_neg (by omega)]
 simp only [Int.toNat_natCast, List.length_append]
 rw [if_neg (by omega), List.take_left, List.drop_left]
theorem qgg {most : Int} {l0 s l : List UInt8} (h : wt most l0 = some (s, l)) : l0 = wv s ++ l ∧ (s.length : Int) ≤ most := by
 unfold wt xk at h
 cases hd : dInt l0 with
 | none => rw [hd] at h; cases h
 | some x =>
  obtain ⟨n, l1⟩ := x
  rw [hd] at h
  simp only at h
  by_cases hn : n < 0 ∨ n > most
  ·rw [if_pos hn] at h; cases h
  ·rw [if_neg hn] at h
   simp only at h
   split at h
   ·cases h
   ·rename_i hl
    cases h
    obtain ⟨_, h1⟩ := qhu hd
    have e : ((l1.take n.toNat).length : Int) = n := by rw [List.length_take]; omega
    refine ⟨?_, by omega⟩
    unfold wv
    rw [e, List.append_assoc, List.take_append_drop]
    exact h1
theorem yv {α : Type} {b : List UInt8} {v : α} {l : List UInt8} {x : α × Rd} (h : Got (some (v, l)) b x) : x = (v, ⟨b, b.length - l.length, false⟩) := h
theorem wd {α : Type} {z : α} {f : Rd → α × Rd} {d : List UInt8 → Option (α × List UInt8)} (hd : qkk z f d) {r : Rd} (hr : r.Ok) (hf : r.failed = false) {v : α} {l : List UInt8} (h : d (r.b.drop r.pos) = some (v, l)) : f r = (v, ⟨r.b, r.b.length - l.length, false⟩) := by
 rw [hd r hr, if_neg (by simp [hf]), h]
end Go.Proofs.Ytinnaedmdoengaa
