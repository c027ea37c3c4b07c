/- Texts Wk, Wl, Wm, Wn, Yd, Ya, Yb, Yc, Ye, Yf, Yg, Yh. -/
import Derived.Test.YtinnaedmdoengaaGreatMpn
import Derived.Calls
import Derived.Orders
import Derived.Tactics
import Derived.Laws.AppendOwn
import Derived.Laws.Slices
import Derived.Laws.Closers25
import Derived.Laws.StructEq
import Derived.Laws.BytesString
import Derived.Laws.CopyRow
import Derived.MapKept
import Derived.Maps.RangeRun
import Derived.TacticsIn
import Derived.OrdersIn
import Derived.RangeFuncRecord
import Derived.RangeFuncLeaves
import Derived.IntWalk
import Derived.ProofKit
import Derived.OpenShut
import Derived.Carry
import Derived.Test.YtinnaedmdoengaaGreatProg
import Derived.KernelRfl
import Derived.OwnWalkIn
import Derived.TacticsInMore
import Derived.LoopIn
import Derived.WalkKit
import Derived.Lib.Strings
import Derived.Lib.Slices
import Derived.Lib.Walk
import Derived.Lib.Bytealg
import Derived.Shelf.SlSortCmp.WholeK
import Derived.Shelf.SlSortCmp.NoneTotal

namespace Go.Proofs.YtinnaedmdoengaaGreat
open Go.Abs Go.Shelf Go.RowKit Go.Lib Go.Sort
set_option linter.unusedSimpArgs false
set_option linter.unusedVariables false
end Go.Proofs.YtinnaedmdoengaaGreat
namespace Go.Proofs.YtinnaedmdoengaaGreat
open Go.Abs
set_option linter.unusedSimpArgs false
set_option linter.unusedVariables false
attribute [go_sem] kk
def pre (p k : List UInt8) : Bool := decide (p.length ≤ k.length) && k.take p.length == p
noncomputable section
set_option maxRecDepth 100000
def q9r : List SOper := [
 ⟨some 4, .mov (.k (.d (.bool false))), none⟩]
def q9s : List SOper := [
 ⟨some 5, .mov (.t 0), none⟩,
 ⟨some 6, .lenS (.t 5), none⟩,
 ⟨some 7, .mov (.t 1), none⟩,
 ⟨some 8, .lenS (.t 7), none⟩,
 ⟨some 9, .bin .geq (.t 6) (.t 8), none⟩,
 ⟨some 10, .mov (.t 9), none⟩,
 ⟨some 11, .mov (.t 0), some (10, true)⟩,
 ⟨some 12, .mov (.t 1), some (10, true)⟩,
 ⟨some 13, .lenS (.t 12), some (10, true)⟩,
 ⟨some 14, .sliceS (.t 11) none (some (.t 13)), some (10, true)⟩,
 ⟨some 15, .mov (.t 1), some (10, true)⟩,
 ⟨some 16, .bin .eql (.t 14) (.t 15), some (10, true)⟩,
 ⟨some 17, .pick (.t 10) (.t 16) (.k (.d (.bool false))), none⟩,
 ⟨some 4, .mov (.t 17), none⟩]
def s134 : SCode := (.seq (.region q9r 0 []) (.seq (.region q9s 0 []) .ret))
theorem zl0 : qf s134.eq_1 := qg s134.eq_1
theorem xt4 : qa q9r.eq_1 := qc
theorem xt5 : qa q9s.eq_1 := qc
attribute [go_sem] xt4 xt5 zl0
def xt6 : List SOper := [
 ⟨some 4, .mov (.k (.d (.bool false))), none⟩]
def xt7 : List SOper := [
 ⟨some 5, .mov (.t 0), none⟩,
 ⟨some 6, .mov (.t 1), none⟩,
 ⟨some 7, .call (.k (.d (.func (.func 134) [] []))) [(.t 5), (.t 6)], none⟩,
 ⟨some 4, .mov (.t 7), none⟩]
def s75 : SCode := (.seq (.region xt6 0 []) (.seq (.region xt7 0 []) .ret))
theorem e75 : qf s75.eq_1 := qg s75.eq_1
theorem zdn : qa xt6.eq_1 := qc
theorem zdo : qa xt7.eq_1 := qc
attribute [go_sem] zdn zdo e75
end
noncomputable section
set_option maxRecDepth 100000
def q9t : List SOper := [
 ⟨some 4, .mov (.k (.d .nilsl)), none⟩]
def q9u : List SOper := [
 ⟨some 8, .mov (.t 0), none⟩,
 ⟨some 9, .eqnil false .ptr (.t 8), none⟩]
def q9v : List SOper := [
 ⟨some 4, .mov (.k (.d .nilsl)), none⟩]
def q9w : List SOper := [
 ⟨some 5, .mov (.k (.d .nilsl)), none⟩]
def q9x : List SOper := [
 ⟨some 10, .mov (.t 0), none⟩,
 ⟨some 11, .nilCheck (.t 10), none⟩,
 ⟨some 12, .faddr 2 (.t 11), none⟩,
 ⟨some 13, .load none (.t 12), none⟩,
 ⟨some 14, .rangeM 1 (.t 13), none⟩]
def q9y : List SOper := [
 ⟨some 15, .nextM (.t 14), none⟩,
 ⟨some 16, .extract 0 (.t 15), none⟩]
def q9z : List SOper := [
 ⟨some 17, .entryM (.t 14), none⟩,
 ⟨some 18, .extract 0 (.t 17), none⟩,
 ⟨some 19, .extract 1 (.t 17), none⟩,
 ⟨some 6, .mov (.t 18), none⟩,
 ⟨some 7, .mov (.t 19), none⟩]
def q90 : List SOper := [
 ⟨some 20, .mov (.t 6), none⟩,
 ⟨some 21, .mov (.t 1), none⟩,
 ⟨some 22, .call (.k (.d (.func (.func 75) [] []))) [(.t 20), (.t 21)], none⟩]
def q91 : List SOper := [
 ⟨some 23, .mov (.t 5), none⟩,
 ⟨some 24, .mov (.t 6), none⟩,
 ⟨some 25, .mov (.t 7), none⟩,
 ⟨some 26, .call (.k (.d (.func (.func 63) [] []))) [(.t 25)], none⟩,
 ⟨some 27, .build [(.str []), .nilsl] [(0, 1, (.t 24)), (1, 1, (.t 26))], none⟩,
 ⟨some 28, .buildSlice false 2 1 [(.str []), .nilsl] [(0, 2, (.t 27))], none⟩,
 ⟨some 29, .append true 2 40 (.t 23) (.t 28), none⟩,
 ⟨some 5, .mov (.t 29), none⟩]
def qy9 : SCode := (.seq (.region q9y 0 []) (.seq (.cond (.t 16) .skip (.exit 0)) (.block 1 (.seq (.region q9z 0 []) (.seq (.region q90 0 []) (.cond (.t 22) (.region q91 0 []) .skip))))))
theorem xt8 : qf qy9.eq_1 := qg qy9.eq_1
def qza : List SOper := [
 ⟨some 30, .mov (.t 5), none⟩,
 ⟨some 31, .call (.k (.d (.func (.func 76) [] []))) [(.t 30), (.k (.d (.func (.func 77) [] [])))], none⟩]
def qzb : List SOper := [
 ⟨some 32, .mov (.t 5), none⟩,
 ⟨some 4, .mov (.t 32), none⟩]
def s33u : SCode := (.seq (.region q9t 0 []) (.seq (.seq (.region q9u 0 []) (.cond (.t 9) (.seq (.region q9v 0 []) (.pause .ret)) .skip)) (.seq (.region q9w 0 []) (.seq (.seq (.region q9x 1 []) (.block 0 (.loop qy9))) (.seq (.pause (.region qza 0 [])) (.seq (.region qzb 0 []) (.pause .ret)))))))
theorem zl1 : qf s33u.eq_1 := qg s33u.eq_1
theorem xt9 : qa q9t.eq_1 := qc
theorem xua : qa q9u.eq_1 := qc
theorem xub : qa q9v.eq_1 := qc
theorem xuc : qa q9w.eq_1 := qc
theorem xud : qa q9x.eq_1 := qc
theorem xue : qa q9y.eq_1 := qc
theorem xuf : qa q9z.eq_1 := qc
theorem xug : qa q90.eq_1 := qc
theorem xuh : qa q91.eq_1 := qc
theorem xim : qa qza.eq_1 := qc
theorem xin : qa qzb.eq_1 := qc
attribute [go_sem] xt9 xua xub xuc xud xue xuf xug xuh xt8 xim xin zl1
def xui : List SOper := [
 ⟨some 5, .mov (.t 0), none⟩,
 ⟨some 6, .len (.t 5), none⟩,
 ⟨some 4, .mov (.t 6), none⟩]
def xuj : List SOper := [
 ⟨some 7, .mov (.t 0), none⟩,
 ⟨some 8, .mov (.t 4), none⟩,
 ⟨some 9, .mov (.t 4), none⟩,
 ⟨some 10, .conv .u64 (.t 9), none⟩,
 ⟨some 11, .call (.k (.d (.func (.func 136) [] []))) [(.t 10)], none⟩,
 ⟨some 12, .mov (.t 1), none⟩,
 ⟨some 13, .call (.k (.d (.func (.func 135) [] []))) [(.t 7), (.k (.d (.int .i64 0))), (.t 8), (.t 11), (.t 12)], none⟩]
def s76 : SCode := (.seq (.region xui 0 []) (.region xuj 0 []))
theorem e76 : qf s76.eq_1 := qg s76.eq_1
theorem zdp : qa xui.eq_1 := qc
theorem zdq : qa xuj.eq_1 := qc
attribute [go_sem] zdp zdq e76
end
theorem qv1 (l : List En) : (l.map zq).flatten = qbj l := rfl
theorem qsm (l : List En) : (qbj l).all D.isCell = true := by induction l <;> simp_all [qbj, zq, D.isCell]
attribute [go_sem] qv1 qp0 qsm
structure Cont.Ok (m : Cont) : Prop where
 num : (m.l.map (·.1)).Nodup
 lt : ∀ x ∈ m.l, x.1 < m.c
 key : (m.l.map (·.2.1)).Nodup
def enOf (x : KV) : En := (x.2.1, x.2.2)
def preL (p : List UInt8) (l : List KV) : List En := (l.filter fun x => pre p x.2.1).map enOf
def qsn (m : Cont) (p : List UInt8) : List En := qa0 (preL p m.l)
end Go.Proofs.YtinnaedmdoengaaGreat
namespace Go.Proofs.YtinnaedmdoengaaGreat
open Go.Abs
set_option linter.unusedSimpArgs false
set_option linter.unusedVariables false
theorem qbk {k : List UInt8} {x : KV} : xt k x = true ↔ k = x.2.1 := by simp [xt]
theorem qjo {k v : List UInt8} : ∀ {l : List KV} {j : Nat}, l.findIdx? (xt k) = some j → ∀ k', (l.modify j fun e => (e.1, k, v)).find? (xt k') = if k' = k then some ((l[j]?.getD (0, [], [])).1, k, v) else l.find? (xt k')
 | [], j, h, k' => by simp at h
 | a :: l, j, h, k' => by
  rw [List.findIdx?_cons] at h
  by_cases ha : xt k a = true
  ·rw [if_pos ha] at h
   cases h
   simp only [List.modify_zero_cons, List.find?_cons, List.getElem?_cons_zero, Option.getD_some]
   by_cases hk : k' = k
   ·subst hk
    have : xt k' (a.1, k', v) = true := qbk.2 rfl
    rw [this, if_pos rfl]
   ·have h1 : xt k' (a.1, k, v) = false := by simpa [xt] using hk
    have h2 : xt k' a = false := by rw [qbk] at ha; simp [xt, ← ha, hk]
    rw [h1, h2, if_neg hk]
  ·rw [if_neg (by simpa using ha)] at h
   obtain ⟨i, hi, rfl⟩ := Option.map_eq_some_iff.1 h
   simp only [List.modify_succ_cons, List.find?_cons, List.getElem?_cons_succ]
   have ih := qjo (v := v) hi k'
   by_cases hk : k' = k
   ·subst hk
    have : xt k' a = false := by simpa using ha
    rw [this]
    exact ih
   ·cases h2 : xt k' a with
    | true => rw [if_neg hk]
    | false => rw [ih]
theorem qp1 {k : List UInt8} {l : List KV} (h : l.findIdx? (xt k) = none) : l.find? (xt k) = none := by
 rw [List.findIdx?_eq_none_iff] at h
 exact List.find?_eq_none.2 fun x hx => by rw [h x hx]; simp
theorem q4a (k v : List UInt8) (m : Cont) (k' : List UInt8) : mGet k' (mPut k v m) = if k' = k then some v else mGet k' m := by
 unfold mGet mPut
 cases h : m.l.findIdx? (xt k) with
 | some j =>
  simp only [qjo h k']
  split <;> rfl
 | none =>
  simp only [List.find?_append]
  by_cases hk : k' = k
  ·subst hk
   rw [qp1 h, if_pos rfl]
   simp [xt]
  ·rw [if_neg hk]
   have : [(m.c, k, v)].find? (xt k') = none := by simp [xt, hk]
   rw [this, Option.or_none]
theorem qlk {k v : List UInt8} : ∀ {l : List KV} {j : Nat}, l.findIdx? (xt k) = some j → (l.modify j fun e => (e.1, k, v)).map (·.2.1) = l.map (·.2.1) ∧ (l.modify j fun e => (e.1, k, v)).map (·.1) = l.map (·.1)
 | [], j, h => by simp at h
 | a :: l, j, h => by
  rw [List.findIdx?_cons] at h
  by_cases ha : xt k a = true
  ·rw [if_pos ha] at h
   cases h
   rw [qbk] at ha
   simp only [List.modify_zero_cons, List.map_cons, ha, and_self]
  ·rw [if_neg (by simpa using ha)] at h
   obtain ⟨i, hi, rfl⟩ := Option.map_eq_some_iff.1 h
   obtain ⟨h1, h2⟩ := qlk (v := v) hi
   simp only [List.modify_succ_cons, List.map_cons, h1, h2, and_self]
theorem qll {α : Type} {l : List α} {x : α} (h : l.Nodup) (hx : x ∉ l) : (l ++ [x]).Nodup :=
 List.nodup_append.2 ⟨h, by simp, fun a ha b hb e => by simp at hb; subst hb; subst e; exact hx ha⟩
theorem qzg {m : Cont} (h : m.Ok) (k v : List UInt8) : (mPut k v m).Ok := by
 unfold mPut
 cases hf : m.l.findIdx? (xt k) with
 | some j =>
  obtain ⟨h1, h2⟩ := qlk (v := v) hf
  refine ⟨by simpa only [h2] using h.num, fun x hx => ?_, by simpa only [h1] using h.key⟩
  have : x.1 ∈ (m.l.modify j fun e => (e.1, k, v)).map (·.1) := List.mem_map_of_mem hx
  rw [h2] at this
  obtain ⟨y, hy, he⟩ := List.mem_map.1 this
  rw [← he]; exact h.lt y hy
 | none =>
  rw [List.findIdx?_eq_none_iff] at hf
  refine ⟨?_, fun x hx => ?_, ?_⟩
  ·rw [List.map_append]
   refine qll h.num fun hm => ?_
   obtain ⟨y, hy, he⟩ := List.mem_map.1 hm
   have := h.lt y hy
   simp only at he
   omega
  ·simp only
   rcases List.mem_append.1 hx with hx | hx
   ·have := h.lt x hx; omega
   ·simp at hx; subst hx; simp
  ·rw [List.map_append]
   refine qll h.key fun hm => ?_
   obtain ⟨y, hy, he⟩ := List.mem_map.1 hm
   have := hf y hy
   simp [xt, he] at this
theorem qe8 (k : List UInt8) (m : Cont) : (mDel k m).l.Sublist m.l := by
 unfold mDel
 split
 ·exact List.eraseIdx_sublist ..
 ·exact List.Sublist.refl _
theorem qzh {m : Cont} (h : m.Ok) (k : List UInt8) : (mDel k m).Ok :=
 ⟨List.Nodup.sublist ((qe8 k m).map _) h.num, fun x hx => by rw [q8i]; exact h.lt x ((qe8 k m).subset hx), List.Nodup.sublist ((qe8 k m).map _) h.key⟩
theorem qlm {k : List UInt8} : ∀ {l : List KV} {j : Nat}, l.findIdx? (xt k) = some j → (l.map (·.2.1)).Nodup → ∀ k', (l.eraseIdx j).find? (xt k') = if k' = k then none else l.find? (xt k')
 | [], j, h, _, k' => by simp at h
 | a :: l, j, h, hn, k' => by
  rw [List.findIdx?_cons] at h
  simp only [List.map_cons, List.nodup_cons] at hn
  by_cases ha : xt k a = true
  ·rw [if_pos ha] at h
   cases h
   rw [qbk] at ha
   simp only [List.eraseIdx_cons_zero, List.find?_cons]
   by_cases hk : k' = k
   ·subst hk
    rw [if_pos rfl]
    refine List.find?_eq_none.2 fun x hx hk => ?_
    rw [qbk] at hk
    exact hn.1 (List.mem_map.2 ⟨x, hx, by rw [← ha, ← hk]⟩)
   ·rw [if_neg hk]
    have h2 : xt k' a = false := by simp [xt, ← ha, hk]
    rw [h2]
  ·rw [if_neg (by simpa using ha)] at h
   obtain ⟨i, hi, rfl⟩ := Option.map_eq_some_iff.1 h
   simp only [List.eraseIdx_cons_succ, List.find?_cons]
   have ih := qlm hi hn.2 k'
   by_cases hk : k' = k
   ·subst hk
    have : xt k' a = false := by simpa using ha
    rw [this, if_pos rfl]
    rw [if_pos rfl] at ih
    exact ih
   ·cases h2 : xt k' a with
    | true => rw [if_neg hk]
    | false => rw [ih]
theorem q4b {m : Cont} (h : m.Ok) (k k' : List UInt8) : mGet k' (mDel k m) = if k' = k then none else mGet k' m := by
 unfold mGet mDel
 cases hf : m.l.findIdx? (xt k) with
 | some j =>
  simp only [qlm hf h.key k']
  split <;> rfl
 | none =>
  simp only
  split
  ·rename_i hk; subst hk; rw [qp1 hf]; rfl
  ·rfl
theorem q4c (k v : List UInt8) (m : Cont) : (mPut k v m).l.length ≤ m.l.length + 1 := by
 unfold mPut
 split <;> simp
theorem qty (k : List UInt8) (m : Cont) : (mDel k m).l.length ≤ m.l.length := (qe8 k m).length_le
def kvOk (x : KV) : Prop := 1 ≤ x.2.1.length ∧ x.2.1.length ≤ 40 ∧ x.2.2.length ≤ 900
theorem q4d {k v : List UInt8} {m : Cont} {x : KV} (h : x ∈ (mPut k v m).l) : x ∈ m.l ∨ (x.2.1 = k ∧ x.2.2 = v) := by
 unfold mPut at h
 split at h
 ·rename_i j hj
  simp only at h
  obtain ⟨i, hi⟩ := List.getElem?_of_mem h
  rw [List.getElem?_modify] at hi
  cases hg : m.l[i]? with
  | none => rw [hg] at hi; cases hi
  | some y =>
   rw [hg] at hi
   simp only [Option.map_eq_map, Option.map_some, Option.some.injEq] at hi
   split at hi
   ·subst hi; exact .inr ⟨rfl, rfl⟩
   ·subst hi; exact .inl (List.mem_of_getElem? hg)
 ·rcases List.mem_append.1 h with h | h
  ·exact .inl h
  ·simp at h; subst h; exact .inr ⟨rfl, rfl⟩
structure Cont.Good (m : Cont) : Prop where
 ok : m.Ok
 few : m.l.length ≤ 400
 small : ∀ x ∈ m.l, kvOk x
theorem qd6 : ∀ (l : List OpS) {m : Cont}, m.Good → (∀ o ∈ l, ji o = true) → (k7 m l).2 = true → (k7 m l).1.Good
 | [], m, h, _, _ => h
 | o :: l, m, h, hp, hy => by
  rw [k7] at hy ⊢
  have ho := v7.1 (hp o (List.mem_cons_self ..))
  have hp' := fun x hx => hp x (List.mem_cons_of_mem _ hx)
  split at hy
  ·rename_i hd
   rw [if_pos hd]
   exact qd6 l ⟨qzh h.ok _, Nat.le_trans (qty _ _) h.few, fun x hx => h.small x ((qe8 _ _).subset hx)⟩ hp' hy
  ·rename_i hd
   rw [if_neg hd]
   split at hy
   ·cases hy
   ·rename_i h4
    rw [if_neg h4]
    refine qd6 l ⟨qzg h.ok _ _, by omega, fun x hx => ?_⟩ hp' hy
    rcases q4d hx with hx | ⟨h1, h2⟩
    ·exact h.small x hx
    ·exact ⟨by rw [h1]; exact ho.1, by rw [h1]; exact ho.2.1, by rw [h2]; exact ho.2.2.1⟩
theorem qso (f r : List UInt8) (hr : r.length ≤ 2000) : (qcw f r).length ≤ f.length + 70000 := by
 have := qji _ r (Nat.le_refl _)
 unfold qcw
 rw [qjj _ _ (fun q hq => (qb5 _ r (Nat.le_refl _) q hq).2)]
 simp only; omega
structure Sto.Ok (n : Nat) (s : Sto) : Prop where
 good : s.m.Good
 file : s.file.length ≤ n * 70000
theorem qzi (n : Nat) : newS.Ok n := by
 refine ⟨⟨⟨List.nodup_nil, fun x hx => (by cases hx), List.nodup_nil⟩, ?_, fun x hx => (by cases hx)⟩, ?_⟩
 ·simp only [newS, qpv, List.length_nil, Nat.zero_le]
 ·simp only [newS, List.length_nil, Nat.zero_le]
theorem Sto.Ok.mono {n m : Nat} {s : Sto} (h : s.Ok n) (hn : n ≤ m) : s.Ok m := ⟨h.good, Nat.le_trans h.file (Nat.mul_le_mul_right _ hn)⟩
theorem qnb (s : Sto) (l : List OpS) : ((xi s l).2 ≠ 0 ∧ (xi s l).1 = s) ∨ ((xi s l).2 = 0 ∧ (xd l).2 = 0 ∧ (k7 s.m l).2 = true ∧ (xi s l).1 = ⟨qcw s.file (xd l).1, s.synced, (k7 s.m l).1⟩) := by
 unfold xi
 split
 ·exact .inl ⟨by assumption, rfl⟩
 ·split
  ·exact .inl ⟨by simp, rfl⟩
  ·rename_i h1 h2
   exact .inr ⟨rfl, by simpa using h1, by simpa using h2, rfl⟩
theorem qd7 {n : Nat} {s : Sto} (h : s.Ok n) (l : List OpS) : (xi s l).1.Ok (n + 1) := by
 rcases qnb s l with ⟨_, he⟩ | ⟨_, h1, h2, he⟩
 ·rw [he]; exact h.mono (Nat.le_succ _)
 ·rw [he]
  refine ⟨qd6 l h.good (qb7 h1).2.1 h2, ?_⟩
  have := qso s.file _ (qb6 l)
  have := h.file
  simp only; omega
theorem qbl {s : Sto} {l : List OpS} (hl : l.length ≤ 100000) (hf : s.file.length ≤ 100000000) (h : (xi s l).2 = 0) :
  ql Tryz.prog 14 [.d (.ptr 0 0), .d (.sl 3 (l.map qp))] [stoO s 1, mapO s.m] (.d (.int .i64 0)) [stoO (xi s l).1 2, mapO s.m, mapO (xi s l).1.m] := by
 have := qpw s l hl hf
 rw [qe5, if_pos h, h] at this
 exact this
def yt (k : List UInt8) : Option (List UInt8) → List OpS → Option (List UInt8)
 | a, [] => a
 | a, o :: l => yt k (if o.key = k then (if o.del then none else some o.val) else a) l
theorem qge (k : List UInt8) : ∀ (l : List OpS) {m : Cont}, m.Ok → (k7 m l).2 = true → mGet k (k7 m l).1 = yt k (mGet k m) l
 | [], m, _, _ => rfl
 | o :: l, m, h, hy => by
  rw [k7] at hy ⊢
  rw [yt]
  split at hy
  ·rename_i hd
   rw [if_pos hd, qge k l (qzh h _) hy, q4b h]
   congr 1
   by_cases hk : k = o.key
   ·rw [if_pos hk, if_pos hk.symm, if_pos hd]
   ·rw [if_neg hk, if_neg (Ne.symm hk)]
  ·rename_i hd
   rw [if_neg hd]
   split at hy
   ·cases hy
   ·rename_i h4
    rw [if_neg h4, qge k l (qzg h _ _) hy, q4a]
    congr 1
    by_cases hk : k = o.key
    ·rw [if_pos hk, if_pos hk.symm, if_neg hd]
    ·rw [if_neg hk, if_neg (Ne.symm hk)]
end Go.Proofs.YtinnaedmdoengaaGreat
namespace Go.Proofs.YtinnaedmdoengaaGreat
open Go.Abs
set_option linter.unusedSimpArgs false
set_option linter.unusedVariables false
theorem qko (w : List UInt8) : wg (qe w) = w := by
 induction w with
 | nil => rfl
 | cons c w ih => simp_all [wg, qe]
theorem xip (w : List UInt8) : (∃ l, qe w = qe l) = True := eq_true ⟨w, rfl⟩
theorem xul : (∃ l, ([] : List (List D)) = qe l) = True := eq_true ⟨[], rfl⟩
theorem qnc : wg [] = [] := rfl
attribute [go_sem] qko xip xul qnc
noncomputable section
set_option maxRecDepth 100000
def xum : List SOper := [
 ⟨some 2, .mov (.k (.d .nilsl)), none⟩]
def xun : List SOper := [
 ⟨some 3, .mov (.k (.d .nilsl)), none⟩]
def xuo : List SOper := [
 ⟨some 4, .mov (.k (.d (.int .i64 0))), none⟩]
def xup : List SOper := [
 ⟨some 5, .mov (.t 4), none⟩,
 ⟨some 6, .mov (.t 0), none⟩,
 ⟨some 7, .len (.t 6), none⟩,
 ⟨some 8, .bin .lss (.t 5) (.t 7), none⟩]
def xuq : List SOper := [
 ⟨some 11, .mov (.t 3), none⟩,
 ⟨some 12, .mov (.t 0), none⟩,
 ⟨some 13, .mov (.t 4), none⟩,
 ⟨some 14, .iaddr 3 (.t 12) (.t 13), none⟩,
 ⟨some 15, .faddr 0 (.t 14), none⟩,
 ⟨some 16, .load none (.t 15), none⟩,
 ⟨some 17, .mov (.t 0), none⟩,
 ⟨some 18, .mov (.t 4), none⟩,
 ⟨some 19, .iaddr 3 (.t 17) (.t 18), none⟩,
 ⟨some 20, .faddr 1 (.t 19), none⟩,
 ⟨some 21, .load none (.t 20), none⟩,
 ⟨some 22, .buildSlice false 1 0 [(.int .u8 0)] [], none⟩,
 ⟨some 23, .mov (.t 0), none⟩,
 ⟨some 24, .mov (.t 4), none⟩,
 ⟨some 25, .iaddr 3 (.t 23) (.t 24), none⟩,
 ⟨some 26, .faddr 2 (.t 25), none⟩,
 ⟨some 27, .load none (.t 26), none⟩,
 ⟨some 28, .append false 1 1 (.t 22) (.t 27), none⟩,
 ⟨some 29, .build [(.str []), (.bool false), .nilsl] [(0, 1, (.t 16)), (1, 1, (.t 21)), (2, 1, (.t 28))], none⟩,
 ⟨some 30, .buildSlice false 3 1 [(.str []), (.bool false), .nilsl] [(0, 3, (.t 29))], none⟩,
 ⟨some 31, .append false 3 48 (.t 11) (.t 30), none⟩,
 ⟨some 3, .mov (.t 31), none⟩]
def xur : List SOper := [
 ⟨some 9, .mov (.t 4), none⟩,
 ⟨some 10, .bin .add (.t 9) (.k (.d (.int .i64 1))), none⟩,
 ⟨some 4, .mov (.t 10), none⟩]
def xiq : SCode := (.seq (.seq (.region xup 0 []) (.cond (.t 8) .skip (.exit 0))) (.seq (.block 1 (.region xuq 0 [])) (.region xur 0 [])))
theorem zdr : qf xiq.eq_1 := qg xiq.eq_1
def xus : List SOper := [
 ⟨some 32, .mov (.t 3), none⟩,
 ⟨some 2, .mov (.t 32), none⟩]
def s31 : SCode := (.seq (.region xum 0 []) (.seq (.region xun 0 []) (.seq (.seq (.region xuo 0 []) (.block 0 (.loop xiq))) (.seq (.region xus 0 []) .ret))))
theorem e31 : qf s31.eq_1 := qg s31.eq_1
theorem zds : qa xum.eq_1 := qc
theorem zdt : qa xun.eq_1 := qc
theorem zdu : qa xuo.eq_1 := qc
theorem zdv : qa xup.eq_1 := qc
theorem zdw : qa xuq.eq_1 := qc
theorem zdx : qa xur.eq_1 := qc
theorem zdy : qa xus.eq_1 := qc
attribute [go_sem] zds zdt zdu zdv zdw zdx zdr zdy e31
def xut : List SOper := [
 ⟨some 4, .mov (.k (.d .nilsl)), none⟩]
def xuu : List SOper := [
 ⟨some 8, .mov (.t 0), none⟩,
 ⟨some 9, .mov (.t 1), none⟩,
 ⟨some 10, .call (.k (.d (.func (.func 33) [] []))) [(.t 8), (.t 9)], none⟩,
 ⟨some 5, .mov (.t 10), none⟩]
def xuv : List SOper := [
 ⟨some 6, .mov (.k (.d .nilsl)), none⟩]
def xuw : List SOper := [
 ⟨some 7, .mov (.k (.d (.int .i64 0))), none⟩]
def xux : List SOper := [
 ⟨some 11, .mov (.t 7), none⟩,
 ⟨some 12, .mov (.t 5), none⟩,
 ⟨some 13, .len (.t 12), none⟩,
 ⟨some 14, .bin .lss (.t 11) (.t 13), none⟩]
def xuy : List SOper := [
 ⟨some 17, .mov (.t 6), none⟩,
 ⟨some 18, .mov (.t 5), none⟩,
 ⟨some 19, .mov (.t 7), none⟩,
 ⟨some 20, .iaddr 2 (.t 18) (.t 19), none⟩,
 ⟨some 21, .load (some 2) (.t 20), none⟩,
 ⟨some 22, .buildSlice false 2 1 [(.str []), .nilsl] [(0, 2, (.t 21))], none⟩,
 ⟨some 23, .append false 2 40 (.t 17) (.t 22), none⟩,
 ⟨some 6, .mov (.t 23), none⟩]
def xuz : List SOper := [
 ⟨some 15, .mov (.t 7), none⟩,
 ⟨some 16, .bin .add (.t 15) (.k (.d (.int .i64 1))), none⟩,
 ⟨some 7, .mov (.t 16), none⟩]
def xir : SCode := (.seq (.seq (.region xux 0 []) (.cond (.t 14) .skip (.exit 0))) (.seq (.block 1 (.region xuy 0 [])) (.region xuz 0 [])))
theorem zdz : qf xir.eq_1 := qg xir.eq_1
def xu0 : List SOper := [
 ⟨some 24, .mov (.t 6), none⟩,
 ⟨some 4, .mov (.t 24), none⟩]
def s21 : SCode := (.seq (.region xut 0 []) (.seq (.region xuu 0 []) (.seq (.region xuv 0 []) (.seq (.seq (.region xuw 0 []) (.block 0 (.loop xir))) (.seq (.region xu0 0 []) .ret)))))
theorem e21 : qf s21.eq_1 := qg s21.eq_1
theorem zd0 : qa xut.eq_1 := qc
theorem zd1 : qa xuu.eq_1 := qc
theorem zd2 : qa xuv.eq_1 := qc
theorem zd3 : qa xuw.eq_1 := qc
theorem zd4 : qa xux.eq_1 := qc
theorem zd5 : qa xuy.eq_1 := qc
theorem zd6 : qa xuz.eq_1 := qc
theorem zd7 : qa xu0.eq_1 := qc
attribute [go_sem] zd0 zd1 zd2 zd3 zd4 zd5 zd6 zdz zd7 e21
def xu1 : List SOper := [
 ⟨some 2, .mov (.k (.d (.bool false))), none⟩]
def xu2 : List SOper := [
 ⟨some 3, .mov (.k (.d (.int .i64 0))), none⟩]
def xu3 : List SOper := [
 ⟨some 4, .mov (.k (.d (.int .i64 0))), none⟩]
def xu4 : List SOper := [
 ⟨some 5, .mov (.t 4), none⟩,
 ⟨some 6, .mov (.t 0), none⟩,
 ⟨some 7, .len (.t 6), none⟩,
 ⟨some 8, .bin .lss (.t 5) (.t 7), none⟩]
def xu5 : List SOper := [
 ⟨some 11, .mov (.t 0), none⟩,
 ⟨some 12, .mov (.t 4), none⟩,
 ⟨some 13, .iaddr 3 (.t 11) (.t 12), none⟩,
 ⟨some 14, .faddr 0 (.t 13), none⟩,
 ⟨some 15, .load none (.t 14), none⟩,
 ⟨some 16, .lenS (.t 15), none⟩,
 ⟨some 17, .bin .gtr (.t 16) (.k (.d (.int .i64 100))), none⟩,
 ⟨some 18, .mov (.t 17), none⟩,
 ⟨some 19, .mov (.t 0), some (18, false)⟩,
 ⟨some 20, .mov (.t 4), some (18, false)⟩,
 ⟨some 21, .iaddr 3 (.t 19) (.t 20), some (18, false)⟩,
 ⟨some 22, .faddr 2 (.t 21), some (18, false)⟩,
 ⟨some 23, .load none (.t 22), some (18, false)⟩,
 ⟨some 24, .len (.t 23), some (18, false)⟩,
 ⟨some 25, .bin .gtr (.t 24) (.k (.d (.int .i64 1000))), some (18, false)⟩,
 ⟨some 26, .pick (.t 18) (.k (.d (.bool true))) (.t 25), none⟩]
def xu6 : List SOper := [
 ⟨some 2, .mov (.k (.d (.bool false))), none⟩]
def xu7 : List SOper := [
 ⟨some 27, .mov (.t 3), none⟩,
 ⟨some 28, .mov (.t 0), none⟩,
 ⟨some 29, .mov (.t 4), none⟩,
 ⟨some 30, .iaddr 3 (.t 28) (.t 29), none⟩,
 ⟨some 31, .faddr 2 (.t 30), none⟩,
 ⟨some 32, .load none (.t 31), none⟩,
 ⟨some 33, .len (.t 32), none⟩,
 ⟨some 34, .bin .add (.t 27) (.t 33), none⟩,
 ⟨some 3, .mov (.t 34), none⟩]
def xu8 : List SOper := [
 ⟨some 9, .mov (.t 4), none⟩,
 ⟨some 10, .bin .add (.t 9) (.k (.d (.int .i64 1))), none⟩,
 ⟨some 4, .mov (.t 10), none⟩]
def xis : SCode := (.seq (.seq (.region xu4 0 []) (.cond (.t 8) .skip (.exit 0))) (.seq (.block 1 (.seq (.seq (.region xu5 0 []) (.cond (.t 26) (.seq (.region xu6 0 []) .ret) .skip)) (.region xu7 0 []))) (.region xu8 0 [])))
theorem zd8 : qf xis.eq_1 := qg xis.eq_1
def xu9 : List SOper := [
 ⟨some 35, .mov (.t 0), none⟩,
 ⟨some 36, .len (.t 35), none⟩,
 ⟨some 37, .bin .leq (.t 36) (.k (.d (.int .i64 30))), none⟩,
 ⟨some 38, .mov (.t 37), none⟩,
 ⟨some 39, .mov (.t 3), some (38, true)⟩,
 ⟨some 40, .bin .leq (.t 39) (.k (.d (.int .i64 3000))), some (38, true)⟩,
 ⟨some 41, .pick (.t 38) (.t 40) (.k (.d (.bool false))), none⟩,
 ⟨some 2, .mov (.t 41), none⟩]
def s29 : SCode := (.seq (.region xu1 0 []) (.seq (.region xu2 0 []) (.seq (.seq (.region xu3 0 []) (.block 0 (.loop xis))) (.seq (.region xu9 0 []) .ret))))
theorem e29 : qf s29.eq_1 := qg s29.eq_1
theorem zd9 : qa xu1.eq_1 := qc
theorem zea : qa xu2.eq_1 := qc
theorem zeb : qa xu3.eq_1 := qc
theorem zec : qa xu4.eq_1 := qc
theorem zed : qa xu5.eq_1 := qc
theorem zee : qa xu6.eq_1 := qc
theorem zef : qa xu7.eq_1 := qc
theorem zeg : qa xu8.eq_1 := qc
theorem zeh : qa xu9.eq_1 := qc
attribute [go_sem] zd9 zea zeb zec zed zee zef zeg zd8 zeh e29
def xva : List SOper := [
 ⟨some 2, .mov (.k (.d (.bool false))), none⟩]
def xvb : List SOper := [
 ⟨some 3, .mov (.k (.d (.int .i64 0))), none⟩]
def xvc : List SOper := [
 ⟨some 4, .mov (.t 3), none⟩,
 ⟨some 5, .mov (.t 0), none⟩,
 ⟨some 6, .len (.t 5), none⟩,
 ⟨some 7, .bin .lss (.t 4) (.t 6), none⟩]
def xvd : List SOper := [
 ⟨some 10, .mov (.t 0), none⟩,
 ⟨some 11, .mov (.t 3), none⟩,
 ⟨some 12, .iaddr 2 (.t 10) (.t 11), none⟩,
 ⟨some 13, .faddr 1 (.t 12), none⟩,
 ⟨some 14, .load none (.t 13), none⟩,
 ⟨some 15, .call (.k (.d (.func (.func 29) [] []))) [(.t 14)], none⟩,
 ⟨some 16, .not (.t 15), none⟩]
def xve : List SOper := [
 ⟨some 2, .mov (.k (.d (.bool false))), none⟩]
def xvf : List SOper := [
 ⟨some 8, .mov (.t 3), none⟩,
 ⟨some 9, .bin .add (.t 8) (.k (.d (.int .i64 1))), none⟩,
 ⟨some 3, .mov (.t 9), none⟩]
def xit : SCode := (.seq (.seq (.region xvc 0 []) (.cond (.t 7) .skip (.exit 0))) (.seq (.block 1 (.seq (.region xvd 0 []) (.cond (.t 16) (.seq (.region xve 0 []) .ret) .skip))) (.region xvf 0 [])))
theorem zei : qf xit.eq_1 := qg xit.eq_1
def xvg : List SOper := [
 ⟨some 17, .mov (.t 0), none⟩,
 ⟨some 18, .len (.t 17), none⟩,
 ⟨some 19, .bin .leq (.t 18) (.k (.d (.int .i64 15))), none⟩,
 ⟨some 2, .mov (.t 19), none⟩]
def s23 : SCode := (.seq (.region xva 0 []) (.seq (.seq (.region xvb 0 []) (.block 0 (.loop xit))) (.seq (.region xvg 0 []) .ret)))
theorem e23 : qf s23.eq_1 := qg s23.eq_1
theorem zej : qa xva.eq_1 := qc
theorem zek : qa xvb.eq_1 := qc
theorem zel : qa xvc.eq_1 := qc
theorem zem : qa xvd.eq_1 := qc
theorem zen : qa xve.eq_1 := qc
theorem zeo : qa xvf.eq_1 := qc
theorem zep : qa xvg.eq_1 := qc
attribute [go_sem] zej zek zel zem zen zeo zei zep e23
end
theorem vj {α : Type} {f : α → Bool} {l : List α} {i : Nat} (h : (l.take i).all f = true) (hil : i < l.length) (hf : f l[i] = true) : (l.take (i + 1)).all f = true := by
 rw [List.take_succ_eq_append_getElem hil, List.all_append, h]; simp [hf]
theorem qln {α : Type} {f : α → Bool} {l : List α} {i : Nat} (hil : i < l.length) (hf : f l[i] = false) : l.all f = false := by
 rw [List.all_eq_false]; exact ⟨l[i], List.getElem_mem hil, by simp [hf]⟩
structure StepS where
 kind : Int
 ops : List OpS
 deriving DecidableEq, Inhabited
def xl (x : StepS) : List D := [.int .i64 x.kind, .sl 3 (x.ops.map qp)]
theorem qfa (o : StepS) : D.noPtrL (xl o) = true := by simp only [xl, D.noPtrL, D.noPtr, qpg, Bool.and_self]
theorem qsp (l : List StepS) : D.noPtrR (l.map xl) = true := xn qfa l
attribute [go_sem] qfa qsp
noncomputable section
set_option maxRecDepth 100000
def xvi : List SOper := [
 ⟨some 0, .mov (.k (.d (.bool false))), none⟩]
def xvj : List SOper := [
 ⟨some 5, .call (.k (.d (.func (.func 10) [] []))) [], none⟩,
 ⟨some 1, .mov (.t 5), none⟩]
def xvk : List SOper := [
 ⟨some 6, .mov (.t 1), none⟩,
 ⟨some 7, .buildSlice false 1 1 [(.int .u8 0)] [(0, 1, (.k (.d (.int .u8 1))))], none⟩,
 ⟨some 8, .build [(.str []), (.bool false), .nilsl] [(0, 1, (.k (.d (.str [97])))), (2, 1, (.t 7))], none⟩,
 ⟨some 9, .buildSlice false 1 1 [(.int .u8 0)] [(0, 1, (.k (.d (.int .u8 2))))], none⟩,
 ⟨some 10, .build [(.str []), (.bool false), .nilsl] [(0, 1, (.k (.d (.str [98])))), (2, 1, (.t 9))], none⟩,
 ⟨some 11, .buildSlice false 3 2 [(.str []), (.bool false), .nilsl] [(0, 3, (.t 8)), (3, 3, (.t 10))], none⟩,
 ⟨some 12, .call (.k (.d (.func (.func 14) [] []))) [(.t 6), (.t 11)], none⟩,
 ⟨some 2, .mov (.t 12), none⟩]
def xvl : List SOper := [
 ⟨some 13, .mov (.t 1), none⟩,
 ⟨some 14, .build [(.str []), (.bool false), .nilsl] [(0, 1, (.k (.d (.str [97])))), (1, 1, (.k (.d (.bool true))))], none⟩,
 ⟨some 15, .buildSlice false 3 1 [(.str []), (.bool false), .nilsl] [(0, 3, (.t 14))], none⟩,
 ⟨some 16, .call (.k (.d (.func (.func 14) [] []))) [(.t 13), (.t 15)], none⟩,
 ⟨some 3, .mov (.t 16), none⟩]
def xvm : List SOper := [
 ⟨some 17, .mov (.t 1), none⟩,
 ⟨some 18, .call (.k (.d (.func (.func 21) [] []))) [(.t 17), (.k (.d (.str [])))], none⟩,
 ⟨some 4, .mov (.t 18), none⟩]
def xvn : List SOper := [
 ⟨some 19, .mov (.t 2), none⟩,
 ⟨some 20, .bin .eql (.t 19) (.k (.d (.int .i64 0))), none⟩,
 ⟨some 21, .mov (.t 20), none⟩,
 ⟨some 22, .mov (.t 3), some (21, true)⟩,
 ⟨some 23, .bin .eql (.t 22) (.k (.d (.int .i64 0))), some (21, true)⟩,
 ⟨some 24, .pick (.t 21) (.t 23) (.k (.d (.bool false))), none⟩,
 ⟨some 25, .mov (.t 24), none⟩,
 ⟨some 26, .mov (.t 4), some (25, true)⟩,
 ⟨some 27, .len (.t 26), some (25, true)⟩,
 ⟨some 28, .bin .eql (.t 27) (.k (.d (.int .i64 1))), some (25, true)⟩,
 ⟨some 29, .pick (.t 25) (.t 28) (.k (.d (.bool false))), none⟩,
 ⟨some 30, .mov (.t 29), none⟩,
 ⟨some 31, .mov (.t 4), some (30, true)⟩,
 ⟨some 32, .iaddr 2 (.t 31) (.k (.d (.int .i64 0))), some (30, true)⟩,
 ⟨some 33, .faddr 0 (.t 32), some (30, true)⟩,
 ⟨some 34, .load none (.t 33), some (30, true)⟩,
 ⟨some 35, .bin .eql (.t 34) (.k (.d (.str [98]))), some (30, true)⟩,
 ⟨some 36, .pick (.t 30) (.t 35) (.k (.d (.bool false))), none⟩,
 ⟨some 37, .mov (.t 36), none⟩,
 ⟨some 38, .mov (.t 4), some (37, true)⟩,
 ⟨some 39, .iaddr 2 (.t 38) (.k (.d (.int .i64 0))), some (37, true)⟩,
 ⟨some 40, .faddr 1 (.t 39), some (37, true)⟩,
 ⟨some 41, .load none (.t 40), some (37, true)⟩,
 ⟨some 42, .b2s (.t 41), some (37, true)⟩,
 ⟨some 43, .bin .eql (.t 42) (.k (.d (.str [2]))), some (37, true)⟩,
 ⟨some 44, .pick (.t 37) (.t 43) (.k (.d (.bool false))), none⟩,
 ⟨some 0, .mov (.t 44), none⟩]
def s17 : SCode := (.seq (.region xvi 0 []) (.seq (.region xvj 2 []) (.seq (.region xvk 1 []) (.seq (.region xvl 1 []) (.seq (.region xvm 0 []) (.seq (.region xvn 0 []) .ret))))))
theorem e17 : qf s17.eq_1 := qg s17.eq_1
theorem zer : qa xvi.eq_1 := qc
theorem zes : qa xvj.eq_1 := qc
theorem zet : qa xvk.eq_1 := qc
theorem zeu : qa xvl.eq_1 := qc
theorem zev : qa xvm.eq_1 := qc
theorem zew : qa xvn.eq_1 := qc
attribute [go_sem] zer zes zet zeu zev zew e17
end
def ops1 : List OpS := [⟨[97], false, [1]⟩, ⟨[98], false, [2]⟩]
def ops2 : List OpS := [⟨[97], true, []⟩]
def st1 : Sto := (xi newS ops1).1
def st2 : Sto := (xi st1 ops2).1
theorem c1 : (xi newS ops1).2 = 0 := by decide +kernel
theorem c2 : (xi st1 ops2).2 = 0 := by decide +kernel
theorem c3 : qsn st2.m [] = [([98], [2])] := by decide +kernel
theorem qzm : ql Tryz.prog 10 [] [] (.d (.ptr 1 0)) [mapO newS.m, stoO newS 0] := xsh
end Go.Proofs.YtinnaedmdoengaaGreat
namespace Go.Proofs.YtinnaedmdoengaaGreat
open Go.Abs
set_option linter.unusedSimpArgs false
set_option linter.unusedVariables false
noncomputable section
set_option maxRecDepth 100000
def q93 : List SOper := [
 ⟨some 2, .mov (.k (.d .nilsl)), none⟩]
def q94 : List SOper := [
 ⟨some 5, .mov (.t 0), none⟩,
 ⟨some 6, .conv .u64 (.t 5), none⟩,
 ⟨some 7, .bin .mul (.t 6) (.k (.d (.int .u64 2))), none⟩,
 ⟨some 3, .mov (.t 7), none⟩]
def q95 : List SOper := [
 ⟨some 8, .mov (.t 0), none⟩,
 ⟨some 9, .bin .lss (.t 8) (.k (.d (.int .i64 0))), none⟩]
def q96 : List SOper := [
 ⟨some 10, .mov (.t 0), none⟩,
 ⟨some 11, .bin .add (.t 10) (.k (.d (.int .i64 1))), none⟩,
 ⟨some 12, .neg (.t 11), none⟩,
 ⟨some 13, .conv .u64 (.t 12), none⟩,
 ⟨some 14, .bin .mul (.t 13) (.k (.d (.int .u64 2))), none⟩,
 ⟨some 15, .bin .add (.t 14) (.k (.d (.int .u64 1))), none⟩,
 ⟨some 3, .mov (.t 15), none⟩]
def q97 : List SOper := [
 ⟨some 4, .mov (.k (.d .nilsl)), none⟩]
def q98 : List SOper := [
 ⟨some 16, .mov (.t 3), none⟩,
 ⟨some 17, .bin .geq (.t 16) (.k (.d (.int .u64 128))), none⟩]
def q99 : List SOper := [
 ⟨some 18, .mov (.t 4), none⟩,
 ⟨some 19, .mov (.t 3), none⟩,
 ⟨some 20, .bin .rem (.t 19) (.k (.d (.int .u64 128))), none⟩,
 ⟨some 21, .conv .u8 (.t 20), none⟩,
 ⟨some 22, .bin .add (.t 21) (.k (.d (.int .u8 128))), none⟩,
 ⟨some 23, .buildSlice false 1 1 [(.int .u8 0)] [(0, 1, (.t 22))], none⟩,
 ⟨some 24, .append false 1 1 (.t 18) (.t 23), none⟩,
 ⟨some 4, .mov (.t 24), none⟩]
def xaa : List SOper := [
 ⟨some 25, .mov (.t 3), none⟩,
 ⟨some 26, .bin .quo (.t 25) (.k (.d (.int .u64 128))), none⟩,
 ⟨some 3, .mov (.t 26), none⟩]
def qzn : SCode := (.seq (.seq (.region q98 0 []) (.cond (.t 17) .skip (.exit 0))) (.block 1 (.seq (.region q99 0 []) (.region xaa 0 []))))
theorem xvo : qf qzn.eq_1 := qg qzn.eq_1
def xab : List SOper := [
 ⟨some 27, .mov (.t 4), none⟩,
 ⟨some 28, .mov (.t 3), none⟩,
 ⟨some 29, .conv .u8 (.t 28), none⟩,
 ⟨some 30, .buildSlice false 1 1 [(.int .u8 0)] [(0, 1, (.t 29))], none⟩,
 ⟨some 31, .append false 1 1 (.t 27) (.t 30), none⟩,
 ⟨some 2, .mov (.t 31), none⟩]
def s125 : SCode := (.seq (.region q93 0 []) (.seq (.region q94 0 []) (.seq (.seq (.region q95 0 []) (.cond (.t 9) (.region q96 0 []) .skip)) (.seq (.region q97 0 []) (.seq (.block 0 (.loop qzn)) (.seq (.region xab 0 []) .ret))))))
theorem zl3 : qf s125.eq_1 := qg s125.eq_1
theorem xvp : qa q93.eq_1 := qc
theorem xvq : qa q94.eq_1 := qc
theorem xvr : qa q95.eq_1 := qc
theorem xvs : qa q96.eq_1 := qc
theorem xvt : qa q97.eq_1 := qc
theorem xvu : qa q98.eq_1 := qc
theorem xvv : qa q99.eq_1 := qc
theorem xvw : qa xaa.eq_1 := qc
theorem xvx : qa xab.eq_1 := qc
attribute [go_sem] xvp xvq xvr xvs xvt xvu xvv xvw xvo xvx zl3
def xac : List SOper := [
 ⟨some 2, .mov (.k (.d .nilsl)), none⟩]
def xad : List SOper := [
 ⟨some 3, .mov (.t 0), none⟩,
 ⟨some 4, .len (.t 3), none⟩,
 ⟨some 5, .call (.k (.d (.func (.func 125) [] []))) [(.t 4)], none⟩,
 ⟨some 6, .mov (.t 0), none⟩,
 ⟨some 7, .append false 1 1 (.t 5) (.t 6), none⟩,
 ⟨some 2, .mov (.t 7), none⟩]
def s130 : SCode := (.seq (.region xac 0 []) (.seq (.region xad 0 []) .ret))
theorem zl4 : qf s130.eq_1 := qg s130.eq_1
theorem xvy : qa xac.eq_1 := qc
theorem xvz : qa xad.eq_1 := qc
attribute [go_sem] xvy xvz zl4
def xae : List SOper := [
 ⟨some 2, .mov (.k (.d .nilsl)), none⟩]
def xaf : List SOper := [
 ⟨some 3, .mov (.t 0), none⟩,
 ⟨some 4, .s2b (.t 3), none⟩,
 ⟨some 5, .call (.k (.d (.func (.func 130) [] []))) [(.t 4)], none⟩,
 ⟨some 2, .mov (.t 5), none⟩]
def s128 : SCode := (.seq (.region xae 0 []) (.seq (.region xaf 0 []) .ret))
theorem zl5 : qf s128.eq_1 := qg s128.eq_1
theorem xv0 : qa xae.eq_1 := qc
theorem xv1 : qa xaf.eq_1 := qc
attribute [go_sem] xv0 xv1 zl5
def xag : List SOper := [
 ⟨some 2, .mov (.k (.d .nilsl)), none⟩]
def xah : List SOper := [
 ⟨some 3, .mov (.t 0), none⟩]
def xai : List SOper := [
 ⟨some 4, .buildSlice false 1 1 [(.int .u8 0)] [(0, 1, (.k (.d (.int .u8 1))))], none⟩,
 ⟨some 2, .mov (.t 4), none⟩]
def xaj : List SOper := [
 ⟨some 5, .buildSlice false 1 1 [(.int .u8 0)] [(0, 1, (.k (.d (.int .u8 0))))], none⟩,
 ⟨some 2, .mov (.t 5), none⟩]
def s129 : SCode := (.seq (.region xag 0 []) (.seq (.seq (.region xah 0 []) (.cond (.t 3) (.seq (.region xai 0 []) .ret) .skip)) (.seq (.region xaj 0 []) .ret)))
theorem zl6 : qf s129.eq_1 := qg s129.eq_1
theorem xv2 : qa xag.eq_1 := qc
theorem xv3 : qa xah.eq_1 := qc
theorem xv4 : qa xai.eq_1 := qc
theorem xv5 : qa xaj.eq_1 := qc
attribute [go_sem] xv2 xv3 xv4 xv5 zl6
def xak : List SOper := [
 ⟨some 1, .box 1 (.t 0), none⟩,
 ⟨some 2, .mov (.k (.d (.bool false))), none⟩]
def xal : List SOper := [
 ⟨some 3, .faddr 0 (.t 1), none⟩,
 ⟨some 4, .load none (.t 3), none⟩,
 ⟨some 5, .lenS (.t 4), none⟩,
 ⟨some 6, .bin .geq (.t 5) (.k (.d (.int .i64 1))), none⟩,
 ⟨some 7, .mov (.t 6), none⟩,
 ⟨some 8, .faddr 0 (.t 1), some (7, true)⟩,
 ⟨some 9, .load none (.t 8), some (7, true)⟩,
 ⟨some 10, .lenS (.t 9), some (7, true)⟩,
 ⟨some 11, .bin .leq (.t 10) (.k (.d (.int .i64 40))), some (7, true)⟩,
 ⟨some 12, .pick (.t 7) (.t 11) (.k (.d (.bool false))), none⟩,
 ⟨some 13, .mov (.t 12), none⟩,
 ⟨some 14, .faddr 2 (.t 1), some (13, true)⟩,
 ⟨some 15, .load none (.t 14), some (13, true)⟩,
 ⟨some 16, .len (.t 15), some (13, true)⟩,
 ⟨some 17, .bin .leq (.t 16) (.k (.d (.int .i64 900))), some (13, true)⟩,
 ⟨some 18, .pick (.t 13) (.t 17) (.k (.d (.bool false))), none⟩,
 ⟨some 19, .mov (.t 18), none⟩,
 ⟨some 20, .faddr 1 (.t 1), some (19, true)⟩,
 ⟨some 21, .load none (.t 20), some (19, true)⟩,
 ⟨some 22, .not (.t 21), some (19, true)⟩,
 ⟨some 23, .mov (.t 22), some (19, true)⟩,
 ⟨some 24, .faddr 2 (.t 1), some (23, false)⟩,
 ⟨some 25, .load none (.t 24), some (23, false)⟩,
 ⟨some 26, .len (.t 25), some (23, false)⟩,
 ⟨some 27, .bin .eql (.t 26) (.k (.d (.int .i64 0))), some (23, false)⟩,
 ⟨some 28, .pick (.t 23) (.k (.d (.bool true))) (.t 27), some (19, true)⟩,
 ⟨some 29, .pick (.t 19) (.t 28) (.k (.d (.bool false))), none⟩,
 ⟨some 2, .mov (.t 29), none⟩]
def s127 : SCode := (.seq (.region xak 1 []) (.seq (.region xal 0 []) .ret))
theorem zl7 : qf s127.eq_1 := qg s127.eq_1
theorem xv6 : qa xak.eq_1 := qc
theorem xv7 : qa xal.eq_1 := qc
attribute [go_sem] xv6 xv7 zl7
def xv8 : List SOper := [
 ⟨some 2, .mov (.k (.d .nilsl)), none⟩,
 ⟨some 3, .mov (.k (.d (.int .i64 0))), none⟩]
def xv9 : List SOper := [
 ⟨some 6, .mov (.t 0), none⟩,
 ⟨some 7, .len (.t 6), none⟩,
 ⟨some 8, .bin .eql (.t 7) (.k (.d (.int .i64 0))), none⟩]
def xwa : List SOper := [
 ⟨some 2, .mov (.k (.d .nilsl)), none⟩,
 ⟨some 3, .mov (.k (.d (.int .i64 1))), none⟩]
def xwb : List SOper := [
 ⟨some 9, .mov (.t 0), none⟩,
 ⟨some 10, .len (.t 9), none⟩,
 ⟨some 11, .call (.k (.d (.func (.func 125) [] []))) [(.t 10)], none⟩,
 ⟨some 4, .mov (.t 11), none⟩]
def xwc : List SOper := [
 ⟨some 5, .mov (.k (.d (.int .i64 0))), none⟩]
def xwd : List SOper := [
 ⟨some 12, .mov (.t 5), none⟩,
 ⟨some 13, .mov (.t 0), none⟩,
 ⟨some 14, .len (.t 13), none⟩,
 ⟨some 15, .bin .lss (.t 12) (.t 14), none⟩]
def xwe : List SOper := [
 ⟨some 18, .mov (.t 0), none⟩,
 ⟨some 19, .mov (.t 5), none⟩,
 ⟨some 20, .iaddr 3 (.t 18) (.t 19), none⟩,
 ⟨some 21, .load (some 3) (.t 20), none⟩,
 ⟨some 22, .call (.k (.d (.func (.func 127) [] []))) [(.t 21)], none⟩,
 ⟨some 23, .not (.t 22), none⟩]
def xwf : List SOper := [
 ⟨some 2, .mov (.k (.d .nilsl)), none⟩,
 ⟨some 3, .mov (.k (.d (.int .i64 1))), none⟩]
def xwg : List SOper := [
 ⟨some 24, .mov (.t 4), none⟩,
 ⟨some 25, .mov (.t 0), none⟩,
 ⟨some 26, .mov (.t 5), none⟩,
 ⟨some 27, .iaddr 3 (.t 25) (.t 26), none⟩,
 ⟨some 28, .faddr 0 (.t 27), none⟩,
 ⟨some 29, .load none (.t 28), none⟩,
 ⟨some 30, .call (.k (.d (.func (.func 128) [] []))) [(.t 29)], none⟩,
 ⟨some 31, .append false 1 1 (.t 24) (.t 30), none⟩,
 ⟨some 32, .mov (.t 0), none⟩,
 ⟨some 33, .mov (.t 5), none⟩,
 ⟨some 34, .iaddr 3 (.t 32) (.t 33), none⟩,
 ⟨some 35, .faddr 1 (.t 34), none⟩,
 ⟨some 36, .load none (.t 35), none⟩,
 ⟨some 37, .call (.k (.d (.func (.func 129) [] []))) [(.t 36)], none⟩,
 ⟨some 38, .append false 1 1 (.t 31) (.t 37), none⟩,
 ⟨some 4, .mov (.t 38), none⟩]
def xwh : List SOper := [
 ⟨some 39, .mov (.t 4), none⟩,
 ⟨some 40, .mov (.t 0), none⟩,
 ⟨some 41, .mov (.t 5), none⟩,
 ⟨some 42, .iaddr 3 (.t 40) (.t 41), none⟩,
 ⟨some 43, .faddr 2 (.t 42), none⟩,
 ⟨some 44, .load none (.t 43), none⟩,
 ⟨some 45, .call (.k (.d (.func (.func 130) [] []))) [(.t 44)], none⟩,
 ⟨some 46, .append false 1 1 (.t 39) (.t 45), none⟩,
 ⟨some 4, .mov (.t 46), none⟩]
def xam : List SOper := [
 ⟨some 16, .mov (.t 5), none⟩,
 ⟨some 17, .bin .add (.t 16) (.k (.d (.int .i64 1))), none⟩,
 ⟨some 5, .mov (.t 17), none⟩]
def qzo : SCode := (.seq (.seq (.region xwd 0 []) (.cond (.t 15) .skip (.exit 0))) (.seq (.block 1 (.seq (.seq (.region xwe 0 []) (.cond (.t 23) (.seq (.region xwf 0 []) .ret) .skip)) (.seq (.region xwg 0 [(6, 12)]) (.region xwh 0 [])))) (.region xam 0 [])))
theorem xwi : qf qzo.eq_1 := qg qzo.eq_1
def xan : List SOper := [
 ⟨some 47, .mov (.t 0), none⟩,
 ⟨some 48, .len (.t 47), none⟩,
 ⟨some 49, .bin .gtr (.t 48) (.k (.d (.int .i64 20))), none⟩,
 ⟨some 50, .mov (.t 49), none⟩,
 ⟨some 51, .mov (.t 4), some (50, false)⟩,
 ⟨some 52, .len (.t 51), some (50, false)⟩,
 ⟨some 53, .bin .gtr (.t 52) (.k (.d (.int .i64 2000))), some (50, false)⟩,
 ⟨some 54, .pick (.t 50) (.k (.d (.bool true))) (.t 53), none⟩]
def xao : List SOper := [
 ⟨some 2, .mov (.k (.d .nilsl)), none⟩,
 ⟨some 3, .mov (.k (.d (.int .i64 6))), none⟩]
def xap : List SOper := [
 ⟨some 55, .mov (.t 4), none⟩,
 ⟨some 2, .mov (.t 55), none⟩,
 ⟨some 3, .mov (.k (.d (.int .i64 0))), none⟩]
def s73 : SCode := (.seq (.region xv8 0 []) (.seq (.seq (.region xv9 0 []) (.cond (.t 8) (.seq (.region xwa 0 []) .ret) .skip)) (.seq (.region xwb 0 []) (.seq (.seq (.region xwc 0 []) (.block 0 (.loop qzo))) (.seq (.seq (.region xan 0 []) (.cond (.t 54) (.seq (.region xao 0 []) .ret) .skip)) (.seq (.region xap 0 []) .ret))))))
theorem e73 : qf s73.eq_1 := qg s73.eq_1
theorem ze1 : qa xv8.eq_1 := qc
theorem ze2 : qa xv9.eq_1 := qc
theorem ze3 : qa xwa.eq_1 := qc
theorem ze4 : qa xwb.eq_1 := qc
theorem ze5 : qa xwc.eq_1 := qc
theorem ze6 : qa xwd.eq_1 := qc
theorem ze7 : qa xwe.eq_1 := qc
theorem ze8 : qa xwf.eq_1 := qc
theorem ze9 : qa xwg.eq_1 := qc
theorem zfa : qa xwh.eq_1 := qc
theorem xwj : qa xam.eq_1 := qc
theorem xwk : qa xan.eq_1 := qc
theorem xwl : qa xao.eq_1 := qc
theorem xwm : qa xap.eq_1 := qc
attribute [go_sem] ze1 ze2 ze3 ze4 ze5 ze6 ze7 ze8 ze9 zfa xwj xwi xwk xwl xwm e73
end
end Go.Proofs.YtinnaedmdoengaaGreat
namespace Go.Proofs.YtinnaedmdoengaaGreat
open Go.Abs
set_option linter.unusedSimpArgs false
set_option linter.unusedVariables false
structure Rd where
 b : List UInt8
 pos : Nat
 failed : Bool
 deriving DecidableEq, Inhabited
def rdO (r : Rd) : AObj := .row [.d (.sl 1 (qe r.b)), .d (.int .i64 (r.pos : Nat)), .d (.bool r.failed)]
structure Rd.Ok (r : Rd) : Prop where
 len : r.b.length ≤ 1000000000
 pos : r.pos ≤ r.b.length
def jk (n : Nat) (r : Rd) : List UInt8 × Rd := if r.failed || decide (r.b.length - r.pos < n) then ([], { r with failed := true }) else ((r.b.drop r.pos).take n, { r with pos := r.pos + n })
noncomputable section
set_option maxRecDepth 100000
def xwn : List SOper := [
 ⟨some 2, .mov (.k (.d .nilptr)), none⟩]
def xwo : List SOper := [
 ⟨some 3, .mov (.t 0), none⟩,
 ⟨some 4, .append false 1 1 (.k (.d .nilsl)) (.t 3), none⟩,
 ⟨some 5, .build [.nilsl, (.int .i64 0), (.bool false)] [(0, 1, (.t 4))], none⟩,
 ⟨some 6, .box 1 (.t 5), none⟩,
 ⟨some 2, .mov (.t 6), none⟩]
def s54 : SCode := (.seq (.region xwn 0 []) (.seq (.region xwo 1 []) .ret))
theorem e54 : qf s54.eq_1 := qg s54.eq_1
theorem zfb : qa xwn.eq_1 := qc
theorem zfc : qa xwo.eq_1 := qc
attribute [go_sem] zfb zfc e54
theorem F54 : FnIs Tryz.prog 54 Tryz.f54 [] news s54 [.tmp 2] 7 := xo follows Tryz.func54
def xaq : List SOper := [
 ⟨some 4, .mov (.k (.d .nilsl)), none⟩]
def xar : List SOper := [
 ⟨some 5, .mov (.t 0), none⟩,
 ⟨some 6, .nilCheck (.t 5), none⟩,
 ⟨some 7, .faddr 2 (.t 6), none⟩,
 ⟨some 8, .load none (.t 7), none⟩,
 ⟨some 9, .mov (.t 8), none⟩,
 ⟨some 10, .mov (.t 1), some (9, false)⟩,
 ⟨some 11, .mov (.t 0), some (9, false)⟩,
 ⟨some 12, .nilCheck (.t 11), some (9, false)⟩,
 ⟨some 13, .faddr 0 (.t 12), some (9, false)⟩,
 ⟨some 14, .load none (.t 13), some (9, false)⟩,
 ⟨some 15, .len (.t 14), some (9, false)⟩,
 ⟨some 16, .mov (.t 0), some (9, false)⟩,
 ⟨some 17, .nilCheck (.t 16), some (9, false)⟩,
 ⟨some 18, .faddr 1 (.t 17), some (9, false)⟩,
 ⟨some 19, .load none (.t 18), some (9, false)⟩,
 ⟨some 20, .bin .sub (.t 15) (.t 19), some (9, false)⟩,
 ⟨some 21, .bin .gtr (.t 10) (.t 20), some (9, false)⟩,
 ⟨some 22, .pick (.t 9) (.k (.d (.bool true))) (.t 21), none⟩]
def xas : List SOper := [
 ⟨some 23, .mov (.t 0), none⟩,
 ⟨some 24, .nilCheck (.t 23), none⟩,
 ⟨some 25, .faddr 2 (.t 24), none⟩,
 ⟨none, .store none (.t 25) (.k (.d (.bool true))), none⟩]
def xat : List SOper := [
 ⟨some 4, .mov (.k (.d .nilsl)), none⟩]
def xau : List SOper := [
 ⟨some 26, .mov (.t 0), none⟩,
 ⟨some 27, .nilCheck (.t 26), none⟩,
 ⟨some 28, .faddr 1 (.t 27), none⟩,
 ⟨some 29, .load none (.t 28), none⟩,
 ⟨some 30, .mov (.t 1), none⟩,
 ⟨some 31, .bin .add (.t 29) (.t 30), none⟩,
 ⟨some 32, .nilCheck (.t 26), none⟩,
 ⟨some 33, .faddr 1 (.t 32), none⟩,
 ⟨none, .store none (.t 33) (.t 31), none⟩]
def xav : List SOper := [
 ⟨some 34, .mov (.t 0), none⟩,
 ⟨some 35, .nilCheck (.t 34), none⟩,
 ⟨some 36, .faddr 0 (.t 35), none⟩,
 ⟨some 37, .load none (.t 36), none⟩,
 ⟨some 38, .mov (.t 0), none⟩,
 ⟨some 39, .nilCheck (.t 38), none⟩,
 ⟨some 40, .faddr 1 (.t 39), none⟩,
 ⟨some 41, .load none (.t 40), none⟩,
 ⟨some 42, .mov (.t 1), none⟩,
 ⟨some 43, .bin .sub (.t 41) (.t 42), none⟩,
 ⟨some 44, .mov (.t 0), none⟩,
 ⟨some 45, .nilCheck (.t 44), none⟩,
 ⟨some 46, .faddr 1 (.t 45), none⟩,
 ⟨some 47, .load none (.t 46), none⟩,
 ⟨some 48, .slice 1 (.t 37) (some (.t 43)) (some (.t 47)) none, none⟩,
 ⟨some 4, .mov (.t 48), none⟩]
def s152 : SCode := (.seq (.region xaq 0 []) (.seq (.seq (.region xar 0 []) (.cond (.t 22) (.seq (.region xas 0 []) (.seq (.region xat 0 []) .ret)) .skip)) (.seq (.region xau 0 []) (.seq (.region xav 0 []) .ret))))
theorem zl8 : qf s152.eq_1 := qg s152.eq_1
theorem xwp : qa xaq.eq_1 := qc
theorem xwq : qa xar.eq_1 := qc
theorem xwr : qa xas.eq_1 := qc
theorem xws : qa xat.eq_1 := qc
theorem xwt : qa xau.eq_1 := qc
theorem xwu : qa xav.eq_1 := qc
attribute [go_sem] xwp xwq xwr xws xwt xwu zl8
theorem x78 : FnIs Tryz.prog 152 Tryz.f152 [] news s152 [.tmp 4] 49 := xo follows Tryz.func152
def xaw : List SOper := [
 ⟨some 2, .mov (.k (.d (.int .i64 0))), none⟩]
def xax : List SOper := [
 ⟨some 3, .mov (.t 0), none⟩,
 ⟨some 4, .eqnil false .ptr (.t 3), none⟩]
def xay : List SOper := [
 ⟨some 2, .mov (.k (.d (.int .i64 0))), none⟩]
def xaz : List SOper := [
 ⟨some 5, .mov (.t 0), none⟩,
 ⟨some 6, .nilCheck (.t 5), none⟩,
 ⟨some 7, .faddr 0 (.t 6), none⟩,
 ⟨some 8, .load none (.t 7), none⟩,
 ⟨some 9, .len (.t 8), none⟩,
 ⟨some 10, .mov (.t 0), none⟩,
 ⟨some 11, .nilCheck (.t 10), none⟩,
 ⟨some 12, .faddr 1 (.t 11), none⟩,
 ⟨some 13, .load none (.t 12), none⟩,
 ⟨some 14, .bin .sub (.t 9) (.t 13), none⟩,
 ⟨some 2, .mov (.t 14), none⟩]
def s162 : SCode := (.seq (.region xaw 0 []) (.seq (.seq (.region xax 0 []) (.cond (.t 4) (.seq (.region xay 0 []) .ret) .skip)) (.seq (.region xaz 0 []) .ret)))
theorem zl9 : qf s162.eq_1 := qg s162.eq_1
theorem xwv : qa xaw.eq_1 := qc
theorem xww : qa xax.eq_1 := qc
theorem xwx : qa xay.eq_1 := qc
theorem xwy : qa xaz.eq_1 := qc
attribute [go_sem] xwv xww xwx xwy zl9
theorem zka : FnIs Tryz.prog 162 Tryz.f162 [] news s162 [.tmp 2] 15 := xo follows Tryz.func162
def xa0 : List SOper := [
 ⟨some 2, .mov (.k (.d (.int .i64 0))), none⟩]
def xa1 : List SOper := [
 ⟨some 4, .mov (.t 0), none⟩,
 ⟨some 5, .eqnil false .ptr (.t 4), none⟩,
 ⟨some 3, .mov (.t 5), none⟩]
def xa2 : List SOper := [
 ⟨some 2, .mov (.k (.d (.int .i64 7))), none⟩]
def xa3 : List SOper := [
 ⟨some 7, .mov (.t 0), none⟩,
 ⟨some 8, .nilCheck (.t 7), none⟩,
 ⟨some 9, .faddr 2 (.t 8), none⟩,
 ⟨some 10, .load none (.t 9), none⟩,
 ⟨some 11, .mov (.t 10), none⟩,
 ⟨some 12, .mov (.t 0), some (11, false)⟩,
 ⟨some 13, .call (.k (.d (.func (.func 162) [] []))) [(.t 12)], some (11, false)⟩,
 ⟨some 14, .bin .gtr (.t 13) (.k (.d (.int .i64 0))), some (11, false)⟩,
 ⟨some 15, .pick (.t 11) (.k (.d (.bool true))) (.t 14), none⟩,
 ⟨some 6, .mov (.t 15), none⟩]
def xa4 : List SOper := [
 ⟨some 2, .mov (.k (.d (.int .i64 4))), none⟩]
def xa5 : List SOper := [
 ⟨some 2, .mov (.k (.d (.int .i64 0))), none⟩]
def s109 : SCode := (.seq (.region xa0 0 []) (.seq (.block 0 (.seq (.region xa1 0 []) (.cond (.t 3) (.seq (.region xa2 0 []) .ret) (.seq (.region xa3 0 []) (.cond (.t 6) (.seq (.region xa4 0 []) .ret) .skip))))) (.seq (.region xa5 0 []) .ret)))
theorem zma : qf s109.eq_1 := qg s109.eq_1
theorem xwz : qa xa0.eq_1 := qc
theorem xw0 : qa xa1.eq_1 := qc
theorem xw1 : qa xa2.eq_1 := qc
theorem xw2 : qa xa3.eq_1 := qc
theorem xw3 : qa xa4.eq_1 := qc
theorem xw4 : qa xa5.eq_1 := qc
attribute [go_sem] xwz xw0 xw1 xw2 xw3 xw4 zma
theorem zfd : FnIs Tryz.prog 109 Tryz.f109 [] news s109 [.tmp 2] 16 := xo follows Tryz.func109
end
theorem qnd (b : List UInt8) (hb : b.length ≤ 1000000000) : ql Tryz.prog 54 [.d (.sl 1 (qe b))] [] (.d (.ptr 0 0)) [rdO ⟨b, 0, false⟩] := by
 refine F54.go ?_
 try (refine ev ?_; try exact True.intro)
 (repeat (with_reducible refine ob ?_))
 try (refine ev2 @rdO.eq_1 @Int.ofNat_zero ?_; try exact True.intro)
theorem qne (r : Rd) (n : Nat) (hr : r.Ok) (hn : n ≤ 1000000000) : ql Tryz.prog 152 [.d (.ptr 0 0), .d (.int .i64 n)] [rdO r] (.d (.sl 1 (qe (jk n r).1))) [rdO (jk n r).2] := by
 have h1 := hr.len
 have h2 := hr.pos
 have e1 : IntKind.i64.wrap ((r.b.length : Int) - (r.pos : Int)) = ((r.b.length - r.pos : Nat) : Int) := by rw [ze (by unfold I64; omega)]; omega
 have e2 : IntKind.i64.wrap ((r.pos : Int) + (n : Int)) = ((r.pos + n : Nat) : Int) := by rw [ze (by unfold I64; omega)]; omega
 have e3 : IntKind.i64.wrap ((r.pos : Int) + (n : Int) - (n : Int)) = ((r.pos : Nat) : Int) := by rw [ze (by unfold I64; omega)]; omega
 have e5 : ((r.pos : Int) + (n : Int)).toNat = r.pos + n := by omega
 refine x78.go ?_
 try (refine ev2 @rdO.eq_1 @e1 ?_; try exact True.intro)
 refine ⟨fun h => by rw [h]; rfl, ?_⟩
 have hd : (r.failed || decide ((n : Int) > ((r.b.length - r.pos : Nat) : Int))) = (r.failed || decide (r.b.length - r.pos < n)) := by
  congr 1; exact decide_eq_decide.2 (by omega)
 refine ju _ (fun h => ?_) (fun h => ?_)
 ·rw [hd] at h
  have hx : jk n r = ([], { r with failed := true }) := by unfold jk; rw [if_pos h]
  try (refine ev2 @hx @xa ?_; try exact True.intro)
 ·rw [hd] at h
  have hx : jk n r = ((r.b.drop r.pos).take n, { r with pos := r.pos + n }) := by unfold jk; rw [if_neg (by rw [h]; simp)]
  simp only [Bool.or_eq_false_iff, decide_eq_false_iff_not] at h
  have e4 : r.pos + n - r.pos = n := by omega
  try (refine ev2 @hx @e2 ?_; try exact True.intro)
  try (refine ev1 @e3 ?_; try exact True.intro)
  (repeat (with_reducible refine ob ?_))
  try (refine ev6 @wo @vi @e4 @e3 @e5 @Int.toNat_natCast ?_; try exact True.intro)
theorem qcz {r : Rd} (hr : r.Ok) (n : Nat) : (jk n r).2.Ok ∧ (jk n r).2.b = r.b := by
 unfold jk
 split
 ·exact ⟨⟨hr.len, hr.pos⟩, rfl⟩
 ·rename_i h
  simp only [Bool.or_eq_true, decide_eq_true_eq, not_or] at h
  have := hr.pos
  exact ⟨⟨hr.len, by simp only; omega⟩, rfl⟩
theorem q4g (r : Rd) (hr : r.Ok) : ql Tryz.prog 162 [.d (.ptr 0 0)] [rdO r] (.d (.int .i64 (r.b.length - r.pos : Nat))) [rdO r] := by
 have h1 := hr.len
 have h2 := hr.pos
 have e1 : IntKind.i64.wrap ((r.b.length : Int) - (r.pos : Int)) = ((r.b.length - r.pos : Nat) : Int) := by rw [ze (by unfold I64; omega)]; omega
 refine zka.go ?_
 try (refine ev1 @rdO.eq_1 ?_; try exact True.intro)
 (repeat (with_reducible refine ob ?_)); refine no_ ?_
 try (refine ev1 @e1 ?_; try exact True.intro)
def rEnd (r : Rd) : Int := if r.failed || decide (r.pos < r.b.length) then 4 else 0
theorem qzp (r : Rd) (hr : r.Ok) : ql Tryz.prog 109 [.d (.ptr 0 0)] [rdO r] (.d (.int .i64 (rEnd r))) [rdO r] := by
 have h2 := hr.pos
 have hl := q4g r hr
 simp only [rdO] at hl
 obtain ⟨b, p, f⟩ := r
 refine zfd.go ?_
 try (refine ev1 @rdO.eq_1 ?_; try exact True.intro)
 (repeat (with_reducible refine ob ?_)); refine no_ ?_
 cases f
 ·try (refine ev ?_; try exact True.intro)
  (repeat (with_reducible refine ob ?_)); refine clO [0] zka (hl) ?_
  try (refine ev ?_; try exact True.intro)
  refine ju _ (fun h => ?_) (fun h => ?_)
  ·have hx : rEnd ⟨b, p, false⟩ = 4 := by unfold rEnd; rw [if_pos]; simp at h ⊢; omega
   try (refine ev1 @hx ?_; try exact True.intro)
  ·have hx : rEnd ⟨b, p, false⟩ = 0 := by unfold rEnd; rw [if_neg]; simp at h ⊢; omega
   try (refine ev1 @hx ?_; try exact True.intro)
 ·try (refine ev ?_; try exact True.intro)
  refine yf (.int .i64 0) rfl ?_
  try (refine ev1 @rEnd.eq_1 ?_; try exact True.intro)
  (repeat (with_reducible refine ob ?_)); refine qcr ?_
  try (refine ev ?_; try exact True.intro)
def unz (u : Nat) : Int := if u % 2 = 0 then (u / 2 : Nat) else -((u / 2 : Nat) : Int) - 1
def qfb : Nat → Nat → Nat → Rd → Int × Rd
 | 0, _, _, r => (0, { r with failed := true })
 | k + 1, i, u, r =>
  if (jk 1 r).2.failed then (0, (jk 1 r).2) else
   if ((jk 1 r).1.headD 0).toNat < 128 then (unz ((u + ((jk 1 r).1.headD 0).toNat % 128 * 128 ^ i) % 18446744073709551616), { (jk 1 r).2 with failed := (((jk 1 r).1.headD 0).toNat == 0 && decide (0 < i)) || (decide (i = 9) && decide (((jk 1 r).1.headD 0).toNat > 1)) })
   else qfb k (i + 1) ((u + ((jk 1 r).1.headD 0).toNat % 128 * 128 ^ i) % 18446744073709551616) (jk 1 r).2
def rInt (r : Rd) : Int × Rd := qfb 10 0 0 r
noncomputable section
set_option maxRecDepth 100000
def xa6 : List SOper := [
 ⟨some 2, .mov (.k (.d (.int .i64 0))), none⟩]
def xa7 : List SOper := [
 ⟨some 3, .mov (.k (.d (.int .u64 0))), none⟩]
def xa8 : List SOper := [
 ⟨some 6, .mov (.k (.d (.int .i64 0))), none⟩]
def xa9 : List SOper := [
 ⟨some 7, .bin .lss (.t 6) (.k (.d (.int .i64 10))), none⟩]
def xba : List SOper := [
 ⟨some 8, .mov (.t 6), none⟩,
 ⟨some 4, .mov (.t 8), none⟩]
def xbb : List SOper := [
 ⟨some 9, .mov (.t 0), none⟩,
 ⟨some 10, .call (.k (.d (.func (.func 152) [] []))) [(.t 9), (.k (.d (.int .i64 1)))], none⟩,
 ⟨some 5, .mov (.t 10), none⟩]
def xbc : List SOper := [
 ⟨some 11, .mov (.t 0), none⟩,
 ⟨some 12, .nilCheck (.t 11), none⟩,
 ⟨some 13, .faddr 2 (.t 12), none⟩,
 ⟨some 14, .load none (.t 13), none⟩]
def xbd : List SOper := [
 ⟨some 2, .mov (.k (.d (.int .i64 0))), none⟩]
def xbe : List SOper := [
 ⟨some 15, .mov (.t 3), none⟩,
 ⟨some 16, .mov (.t 5), none⟩,
 ⟨some 17, .iaddr 1 (.t 16) (.k (.d (.int .i64 0))), none⟩,
 ⟨some 18, .load none (.t 17), none⟩,
 ⟨some 19, .bin .and (.t 18) (.k (.d (.int .u8 127))), none⟩,
 ⟨some 20, .conv .u64 (.t 19), none⟩,
 ⟨some 21, .mov (.t 4), none⟩,
 ⟨some 22, .bin .mul (.k (.d (.int .i64 7))) (.t 21), none⟩,
 ⟨some 23, .bin .shl (.t 20) (.t 22), none⟩,
 ⟨some 24, .bin .or (.t 15) (.t 23), none⟩,
 ⟨some 3, .mov (.t 24), none⟩]
def xbf : List SOper := [
 ⟨some 25, .mov (.t 5), none⟩,
 ⟨some 26, .iaddr 1 (.t 25) (.k (.d (.int .i64 0))), none⟩,
 ⟨some 27, .load none (.t 26), none⟩,
 ⟨some 28, .bin .lss (.t 27) (.k (.d (.int .u8 128))), none⟩]
def qzq : List SOper := [
 ⟨some 29, .mov (.t 0), none⟩,
 ⟨some 30, .mov (.t 5), none⟩,
 ⟨some 31, .iaddr 1 (.t 30) (.k (.d (.int .i64 0))), none⟩,
 ⟨some 32, .load none (.t 31), none⟩,
 ⟨some 33, .bin .eql (.t 32) (.k (.d (.int .u8 0))), none⟩,
 ⟨some 34, .mov (.t 33), none⟩,
 ⟨some 35, .mov (.t 4), some (34, true)⟩,
 ⟨some 36, .bin .gtr (.t 35) (.k (.d (.int .i64 0))), some (34, true)⟩,
 ⟨some 37, .pick (.t 34) (.t 36) (.k (.d (.bool false))), none⟩,
 ⟨some 38, .mov (.t 37), none⟩,
 ⟨some 39, .mov (.t 4), some (38, false)⟩,
 ⟨some 40, .bin .eql (.t 39) (.k (.d (.int .i64 9))), some (38, false)⟩,
 ⟨some 41, .mov (.t 40), some (38, false)⟩,
 ⟨some 42, .mov (.t 5), some (41, true)⟩,
 ⟨some 43, .iaddr 1 (.t 42) (.k (.d (.int .i64 0))), some (41, true)⟩,
 ⟨some 44, .load none (.t 43), some (41, true)⟩,
 ⟨some 45, .bin .gtr (.t 44) (.k (.d (.int .u8 1))), some (41, true)⟩,
 ⟨some 46, .pick (.t 41) (.t 45) (.k (.d (.bool false))), some (38, false)⟩,
 ⟨some 47, .pick (.t 38) (.k (.d (.bool true))) (.t 46), none⟩,
 ⟨some 48, .nilCheck (.t 29), none⟩,
 ⟨some 49, .faddr 2 (.t 48), none⟩,
 ⟨none, .store none (.t 49) (.t 47), none⟩]
def qzr : List SOper := [
 ⟨some 50, .mov (.t 3), none⟩,
 ⟨some 51, .bin .shr (.t 50) (.k (.d (.int .u64 1))), none⟩,
 ⟨some 52, .conv .i64 (.t 51), none⟩,
 ⟨some 53, .mov (.t 3), none⟩,
 ⟨some 54, .bin .and (.t 53) (.k (.d (.int .u64 1))), none⟩,
 ⟨some 55, .conv .i64 (.t 54), none⟩,
 ⟨some 56, .neg (.t 55), none⟩,
 ⟨some 57, .bin .xor (.t 52) (.t 56), none⟩,
 ⟨some 2, .mov (.t 57), none⟩]
def qzs : List SOper := [
 ⟨some 58, .bin .add (.t 6) (.k (.d (.int .i64 1))), none⟩,
 ⟨some 6, .mov (.t 58), none⟩]
def qss : SCode := (.seq (.region xa9 0 []) (.seq (.cond (.t 7) .skip (.exit 0)) (.seq (.block 1 (.seq (.region xba 0 []) (.seq (.region xbb 0 []) (.seq (.seq (.region xbc 0 []) (.cond (.t 14) (.seq (.region xbd 0 []) .ret) .skip)) (.seq (.region xbe 0 []) (.seq (.region xbf 0 []) (.cond (.t 28) (.seq (.region qzq 0 []) (.seq (.region qzr 0 []) .ret)) .skip))))))) (.region qzs 0 []))))
theorem xiv : qf qss.eq_1 := qg qss.eq_1
def qzt : List SOper := [
 ⟨some 59, .mov (.t 0), none⟩,
 ⟨some 60, .nilCheck (.t 59), none⟩,
 ⟨some 61, .faddr 2 (.t 60), none⟩,
 ⟨none, .store none (.t 61) (.k (.d (.bool true))), none⟩]
def qzu : List SOper := [
 ⟨some 2, .mov (.k (.d (.int .i64 0))), none⟩]
def s105 : SCode := (.seq (.region xa6 0 []) (.seq (.region xa7 0 []) (.seq (.seq (.region xa8 0 []) (.block 0 (.loop qss))) (.seq (.region qzt 0 []) (.seq (.region qzu 0 []) .ret)))))
theorem zmb : qf s105.eq_1 := qg s105.eq_1
theorem xw5 : qa xa6.eq_1 := qc
theorem xw6 : qa xa7.eq_1 := qc
theorem xw7 : qa xa8.eq_1 := qc
theorem xw8 : qa xa9.eq_1 := qc
theorem xw9 : qa xba.eq_1 := qc
theorem xxa : qa xbb.eq_1 := qc
theorem xxb : qa xbc.eq_1 := qc
theorem xxc : qa xbd.eq_1 := qc
theorem xxd : qa xbe.eq_1 := qc
theorem xxe : qa xbf.eq_1 := qc
theorem xiw : qa qzq.eq_1 := qc
theorem xix : qa qzr.eq_1 := qc
theorem xiy : qa qzs.eq_1 := qc
theorem xiz : qa qzt.eq_1 := qc
theorem xi0 : qa qzu.eq_1 := qc
attribute [go_sem] xw5 xw6 xw7 xw8 xw9 xxa xxb xxc xxd xxe xiw xix xiy xiv xiz xi0 zmb
theorem xxf : FnIs Tryz.prog 105 Tryz.f105 [] news s105 [.tmp 2] 62 := xo follows Tryz.func105
end
theorem qp3 {r : Rd} (h : (jk 1 r).2.failed = false) : ∃ c, (jk 1 r).1 = [c] := by
 unfold jk at h ⊢
 split at h
 ·cases h
 ·rename_i hn
  rw [if_neg hn]
  simp only [Bool.or_eq_true, decide_eq_true_eq, not_or] at hn
  have : r.pos < r.b.length := by omega
  exact ⟨r.b[r.pos], by simp only; rw [List.drop_eq_getElem_cons this]; rfl⟩
theorem qzv (u d i : Nat) (hu : u < 2 ^ i) : u ||| d * 2 ^ i = u + d * 2 ^ i := by
 have := Nat.shiftLeft_add_eq_or_of_lt hu d
 rw [Nat.shiftLeft_eq] at this
 rw [Nat.or_comm, ← this, Nat.add_comm]
theorem qzw (i : Nat) : 128 ^ i = 2 ^ (7 * i) := by rw [Nat.pow_mul]
theorem qp4 (n a b : Nat) (ha : a < 2 ^ n) (hb : b < 2 ^ n) : qq1 n (a : Int) (b : Int) = ((a &&& b : Nat) : Int) := by
 unfold qq1
 rw [BitVec.ofInt_natCast, BitVec.ofInt_natCast, BitVec.toNat_and, BitVec.toNat_ofNat, BitVec.toNat_ofNat, Nat.mod_eq_of_lt ha, Nat.mod_eq_of_lt hb]
theorem q4h {u c i : Nat} (hi : i ≤ 9) (hu : u < 128 ^ i) (hc : c < 256) :
  IntKind.u64.wrap (bvOr 64 (u : Int) (IntKind.u64.wrap (IntKind.u64.wrap (IntKind.u8.wrap (qq1 8 (c : Int) 127)) * 2 ^ min (7 * i) 64))) = (((u + c % 128 * 128 ^ i) % 18446744073709551616 : Nat) : Int) := by
 have e1 : qq1 8 (c : Int) 127 = ((c % 128 : Nat) : Int) := by
  have := qp4 8 c 127 (by omega) (by omega)
  rw [show c &&& 127 = c % 128 from Nat.and_two_pow_sub_one_eq_mod c 7] at this
  exact this
 have e2 : min (7 * i) 64 = 7 * i := by omega
 have hcm : c % 128 < 128 := Nat.mod_lt _ (by decide)
 rw [e1, e2, qjc, show ((c % 128 : Nat) : Int) % 256 = ((c % 128 : Nat) : Int) by omega, f2 _ (by omega)]
 generalize c % 128 = d at hcm
 have e3 : ((d : Nat) : Int) * 2 ^ (7 * i) = ((d * 2 ^ (7 * i) : Nat) : Int) := by simp
 rw [e3]
 have hp : 128 ^ i ≤ 128 ^ 9 := Nat.pow_le_pow_right (by decide) hi
 have hp9 : (128 : Nat) ^ 9 = 9223372036854775808 := by decide
 have e4 : IntKind.u64.wrap ((d * 2 ^ (7 * i) : Nat) : Int) = ((d * 2 ^ (7 * i) % 18446744073709551616 : Nat) : Int) := by rw [qd4]; omega
 rw [e4, qtv _ _ (by omega) (Nat.mod_lt _ (by decide)), qzw]
 rw [qzw] at hu
 rcases Nat.lt_or_ge i 9 with h9 | h9
 ·have hp8 : 128 ^ i ≤ 128 ^ 8 := Nat.pow_le_pow_right (by decide) (by omega)
  have e8 : (128 : Nat) ^ 8 = 72057594037927936 := by decide
  rw [qzw] at hp8
  have hd : d * 2 ^ (7 * i) ≤ 127 * 72057594037927936 := Nat.mul_le_mul (by omega) (by omega)
  rw [Nat.mod_eq_of_lt (by omega), qzv _ _ _ hu, f2 _ (by omega), Nat.mod_eq_of_lt (by omega)]
 ·have : i = 9 := by omega
  subst this
  have e9 : (2 : Nat) ^ (7 * 9) = 9223372036854775808 := by decide
  rw [e9] at hu ⊢
  have h1 : d * 9223372036854775808 % 18446744073709551616 = d % 2 * 2 ^ 63 := by
   have : (2 : Nat) ^ 63 = 9223372036854775808 := by decide
   rw [this]; omega
  rw [h1, qzv u (d % 2) 63 (by
   have : (2 : Nat) ^ 63 = 9223372036854775808 := by decide
   omega)]
  have : (2 : Nat) ^ 63 = 9223372036854775808 := by decide
  rw [this, f2 _ (by omega)]
  congr 1
  omega
theorem q4i {u : Nat} (h : u < 18446744073709551616) :
  IntKind.i64.wrap (qno 64 (IntKind.i64.wrap ((u : Int).fdiv (2 ^ min 1 64))) (IntKind.i64.wrap (0 - IntKind.i64.wrap (IntKind.u64.wrap (qq1 64 (u : Int) 1))))) = unz u := by
 have e1 : (u : Int).fdiv (2 ^ min 1 64) = ((u / 2 : Nat) : Int) := by
  show (u : Int).fdiv 2 = _
  rw [Int.fdiv_eq_ediv_of_nonneg _ (by decide)]; omega
 have e2 : qq1 64 (u : Int) 1 = ((u % 2 : Nat) : Int) := by
  have := qp4 64 u 1 (by omega) (by omega)
  rw [show u &&& 1 = u % 2 from Nat.and_two_pow_sub_one_eq_mod u 1] at this
  exact this
 rw [e1, e2, f2 _ (by omega), ze (n := ((u / 2 : Nat) : Int)) (by unfold I64; omega), ze (n := ((u % 2 : Nat) : Int)) (by unfold I64; omega), ze (n := 0 - ((u % 2 : Nat) : Int)) (by unfold I64; omega)]
 unfold qno unz
 rcases Nat.mod_two_eq_zero_or_one u with hp | hp
 ·rw [hp, if_pos rfl]
  have : BitVec.ofInt 64 (0 - ((0 : Nat) : Int)) = 0#64 := by decide
  rw [this, BitVec.xor_zero, BitVec.ofInt_natCast, BitVec.toNat_ofNat, Nat.mod_eq_of_lt (by omega), ze (by unfold I64; omega)]
 ·rw [hp, if_neg (by decide)]
  have e3 : BitVec.ofInt 64 (0 - ((1 : Nat) : Int)) = BitVec.ofInt 64 18446744073709551615 := by decide
  rw [e3, qdr _ (by omega)]
  simp only [IntKind.wrap, IntKind.bits, IntKind.signed]
  simp
  omega
def q4j (i u : Nat) (r : Rd) : St := ⟨[(0, true, .d (.ptr 0 0)), (3, true, .d (.int .u64 (u : Nat))), (6, true, .d (.int .i64 (i : Nat)))], [rdO r], [], 1⟩
set_option maxRecDepth 10000 in
theorem qnf (r : Rd) (hr : r.Ok) : ql Tryz.prog 105 [.d (.ptr 0 0)] [rdO r] (.d (.int .i64 (rInt r).1)) [rdO (rInt r).2] := by
 refine xxf.go ?_
 try (refine ev ?_; try exact True.intro)
 refine qv (fun i : { x : Nat × Nat × Rd // x.1 ≤ 10 ∧ x.2.1 < 18446744073709551616 ∧ (x.1 ≤ 9 → x.2.1 < 128 ^ x.1) ∧ x.2.2.Ok ∧ qfb (10 - x.1) x.1 x.2.1 x.2.2 = rInt r } => q4j i.val.1 i.val.2.1 i.val.2.2) (fun i => 10 - i.val.1) ⟨(0, 0, r), by simp, by simp, by simp, hr, rfl⟩ ?_ (fun i => ?_)
 ·try (refine ev3 @q4j.eq_1 @Int.ofNat_zero @rdO.eq_1 ?_; try exact True.intro)
 obtain ⟨⟨i, u, rd⟩, hi, hu, hu2, hrd, hx⟩ := i
 simp only at hi hu hu2 hrd hx
 try (refine ev2 @q4j.eq_1 @rdO.eq_1 ?_; try exact True.intro)
 (repeat (with_reducible refine ob ?_)); refine ju _ (fun h => ?_) (fun h => ?_)
 ·have hil : i < 10 := by simp at h; omega
  have hn := qne rd 1 hrd (by decide)
  obtain ⟨hn1, hn2⟩ := qcz hrd 1
  have hk : 10 - i = (10 - (i + 1)) + 1 := by omega
  rw [hk, qfb] at hx
  try (refine ev ?_; try exact True.intro)
  simp only [rdO] at hn
  (repeat (with_reducible refine ob ?_)); refine clO [0] x78 (hn) ?_
  try (refine ev ?_; try exact True.intro)
  cases hf : (jk 1 rd).2.failed with
  | true =>
   rw [if_pos hf] at hx
   (repeat (with_reducible refine ob ?_)); refine qcr ?_
   try (refine ev2 hx.symm @hf ?_; try exact True.intro)
  | false =>
   rw [if_neg (by rw [hf]; simp)] at hx
   obtain ⟨c, hc⟩ := qp3 hf
   rw [hc] at hx ⊢
   simp only [List.headD_cons] at hx
   (repeat (with_reducible refine ob ?_)); refine no_ ?_
   have hcb : qe [c] = [[.int .u8 (c.toNat : Nat)]] := rfl
   have hlt := qct c
   have hi9 : i ≤ 9 := by omega
   have hu' : (u + c.toNat % 128 * 128 ^ i) % 18446744073709551616 < 18446744073709551616 := Nat.mod_lt _ (by decide)
   have hu2' : i ≤ 8 → (u + c.toNat % 128 * 128 ^ i) % 18446744073709551616 < 128 ^ (i + 1) := fun h8 => by
    have h1 := hu2 (by omega)
    have h2 : c.toNat % 128 < 128 := Nat.mod_lt _ (by decide)
    have h3 : c.toNat % 128 * 128 ^ i ≤ 127 * 128 ^ i := Nat.mul_le_mul_right _ (by omega)
    have h4 := Nat.mod_le (u + c.toNat % 128 * 128 ^ i) 18446744073709551616
    rw [Nat.pow_succ]
    omega
   have a1 : IntKind.i64.wrap (7 * (i : Int)) = ((7 * i : Nat) : Int) := by rw [ze (by unfold I64; omega)]; omega
   try (refine ev3 @hcb @a1 (q4h hi9 (hu2 hi9) hlt) ?_; try exact True.intro)
   refine ⟨by omega, ?_⟩
   generalize (u + c.toNat % 128 * 128 ^ i) % 18446744073709551616 = u' at hx hu' hu2'
   refine ju _ (fun hc => ?_) (fun hc => ?_)
   ·have h128 : c.toNat < 128 := by simp at hc; omega
    simp only [h128, if_true] at hx
    try (refine ev ?_; try exact True.intro)
    have hb : (((c.toNat : Nat) : Int) == 0 && decide ((i : Int) > 0) || ((i : Int) == 9) && decide (((c.toNat : Nat) : Int) > 1)) = (c.toNat == 0 && decide (0 < i) || decide (i = 9) && decide (c.toNat > 1)) := by
     have b1 : (((c.toNat : Nat) : Int) == 0) = (c.toNat == 0) := by rw [Bool.eq_iff_iff]; simp
     have b2 : decide ((i : Int) > 0) = decide (0 < i) := decide_eq_decide.2 (by omega)
     have b3 : ((i : Int) == 9) = decide (i = 9) := by rw [Bool.eq_iff_iff]; simp; omega
     have b4 : decide (((c.toNat : Nat) : Int) > 1) = decide (c.toNat > 1) := decide_eq_decide.2 (by omega)
     rw [b1, b2, b3, b4]
    rw [q4i hu', hb, ← hx]
    exact ⟨fun h => ⟨h, fun h2 => by rw [h, h2]; rfl⟩, fun h => by rw [h]; rfl, rfl, (by simp only [go_sem]), rfl, rfl⟩
   ·have h128 : ¬ c.toNat < 128 := by simp at hc; omega
    simp only [h128, if_false] at hx
    try (refine ev ?_; try exact True.intro)
    refine ⟨⟨(i + 1, u', (jk 1 rd).2), hil, hu', fun h => hu2' (by omega), hn1, hx⟩, ?_, by dsimp only; omega⟩
    try (refine ev4 @q4j.eq_1 @rdO.eq_1 @hf (qr (show i < 9223372036854775807 by omega)) ?_; try exact True.intro)
 ·have hil : i = 10 := by simp at h; omega
  subst hil
  have : rInt r = (0, { rd with failed := true }) := hx.symm
  try (refine ev2 @this @rdO.eq_1 ?_; try exact True.intro)
end Go.Proofs.YtinnaedmdoengaaGreat
namespace Go.Proofs.YtinnaedmdoengaaGreat
open Go.Abs
set_option linter.unusedSimpArgs false
set_option linter.unusedVariables false
attribute [go_sem] exists_eq' List.getD_nil
theorem qp5 : ∀ (k i u : Nat) {r : Rd}, r.Ok → (qfb k i u r).2.Ok ∧ (qfb k i u r).2.b = r.b
 | 0, i, u, r, h => ⟨⟨h.len, h.pos⟩, rfl⟩
 | k + 1, i, u, r, h => by
  have hn := qcz h 1
  rw [qfb]
  split
  ·exact hn
  ·split
   ·exact ⟨⟨hn.1.len, hn.1.pos⟩, hn.2⟩
   ·have := qp5 k (i + 1) ((u + ((jk 1 r).1.headD 0).toNat % 128 * 128 ^ i) % 18446744073709551616) hn.1
    exact ⟨this.1, this.2.trans hn.2⟩
theorem qa2 {r : Rd} (h : r.Ok) : (rInt r).2.Ok ∧ (rInt r).2.b = r.b := qp5 10 0 0 h
def Rd.fail (r : Rd) (f : Bool) : Rd := ⟨r.b, r.pos, f⟩
theorem Rd.Ok.fail {r : Rd} (h : r.Ok) (f : Bool) : (r.fail f).Ok := ⟨h.len, h.pos⟩
def qy (lo hi : Int) (r : Rd) : Int × Rd := ((rInt r).1, (rInt r).2.fail ((rInt r).2.failed || decide ((rInt r).1 < lo) || decide ((rInt r).1 > hi)))
def jr (most : Int) (r : Rd) : List UInt8 × Rd := if (qy 0 most r).2.failed then ([], (qy 0 most r).2) else jk (qy 0 most r).1.toNat (qy 0 most r).2
def qak {α : Type} (z : α) (f : Rd → α × Rd) (r : Rd) : α × Rd := if r.failed then (z, r) else if (f r).2.failed then (z, ⟨(f r).2.b, r.pos, (f r).2.failed⟩) else f r
theorem zx {r : Rd} (h : r.Ok) (lo hi : Int) : (qy lo hi r).2.Ok ∧ (qy lo hi r).2.b = r.b := ⟨(qa2 h).1.fail _, (qa2 h).2⟩
theorem w7 {r : Rd} {lo hi : Int} (h : (qy lo hi r).2.failed = false) : lo ≤ (qy lo hi r).1 ∧ (qy lo hi r).1 ≤ hi := by
 simp only [qy, Rd.fail, Bool.or_eq_false_iff, decide_eq_false_iff_not] at h ⊢
 omega
theorem qd8 {r : Rd} (h : r.Ok) (most : Int) : (jr most r).2.Ok ∧ (jr most r).2.b = r.b := by
 have h1 := zx h 0 most
 unfold jr
 split
 ·exact h1
 ·have h2 := qcz h1.1 (qy 0 most r).1.toNat
  exact ⟨h2.1, h2.2.trans h1.2⟩
theorem qbm {α : Type} {z : α} {f : Rd → α × Rd} {r : Rd} (h : r.Ok) (hf : (f r).2.Ok ∧ (f r).2.b = r.b) : (qak z f r).2.Ok ∧ (qak z f r).2.b = r.b := by
 unfold qak
 split
 ·exact ⟨h, rfl⟩
 ·split
  ·exact ⟨⟨hf.1.len, by simp only [hf.2]; exact h.pos⟩, hf.2⟩
  ·exact hf
noncomputable section
set_option maxRecDepth 100000
def xbg : List SOper := [
 ⟨some 6, .mov (.k (.d (.int .i64 0))), none⟩]
def xbh : List SOper := [
 ⟨some 8, .mov (.t 0), none⟩,
 ⟨some 9, .call (.k (.d (.func (.func 105) [] []))) [(.t 8)], none⟩,
 ⟨some 7, .mov (.t 9), none⟩]
def xbi : List SOper := [
 ⟨some 10, .mov (.t 0), none⟩,
 ⟨some 11, .mov (.t 0), none⟩,
 ⟨some 12, .nilCheck (.t 11), none⟩,
 ⟨some 13, .faddr 2 (.t 12), none⟩,
 ⟨some 14, .load none (.t 13), none⟩,
 ⟨some 15, .mov (.t 14), none⟩,
 ⟨some 16, .mov (.t 7), some (15, false)⟩,
 ⟨some 17, .mov (.t 1), some (15, false)⟩,
 ⟨some 18, .bin .lss (.t 16) (.t 17), some (15, false)⟩,
 ⟨some 19, .pick (.t 15) (.k (.d (.bool true))) (.t 18), none⟩,
 ⟨some 20, .mov (.t 19), none⟩,
 ⟨some 21, .mov (.t 7), some (20, false)⟩,
 ⟨some 22, .mov (.t 2), some (20, false)⟩,
 ⟨some 23, .bin .gtr (.t 21) (.t 22), some (20, false)⟩,
 ⟨some 24, .pick (.t 20) (.k (.d (.bool true))) (.t 23), none⟩,
 ⟨some 25, .nilCheck (.t 10), none⟩,
 ⟨some 26, .faddr 2 (.t 25), none⟩,
 ⟨none, .store none (.t 26) (.t 24), none⟩]
def xbj : List SOper := [
 ⟨some 27, .mov (.t 7), none⟩,
 ⟨some 6, .mov (.t 27), none⟩]
def s169 : SCode := (.seq (.region xbg 0 []) (.seq (.region xbh 0 []) (.seq (.region xbi 0 []) (.seq (.region xbj 0 []) .ret))))
theorem zmc : qf s169.eq_1 := qg s169.eq_1
theorem xxg : qa xbg.eq_1 := qc
theorem xxh : qa xbh.eq_1 := qc
theorem xxi : qa xbi.eq_1 := qc
theorem xxj : qa xbj.eq_1 := qc
attribute [go_sem] xxg xxh xxi xxj zmc
theorem xkg : FnIs Tryz.prog 169 Tryz.f169 [] news s169 [.tmp 6] 28 := xo follows Tryz.func169
def xbk : List SOper := [
 ⟨some 4, .mov (.k (.d .nilsl)), none⟩]
def xbl : List SOper := [
 ⟨some 6, .mov (.t 0), none⟩,
 ⟨some 7, .mov (.t 1), none⟩,
 ⟨some 8, .call (.k (.d (.func (.func 169) [] []))) [(.t 6), (.k (.d (.int .i64 0))), (.t 7)], none⟩,
 ⟨some 5, .mov (.t 8), none⟩]
def xbm : List SOper := [
 ⟨some 9, .mov (.t 0), none⟩,
 ⟨some 10, .nilCheck (.t 9), none⟩,
 ⟨some 11, .faddr 2 (.t 10), none⟩,
 ⟨some 12, .load none (.t 11), none⟩]
def xbn : List SOper := [
 ⟨some 4, .mov (.k (.d .nilsl)), none⟩]
def xbo : List SOper := [
 ⟨some 13, .mov (.t 0), none⟩,
 ⟨some 14, .mov (.t 5), none⟩,
 ⟨some 15, .call (.k (.d (.func (.func 152) [] []))) [(.t 13), (.t 14)], none⟩,
 ⟨some 4, .mov (.t 15), none⟩]
def s174 : SCode := (.seq (.region xbk 0 []) (.seq (.region xbl 0 []) (.seq (.seq (.region xbm 0 []) (.cond (.t 12) (.seq (.region xbn 0 []) .ret) .skip)) (.seq (.region xbo 0 []) .ret))))
theorem zmd : qf s174.eq_1 := qg s174.eq_1
theorem xxk : qa xbk.eq_1 := qc
theorem xxl : qa xbl.eq_1 := qc
theorem xxm : qa xbm.eq_1 := qc
theorem xxn : qa xbn.eq_1 := qc
theorem xxo : qa xbo.eq_1 := qc
attribute [go_sem] xxk xxl xxm xxn xxo zmd
theorem zfe : FnIs Tryz.prog 174 Tryz.f174 [] news s174 [.tmp 4] 16 := xo follows Tryz.func174
def xbp : List SOper := [
 ⟨some 2, .mov (.k (.d (.bool false))), none⟩]
def xbq : List SOper := [
 ⟨some 4, .mov (.t 0), none⟩,
 ⟨some 5, .call (.k (.d (.func (.func 152) [] []))) [(.t 4), (.k (.d (.int .i64 1)))], none⟩,
 ⟨some 3, .mov (.t 5), none⟩]
def xbr : List SOper := [
 ⟨some 6, .mov (.t 0), none⟩,
 ⟨some 7, .mov (.t 0), none⟩,
 ⟨some 8, .nilCheck (.t 7), none⟩,
 ⟨some 9, .faddr 2 (.t 8), none⟩,
 ⟨some 10, .load none (.t 9), none⟩,
 ⟨some 11, .mov (.t 10), none⟩,
 ⟨some 12, .mov (.t 3), some (11, false)⟩,
 ⟨some 13, .iaddr 1 (.t 12) (.k (.d (.int .i64 0))), some (11, false)⟩,
 ⟨some 14, .load none (.t 13), some (11, false)⟩,
 ⟨some 15, .bin .gtr (.t 14) (.k (.d (.int .u8 1))), some (11, false)⟩,
 ⟨some 16, .pick (.t 11) (.k (.d (.bool true))) (.t 15), none⟩,
 ⟨some 17, .nilCheck (.t 6), none⟩,
 ⟨some 18, .faddr 2 (.t 17), none⟩,
 ⟨none, .store none (.t 18) (.t 16), none⟩]
def xbs : List SOper := [
 ⟨some 19, .mov (.t 0), none⟩,
 ⟨some 20, .nilCheck (.t 19), none⟩,
 ⟨some 21, .faddr 2 (.t 20), none⟩,
 ⟨some 22, .load none (.t 21), none⟩,
 ⟨some 23, .not (.t 22), none⟩,
 ⟨some 24, .mov (.t 23), none⟩,
 ⟨some 25, .mov (.t 3), some (24, true)⟩,
 ⟨some 26, .iaddr 1 (.t 25) (.k (.d (.int .i64 0))), some (24, true)⟩,
 ⟨some 27, .load none (.t 26), some (24, true)⟩,
 ⟨some 28, .bin .eql (.t 27) (.k (.d (.int .u8 1))), some (24, true)⟩,
 ⟨some 29, .pick (.t 24) (.t 28) (.k (.d (.bool false))), none⟩,
 ⟨some 2, .mov (.t 29), none⟩]
def s171 : SCode := (.seq (.region xbp 0 []) (.seq (.region xbq 0 []) (.seq (.region xbr 0 []) (.seq (.region xbs 0 []) .ret))))
theorem zme : qf s171.eq_1 := qg s171.eq_1
theorem xxp : qa xbp.eq_1 := qc
theorem xxq : qa xbq.eq_1 := qc
theorem xxr : qa xbr.eq_1 := qc
theorem xxs : qa xbs.eq_1 := qc
attribute [go_sem] xxp xxq xxr xxs zme
def xbt : List SOper := [
 ⟨some 3, .mov (.k (.d (.int .i64 0))), none⟩]
def xbu : List SOper := [
 ⟨some 4, .load none (.t 0), none⟩,
 ⟨some 5, .load none (.t 1), none⟩,
 ⟨some 6, .load none (.t 2), none⟩,
 ⟨some 7, .call (.k (.d (.func (.func 169) [] []))) [(.t 4), (.t 5), (.t 6)], none⟩,
 ⟨some 3, .mov (.t 7), none⟩]
def s168 : SCode := (.seq (.region xbt 0 []) (.seq (.region xbu 0 []) .ret))
theorem zmf : qf s168.eq_1 := qg s168.eq_1
theorem xxt : qa xbt.eq_1 := qc
theorem xxu : qa xbu.eq_1 := qc
attribute [go_sem] xxt xxu zmf
def xbv : List SOper := [
 ⟨some 2, .mov (.k (.d .nilsl)), none⟩]
def xbw : List SOper := [
 ⟨some 3, .load none (.t 0), none⟩,
 ⟨some 4, .load none (.t 1), none⟩,
 ⟨some 5, .call (.k (.d (.func (.func 174) [] []))) [(.t 3), (.t 4)], none⟩,
 ⟨some 6, .append false 1 1 (.k (.d .nilsl)) (.t 5), none⟩,
 ⟨some 2, .mov (.t 6), none⟩]
def s173 : SCode := (.seq (.region xbv 0 []) (.seq (.region xbw 0 []) .ret))
theorem zmg : qf s173.eq_1 := qg s173.eq_1
theorem xxv : qa xbv.eq_1 := qc
theorem xxw : qa xbw.eq_1 := qc
attribute [go_sem] xxv xxw zmg
def xbx : List SOper := [
 ⟨some 4, .mov (.k (.d (.int .i64 0))), none⟩]
def xby : List SOper := [
 ⟨some 5, .mov (.k (.d (.int .i64 0))), none⟩]
def xbz : List SOper := [
 ⟨some 8, .mov (.t 0), none⟩,
 ⟨some 9, .eqnil false .ptr (.t 8), none⟩,
 ⟨some 10, .mov (.t 9), none⟩,
 ⟨some 11, .mov (.t 0), some (10, false)⟩,
 ⟨some 12, .nilCheck (.t 11), some (10, false)⟩,
 ⟨some 13, .faddr 2 (.t 12), some (10, false)⟩,
 ⟨some 14, .load none (.t 13), some (10, false)⟩,
 ⟨some 15, .pick (.t 10) (.k (.d (.bool true))) (.t 14), none⟩]
def xb0 : List SOper := [
 ⟨some 16, .mov (.t 5), none⟩,
 ⟨some 4, .mov (.t 16), none⟩]
def xb1 : List SOper := [
 ⟨some 17, .mov (.t 0), none⟩,
 ⟨some 18, .nilCheck (.t 17), none⟩,
 ⟨some 19, .faddr 1 (.t 18), none⟩,
 ⟨some 20, .load none (.t 19), none⟩,
 ⟨some 6, .mov (.t 20), none⟩]
def xb2 : List SOper := [
 ⟨some 21, .mov (.t 1), none⟩,
 ⟨some 22, .call (.t 21) [], none⟩,
 ⟨some 7, .mov (.t 22), none⟩]
def xb3 : List SOper := [
 ⟨some 23, .mov (.t 0), none⟩,
 ⟨some 24, .nilCheck (.t 23), none⟩,
 ⟨some 25, .faddr 2 (.t 24), none⟩,
 ⟨some 26, .load none (.t 25), none⟩]
def xb4 : List SOper := [
 ⟨some 27, .mov (.t 0), none⟩,
 ⟨some 28, .mov (.t 6), none⟩,
 ⟨some 29, .nilCheck (.t 27), none⟩,
 ⟨some 30, .faddr 1 (.t 29), none⟩,
 ⟨none, .store none (.t 30) (.t 28), none⟩]
def xb5 : List SOper := [
 ⟨some 31, .mov (.t 5), none⟩,
 ⟨some 4, .mov (.t 31), none⟩]
def xb6 : List SOper := [
 ⟨some 32, .mov (.t 7), none⟩,
 ⟨some 4, .mov (.t 32), none⟩]
def s104 : SCode := (.seq (.region xbx 0 []) (.seq (.region xby 0 []) (.seq (.seq (.region xbz 0 []) (.cond (.t 15) (.seq (.region xb0 0 []) .ret) .skip)) (.seq (.region xb1 0 []) (.seq (.region xb2 0 []) (.seq (.seq (.region xb3 0 []) (.cond (.t 26) (.seq (.region xb4 0 []) (.seq (.region xb5 0 []) .ret)) .skip)) (.seq (.region xb6 0 []) .ret)))))))
theorem zmh : qf s104.eq_1 := qg s104.eq_1
theorem xxx : qa xbx.eq_1 := qc
theorem xxy : qa xby.eq_1 := qc
theorem xxz : qa xbz.eq_1 := qc
theorem xx0 : qa xb0.eq_1 := qc
theorem xx1 : qa xb1.eq_1 := qc
theorem xx2 : qa xb2.eq_1 := qc
theorem xx3 : qa xb3.eq_1 := qc
theorem xx4 : qa xb4.eq_1 := qc
theorem xx5 : qa xb5.eq_1 := qc
theorem xx6 : qa xb6.eq_1 := qc
attribute [go_sem] xxx xxy xxz xx0 xx1 xx2 xx3 xx4 xx5 xx6 zmh
theorem x79 : FnIs Tryz.prog 104 Tryz.f104 [] news s104 [.tmp 4] 33 := xo follows Tryz.func104
def xb7 : List SOper := [
 ⟨some 4, .mov (.k (.d (.bool false))), none⟩]
def xb8 : List SOper := [
 ⟨some 5, .mov (.k (.d (.bool false))), none⟩]
def xb9 : List SOper := [
 ⟨some 8, .mov (.t 0), none⟩,
 ⟨some 9, .eqnil false .ptr (.t 8), none⟩,
 ⟨some 10, .mov (.t 9), none⟩,
 ⟨some 11, .mov (.t 0), some (10, false)⟩,
 ⟨some 12, .nilCheck (.t 11), some (10, false)⟩,
 ⟨some 13, .faddr 2 (.t 12), some (10, false)⟩,
 ⟨some 14, .load none (.t 13), some (10, false)⟩,
 ⟨some 15, .pick (.t 10) (.k (.d (.bool true))) (.t 14), none⟩]
def xca : List SOper := [
 ⟨some 16, .mov (.t 5), none⟩,
 ⟨some 4, .mov (.t 16), none⟩]
def xcb : List SOper := [
 ⟨some 17, .mov (.t 0), none⟩,
 ⟨some 18, .nilCheck (.t 17), none⟩,
 ⟨some 19, .faddr 1 (.t 18), none⟩,
 ⟨some 20, .load none (.t 19), none⟩,
 ⟨some 6, .mov (.t 20), none⟩]
def xcc : List SOper := [
 ⟨some 21, .mov (.t 1), none⟩,
 ⟨some 22, .call (.t 21) [], none⟩,
 ⟨some 7, .mov (.t 22), none⟩]
def xcd : List SOper := [
 ⟨some 23, .mov (.t 0), none⟩,
 ⟨some 24, .nilCheck (.t 23), none⟩,
 ⟨some 25, .faddr 2 (.t 24), none⟩,
 ⟨some 26, .load none (.t 25), none⟩]
def xce : List SOper := [
 ⟨some 27, .mov (.t 0), none⟩,
 ⟨some 28, .mov (.t 6), none⟩,
 ⟨some 29, .nilCheck (.t 27), none⟩,
 ⟨some 30, .faddr 1 (.t 29), none⟩,
 ⟨none, .store none (.t 30) (.t 28), none⟩]
def xcf : List SOper := [
 ⟨some 31, .mov (.t 5), none⟩,
 ⟨some 4, .mov (.t 31), none⟩]
def xcg : List SOper := [
 ⟨some 32, .mov (.t 7), none⟩,
 ⟨some 4, .mov (.t 32), none⟩]
def s170 : SCode := (.seq (.region xb7 0 []) (.seq (.region xb8 0 []) (.seq (.seq (.region xb9 0 []) (.cond (.t 15) (.seq (.region xca 0 []) .ret) .skip)) (.seq (.region xcb 0 []) (.seq (.region xcc 0 []) (.seq (.seq (.region xcd 0 []) (.cond (.t 26) (.seq (.region xce 0 []) (.seq (.region xcf 0 []) .ret)) .skip)) (.seq (.region xcg 0 []) .ret)))))))
theorem zmi : qf s170.eq_1 := qg s170.eq_1
theorem xx7 : qa xb7.eq_1 := qc
theorem xx8 : qa xb8.eq_1 := qc
theorem xx9 : qa xb9.eq_1 := qc
theorem xya : qa xca.eq_1 := qc
theorem xyb : qa xcb.eq_1 := qc
theorem xyc : qa xcc.eq_1 := qc
theorem xyd : qa xcd.eq_1 := qc
theorem xye : qa xce.eq_1 := qc
theorem xyf : qa xcf.eq_1 := qc
theorem xyg : qa xcg.eq_1 := qc
attribute [go_sem] xx7 xx8 xx9 xya xyb xyc xyd xye xyf xyg zmi
def xch : List SOper := [
 ⟨some 4, .mov (.k (.d .nilsl)), none⟩]
def xci : List SOper := [
 ⟨some 5, .mov (.k (.d .nilsl)), none⟩]
def xcj : List SOper := [
 ⟨some 8, .mov (.t 0), none⟩,
 ⟨some 9, .eqnil false .ptr (.t 8), none⟩,
 ⟨some 10, .mov (.t 9), none⟩,
 ⟨some 11, .mov (.t 0), some (10, false)⟩,
 ⟨some 12, .nilCheck (.t 11), some (10, false)⟩,
 ⟨some 13, .faddr 2 (.t 12), some (10, false)⟩,
 ⟨some 14, .load none (.t 13), some (10, false)⟩,
 ⟨some 15, .pick (.t 10) (.k (.d (.bool true))) (.t 14), none⟩]
def xck : List SOper := [
 ⟨some 16, .mov (.t 5), none⟩,
 ⟨some 4, .mov (.t 16), none⟩]
def xcl : List SOper := [
 ⟨some 17, .mov (.t 0), none⟩,
 ⟨some 18, .nilCheck (.t 17), none⟩,
 ⟨some 19, .faddr 1 (.t 18), none⟩,
 ⟨some 20, .load none (.t 19), none⟩,
 ⟨some 6, .mov (.t 20), none⟩]
def xcm : List SOper := [
 ⟨some 21, .mov (.t 1), none⟩,
 ⟨some 22, .call (.t 21) [], none⟩,
 ⟨some 7, .mov (.t 22), none⟩]
def xcn : List SOper := [
 ⟨some 23, .mov (.t 0), none⟩,
 ⟨some 24, .nilCheck (.t 23), none⟩,
 ⟨some 25, .faddr 2 (.t 24), none⟩,
 ⟨some 26, .load none (.t 25), none⟩]
def xco : List SOper := [
 ⟨some 27, .mov (.t 0), none⟩,
 ⟨some 28, .mov (.t 6), none⟩,
 ⟨some 29, .nilCheck (.t 27), none⟩,
 ⟨some 30, .faddr 1 (.t 29), none⟩,
 ⟨none, .store none (.t 30) (.t 28), none⟩]
def xcp : List SOper := [
 ⟨some 31, .mov (.t 5), none⟩,
 ⟨some 4, .mov (.t 31), none⟩]
def xcq : List SOper := [
 ⟨some 32, .mov (.t 7), none⟩,
 ⟨some 4, .mov (.t 32), none⟩]
def s172 : SCode := (.seq (.region xch 0 []) (.seq (.region xci 0 []) (.seq (.seq (.region xcj 0 []) (.cond (.t 15) (.seq (.region xck 0 []) .ret) .skip)) (.seq (.region xcl 0 []) (.seq (.region xcm 0 []) (.seq (.seq (.region xcn 0 []) (.cond (.t 26) (.seq (.region xco 0 []) (.seq (.region xcp 0 []) .ret)) .skip)) (.seq (.region xcq 0 []) .ret)))))))
theorem zmj : qf s172.eq_1 := qg s172.eq_1
theorem xyh : qa xch.eq_1 := qc
theorem xyi : qa xci.eq_1 := qc
theorem xyj : qa xcj.eq_1 := qc
theorem xyk : qa xck.eq_1 := qc
theorem xyl : qa xcl.eq_1 := qc
theorem xym : qa xcm.eq_1 := qc
theorem xyn : qa xcn.eq_1 := qc
theorem xyo : qa xco.eq_1 := qc
theorem xyp : qa xcp.eq_1 := qc
theorem xyq : qa xcq.eq_1 := qc
attribute [go_sem] xyh xyi xyj xyk xyl xym xyn xyo xyp xyq zmj
def xyr : List SOper := [
 ⟨some 2, .mov (.k (.d (.int .i64 0))), none⟩]
def xys : List SOper := [
 ⟨some 3, .mov (.t 0), none⟩,
 ⟨some 4, .mov (.t 0), none⟩,
 ⟨some 5, .mkFunc (.func 105) [(.t 4)] [], none⟩,
 ⟨some 6, .call (.k (.d (.func (.func 104) [] []))) [(.t 3), (.t 5)], none⟩,
 ⟨some 2, .mov (.t 6), none⟩]
def s55 : SCode := (.seq (.region xyr 0 []) (.seq (.region xys 0 []) .ret))
theorem e55 : qf s55.eq_1 := qg s55.eq_1
theorem zff : qa xyr.eq_1 := qc
theorem zfg : qa xys.eq_1 := qc
attribute [go_sem] zff zfg e55
theorem F55 : FnIs Tryz.prog 55 Tryz.f55 [] news s55 [.tmp 2] 7 := xo follows Tryz.func55
def xcr : List SOper := [
 ⟨some 3, .box 3 (.t 0), none⟩,
 ⟨some 4, .box 2 (.t 1), none⟩,
 ⟨some 5, .box 1 (.t 2), none⟩,
 ⟨some 6, .mov (.k (.d (.int .i64 0))), none⟩]
def xcs : List SOper := [
 ⟨some 7, .load none (.t 3), none⟩,
 ⟨some 8, .mkFunc (.func 168) [] [(.t 3), (.t 4), (.t 5)], none⟩,
 ⟨some 9, .call (.k (.d (.func (.func 104) [] []))) [(.t 7), (.t 8)], none⟩,
 ⟨some 6, .mov (.t 9), none⟩]
def s112 : SCode := (.seq (.region xcr 3 []) (.seq (.region xcs 0 []) .ret))
theorem zmk : qf s112.eq_1 := qg s112.eq_1
theorem xyt : qa xcr.eq_1 := qc
theorem xyu : qa xcs.eq_1 := qc
attribute [go_sem] xyt xyu zmk
def xct : List SOper := [
 ⟨some 2, .mov (.k (.d (.bool false))), none⟩]
def xcu : List SOper := [
 ⟨some 3, .mov (.t 0), none⟩,
 ⟨some 4, .mov (.t 0), none⟩,
 ⟨some 5, .mkFunc (.func 171) [(.t 4)] [], none⟩,
 ⟨some 6, .call (.k (.d (.func (.func 170) [] []))) [(.t 3), (.t 5)], none⟩,
 ⟨some 2, .mov (.t 6), none⟩]
def s114 : SCode := (.seq (.region xct 0 []) (.seq (.region xcu 0 []) .ret))
theorem zml : qf s114.eq_1 := qg s114.eq_1
theorem xyv : qa xct.eq_1 := qc
theorem xyw : qa xcu.eq_1 := qc
attribute [go_sem] xyv xyw zml
def xcv : List SOper := [
 ⟨some 2, .box 2 (.t 0), none⟩,
 ⟨some 3, .box 1 (.t 1), none⟩,
 ⟨some 4, .mov (.k (.d .nilsl)), none⟩]
def xcw : List SOper := [
 ⟨some 5, .load none (.t 2), none⟩,
 ⟨some 6, .mkFunc (.func 173) [] [(.t 2), (.t 3)], none⟩,
 ⟨some 7, .call (.k (.d (.func (.func 172) [] []))) [(.t 5), (.t 6)], none⟩,
 ⟨some 4, .mov (.t 7), none⟩]
def s115 : SCode := (.seq (.region xcv 2 []) (.seq (.region xcw 0 []) .ret))
theorem zmm : qf s115.eq_1 := qg s115.eq_1
theorem xyx : qa xcv.eq_1 := qc
theorem xyy : qa xcw.eq_1 := qc
attribute [go_sem] xyx xyy zmm
def xcx : List SOper := [
 ⟨some 4, .mov (.k (.d (.str []))), none⟩]
def xcy : List SOper := [
 ⟨some 5, .mov (.t 0), none⟩,
 ⟨some 6, .mov (.t 1), none⟩,
 ⟨some 7, .call (.k (.d (.func (.func 115) [] []))) [(.t 5), (.t 6)], none⟩,
 ⟨some 8, .b2s (.t 7), none⟩,
 ⟨some 4, .mov (.t 8), none⟩]
def s113 : SCode := (.seq (.region xcx 0 []) (.seq (.region xcy 0 []) .ret))
theorem zmn : qf s113.eq_1 := qg s113.eq_1
theorem xyz : qa xcx.eq_1 := qc
theorem xy0 : qa xcy.eq_1 := qc
attribute [go_sem] xyz xy0 zmn
end
theorem qal (r : Rd) (lo hi : Int) (hr : r.Ok) : ql Tryz.prog 169 [.d (.ptr 0 0), .d (.int .i64 lo), .d (.int .i64 hi)] [rdO r] (.d (.int .i64 (qy lo hi r).1)) [rdO (qy lo hi r).2] := by
 have hc := qnf r hr
 simp only [rdO] at hc
 refine xkg.go ?_
 try (refine ev3 @rdO.eq_1 @qy.eq_1 @Rd.fail.eq_1 ?_; try exact True.intro)
 generalize rInt r = x at hc ⊢
 obtain ⟨n, b, p, f⟩ := x
 (repeat (with_reducible refine ob ?_)); refine clO [0] xxf (hc) ?_
 try (refine ev ?_; try exact True.intro)
 cases f <;> simp
theorem qlq (r : Rd) (most : Nat) (hr : r.Ok) (hm : most ≤ 1000000000) : ql Tryz.prog 174 [.d (.ptr 0 0), .d (.int .i64 most)] [rdO r] (.d (.sl 1 (qe (jr most r).1))) [rdO (jr most r).2] := by
 have hc := qal r 0 most hr
 have hin := w7 (r := r) (lo := 0) (hi := most)
 have hinv := (zx hr 0 most).1
 refine zfe.go ?_
 try (refine ev1 @jr.eq_1 ?_; try exact True.intro)
 generalize qy 0 most r = x at hc hin hinv ⊢
 obtain ⟨n, r1⟩ := x
 simp only [rdO] at hc
 try (refine ev1 @rdO.eq_1 ?_; try exact True.intro)
 (repeat (with_reducible refine ob ?_)); refine clO [0] xkg (hc) ?_
 try (refine ev ?_; try exact True.intro)
 cases hf : r1.failed
 ·obtain ⟨h1, h2⟩ := hin hf
  simp only at h1 h2
  have hn := qne r1 n.toNat hinv (by omega)
  rw [Int.toNat_of_nonneg h1] at hn
  simp only [rdO, hf] at hn
  (repeat (with_reducible refine ob ?_)); refine no_ ?_
  try (refine ev ?_; try exact True.intro)
  (repeat (with_reducible refine ob ?_)); refine clO [0] x78 (hn) ?_
  try (refine ev ?_; try exact True.intro)
 ·(repeat (with_reducible refine ob ?_)); refine qcr ?_
  try (refine ev2 @hf @xa ?_; try exact True.intro)
def qao := qak (0 : Int) rInt
theorem qv7 (r : Rd) (hr : r.Ok) : ql Tryz.prog 104 [.d (.ptr 0 0), .d (.func (.func 105) [.ptr 0 0] [])] [rdO r] (.d (.int .i64 (qao r).1)) [rdO (qao r).2] := by
 have hc := qnf r hr
 unfold qao
 unfold qak
 obtain ⟨b, p, f⟩ := r
 simp only [rdO] at hc
 refine x79.go ?_
 try (refine ev1 @rdO.eq_1 ?_; try exact True.intro)
 cases f
 ·try (refine ev ?_; try exact True.intro)
  (repeat (with_reducible refine ob ?_)); refine no_ ?_
  try (refine ev ?_; try exact True.intro)
  (repeat (with_reducible refine ob ?_)); refine clO [0] xxf (hc) ?_
  try (refine ev ?_; try exact True.intro)
  cases hf : (rInt ⟨b, p, false⟩).2.failed
  ·try (refine ev ?_; try exact True.intro)
   (repeat (with_reducible refine ob ?_)); refine no_ ?_
   try simp only [hf, if_false, go_sem, Nat.reduceAdd, Nat.reduceMul, Nat.reduceSub, Nat.reduceEqDiff, Nat.reduceLT, Nat.reduceLeDiff, Nat.reduceBEq, reduceIte, reduceCtorEq, Int.reduceAdd, Int.reduceLT, Int.reduceLE, Int.reduceGT, Int.reduceGE, Int.reduceEq, Int.reduceNe, Int.reduceBEq, Int.reduceBNe, Int.reduceToNat, Int.reduceNeg]
  ·try (refine ev ?_; try exact True.intro)
   (repeat (with_reducible refine ob ?_)); refine qcr ?_
   try (refine ev1 @hf ?_; try exact True.intro)
 ·try (refine ev ?_; try exact True.intro)
  (repeat (with_reducible refine ob ?_)); refine qcr ?_
  try (refine ev ?_; try exact True.intro)
theorem qng (r : Rd) (hr : r.Ok) : ql Tryz.prog 55 [.d (.ptr 0 0)] [rdO r] (.d (.int .i64 (qao r).1)) [rdO (qao r).2] := by
 have hc := qv7 r hr
 simp only [rdO] at hc
 refine F55.go ?_
 try (refine ev1 @rdO.eq_1 ?_; try exact True.intro)
 (repeat (with_reducible refine ob ?_)); refine clO [0] x79 (hc) ?_
 try (refine ev ?_; try exact True.intro)
end Go.Proofs.YtinnaedmdoengaaGreat
namespace Go.Proofs.YtinnaedmdoengaaGreat
open Go.Abs
set_option linter.unusedSimpArgs false
set_option linter.unusedVariables false
theorem qp8 {r : Rd} (h : r.Ok) : (qao r).2.Ok ∧ (qao r).2.b = r.b := qbm h (qa2 h)
noncomputable section
set_option maxRecDepth 100000
def xy1 : List SOper := [
 ⟨some 2, .mov (.k (.d .nilsl)), none⟩,
 ⟨some 3, .mov (.k (.d (.int .i64 0))), none⟩]
def xy2 : List SOper := [
 ⟨some 10, .mov (.t 0), none⟩,
 ⟨some 11, .call (.k (.d (.func (.func 54) [] []))) [(.t 10)], none⟩,
 ⟨some 4, .mov (.t 11), none⟩]
def xy3 : List SOper := [
 ⟨some 12, .mov (.t 4), none⟩,
 ⟨some 13, .call (.k (.d (.func (.func 112) [] []))) [(.t 12), (.k (.d (.int .i64 1))), (.k (.d (.int .i64 20)))], none⟩,
 ⟨some 5, .mov (.t 13), none⟩]
def xy4 : List SOper := [
 ⟨some 6, .mov (.k (.d .nilsl)), none⟩]
def xy5 : List SOper := [
 ⟨some 14, .mov (.t 5), none⟩,
 ⟨some 15, .mov (.k (.d (.int .i64 0))), none⟩]
def xy6 : List SOper := [
 ⟨some 16, .bin .lss (.t 15) (.t 14), none⟩]
def xy7 : List SOper := [
 ⟨some 17, .mov (.t 4), none⟩,
 ⟨some 18, .call (.k (.d (.func (.func 113) [] []))) [(.t 17), (.k (.d (.int .i64 40)))], none⟩,
 ⟨some 19, .build [(.str []), (.bool false), .nilsl] [(0, 1, (.t 18))], none⟩,
 ⟨some 7, .alloc 1 [(.d (.str [])), (.d (.bool false)), (.d .nilsl)], none⟩,
 ⟨none, .store (some 3) (.t 7) (.t 19), none⟩]
def xy8 : List SOper := [
 ⟨some 20, .mov (.t 4), none⟩,
 ⟨some 21, .call (.k (.d (.func (.func 114) [] []))) [(.t 20)], none⟩,
 ⟨some 22, .faddr 1 (.t 7), none⟩,
 ⟨none, .store none (.t 22) (.t 21), none⟩]
def xy9 : List SOper := [
 ⟨some 23, .mov (.t 4), none⟩,
 ⟨some 24, .call (.k (.d (.func (.func 115) [] []))) [(.t 23), (.k (.d (.int .i64 900)))], none⟩,
 ⟨some 25, .faddr 2 (.t 7), none⟩,
 ⟨none, .store none (.t 25) (.t 24), none⟩]
def xza : List SOper := [
 ⟨some 26, .mov (.t 6), none⟩,
 ⟨some 27, .load (some 3) (.t 7), none⟩,
 ⟨some 28, .buildSlice false 3 1 [(.str []), (.bool false), .nilsl] [(0, 3, (.t 27))], none⟩,
 ⟨some 29, .append false 3 48 (.t 26) (.t 28), none⟩,
 ⟨some 6, .mov (.t 29), none⟩]
def xc1 : List SOper := [
 ⟨some 30, .bin .add (.t 15) (.k (.d (.int .i64 1))), none⟩,
 ⟨some 15, .mov (.t 30), none⟩]
def qz2 : SCode := (.seq (.region xy6 0 []) (.seq (.cond (.t 16) .skip (.exit 0)) (.seq (.block 1 (.seq (.region xy7 1 []) (.seq (.region xy8 0 []) (.seq (.region xy9 0 []) (.region xza 0 []))))) (.region xc1 0 []))))
theorem xzb : qf qz2.eq_1 := qg qz2.eq_1
def xc2 : List SOper := [
 ⟨some 31, .mov (.t 4), none⟩,
 ⟨some 32, .call (.k (.d (.func (.func 109) [] []))) [(.t 31)], none⟩,
 ⟨some 33, .bin .neq (.t 32) (.k (.d (.int .i64 0))), none⟩]
def xc3 : List SOper := [
 ⟨some 2, .mov (.k (.d .nilsl)), none⟩,
 ⟨some 3, .mov (.k (.d (.int .i64 4))), none⟩]
def xc4 : List SOper := [
 ⟨some 35, .mov (.t 6), none⟩,
 ⟨some 36, .call (.k (.d (.func (.func 50) [] []))) [(.t 35)], none⟩,
 ⟨some 34, .mov (.t 36), none⟩,
 ⟨some 37, .extract 0 (.t 34), none⟩,
 ⟨some 38, .extract 1 (.t 34), none⟩,
 ⟨some 8, .mov (.t 37), none⟩,
 ⟨some 9, .mov (.t 38), none⟩]
def xc5 : List SOper := [
 ⟨some 39, .mov (.t 9), none⟩,
 ⟨some 40, .bin .neq (.t 39) (.k (.d (.int .i64 0))), none⟩]
def xc6 : List SOper := [
 ⟨some 2, .mov (.k (.d .nilsl)), none⟩,
 ⟨some 3, .mov (.k (.d (.int .i64 4))), none⟩]
def xc7 : List SOper := [
 ⟨some 41, .mov (.t 6), none⟩,
 ⟨some 2, .mov (.t 41), none⟩,
 ⟨some 3, .mov (.k (.d (.int .i64 0))), none⟩]
def s59 : SCode := (.seq (.region xy1 0 []) (.seq (.region xy2 1 []) (.seq (.region xy3 0 []) (.seq (.region xy4 0 []) (.seq (.seq (.region xy5 0 []) (.block 0 (.loop qz2))) (.seq (.seq (.region xc2 0 []) (.cond (.t 33) (.seq (.region xc3 0 []) .ret) .skip)) (.seq (.seq (.region xc4 0 []) (.seq (.region xc5 0 []) (.cond (.t 40) (.seq (.region xc6 0 []) .ret) .skip))) (.seq (.region xc7 0 []) .ret))))))))
theorem e59 : qf s59.eq_1 := qg s59.eq_1
theorem zfi : qa xy1.eq_1 := qc
theorem zfj : qa xy2.eq_1 := qc
theorem zfk : qa xy3.eq_1 := qc
theorem zfl : qa xy4.eq_1 := qc
theorem zfm : qa xy5.eq_1 := qc
theorem zfn : qa xy6.eq_1 := qc
theorem zfo : qa xy7.eq_1 := qc
theorem zfp : qa xy8.eq_1 := qc
theorem zfq : qa xy9.eq_1 := qc
theorem zfr : qa xza.eq_1 := qc
theorem xzc : qa xc1.eq_1 := qc
theorem xzd : qa xc2.eq_1 := qc
theorem xze : qa xc3.eq_1 := qc
theorem xzf : qa xc4.eq_1 := qc
theorem xzg : qa xc5.eq_1 := qc
theorem xzh : qa xc6.eq_1 := qc
theorem xzi : qa xc7.eq_1 := qc
attribute [go_sem] zfi zfj zfk zfl zfm zfn zfo zfp zfq zfr xzc xzb xzd xze xzf xzg xzh xzi e59
end
end Go.Proofs.YtinnaedmdoengaaGreat
namespace Go.Proofs.YtinnaedmdoengaaGreat
open Go.Abs
set_option linter.unusedSimpArgs false
set_option linter.unusedVariables false
def dG : Nat → Nat → Nat → List UInt8 → Option (Int × List UInt8)
 | 0, _, _, _ => none
 | _ + 1, _, _, [] => none
 | k + 1, j, u, c :: l =>
  if c.toNat < 128 then (if ((c.toNat == 0 && decide (0 < j)) || (decide (j = 9) && decide (c.toNat > 1))) = true then none else some (unz (u + c.toNat * 128 ^ j), l))
  else dG k (j + 1) (u + c.toNat % 128 * 128 ^ j) l
def dInt (l : List UInt8) : Option (Int × List UInt8) := dG 10 0 0 l
def Got {α : Type} (o : Option (α × List UInt8)) (b : List UInt8) (x : α × Rd) : Prop := match o with
 | some (v, l) => x = (v, ⟨b, b.length - l.length, false⟩)
 | none => x.2.failed = true
def qkq {α : Type} (z : α) (f : Rd → α × Rd) (d : List UInt8 → Option (α × List UInt8)) : Prop :=
 ∀ r : Rd, r.Ok → f r = if r.failed = true then (z, r) else match d (r.b.drop r.pos) with
  | some (v, l) => (v, ⟨r.b, r.b.length - l.length, false⟩)
  | none => (z, ⟨r.b, r.pos, true⟩)
def qhl {α : Type} (d : List UInt8 → Option (α × List UInt8)) : Prop := ∀ l0 v l, d l0 = some (v, l) → ∃ p, l0 = p ++ l
theorem kf {b : List UInt8} {p : Nat} {q l : List UInt8} (hp : p ≤ b.length) (h : b.drop p = q ++ l) : b.drop (b.length - l.length) = l ∧ l.length ≤ b.length := by
 have h1 := congrArg List.length h
 simp only [List.length_drop, List.length_append] at h1
 have h2 : b.drop (p + q.length) = l := by rw [← List.drop_drop, h, List.drop_left]
 have e : b.length - l.length = p + q.length := by omega
 rw [e]; exact ⟨h2, by omega⟩
theorem qz3 : ∀ (k j u : Nat) {l0 : List UInt8} {v : Int} {l : List UInt8}, dG k j u l0 = some (v, l) → ∃ p, l0 = p ++ l
 | 0, _, _, _, _, _, h => by simp [dG] at h
 | k + 1, j, u, [], _, _, h => by simp [dG] at h
 | k + 1, j, u, c :: l0, v, l, h => by
  rw [dG] at h
  split at h
  ·split at h
   ·cases h
   ·cases h; exact ⟨[c], rfl⟩
  ·obtain ⟨p, rfl⟩ := qz3 k (j + 1) _ h
   exact ⟨c :: p, rfl⟩
theorem qp9 : qhl dInt := fun _ _ _ h => qz3 10 0 0 h
theorem qls {r : Rd} (hr : r.Ok) (hf : r.failed = false) {c : UInt8} {l : List UInt8} (h : r.b.drop r.pos = c :: l) : jk 1 r = ([c], ⟨r.b, r.pos + 1, false⟩) ∧ r.b.drop (r.pos + 1) = l := by
 have hl := congrArg List.length h
 simp only [List.length_drop, List.length_cons] at hl
 have h2 : r.b.drop (r.pos + 1) = l := by rw [← List.drop_drop, h]; rfl
 refine ⟨?_, h2⟩
 unfold jk
 rw [if_neg (by simp [hf]; omega), h, hf]; rfl
theorem qqa {r : Rd} (hf : r.failed = false) (h : r.b.drop r.pos = []) : jk 1 r = ([], ⟨r.b, r.pos, true⟩) := by
 have hl := congrArg List.length h
 simp only [List.length_drop, List.length_nil] at hl
 unfold jk
 rw [if_pos (by simp [hf]; omega)]
theorem qc1 {j : Nat} (h : j ≤ 8) : 128 ^ (j + 1) ≤ 9223372036854775808 := by
 have h1 : 128 ^ (j + 1) ≤ 128 ^ 9 := Nat.pow_le_pow_right (by decide) (by omega)
 have h2 : (128 : Nat) ^ 9 = 9223372036854775808 := by decide
 omega
theorem qz4 : ∀ (k j u : Nat) {r : Rd}, j + k = 10 → u < 128 ^ j → r.Ok → r.failed = false →
  Got (dG k j u (r.b.drop r.pos)) r.b (qfb k j u r)
 | 0, j, u, r, _, _, _, _ => by simp only [Got, dG, qfb]
 | k + 1, j, u, r, hj, hu, hr, hf => by
  cases hd : r.b.drop r.pos with
  | nil =>
   simp only [dG]
   rw [qfb, qqa hf hd, if_pos rfl]
   exact (rfl : true = true)
  | cons c l =>
   obtain ⟨h1, h2⟩ := qls hr hf hd
   have hlt := qct c
   have hlen := congrArg List.length hd
   simp only [List.length_drop, List.length_cons] at hlen
   rw [qfb, h1, dG]
   simp only [Bool.false_eq_true, if_false, List.headD_cons]
   by_cases hc : c.toNat < 128
   ·simp only [hc, if_true]
    by_cases hb : ((c.toNat == 0 && decide (0 < j)) || (decide (j = 9) && decide (c.toNat > 1))) = true
    ·rw [if_pos hb]
     exact hb
    ·rw [if_neg hb]
     simp only [Bool.not_eq_true] at hb
     have hm : c.toNat % 128 = c.toNat := Nat.mod_eq_of_lt hc
     have hs : u + c.toNat * 128 ^ j < 18446744073709551616 := by
      rcases Nat.lt_or_ge j 9 with h9 | h9
      ·have hp := qc1 (j := j) (by omega)
       rw [Nat.pow_succ] at hp
       have : c.toNat * 128 ^ j ≤ 127 * 128 ^ j := Nat.mul_le_mul_right _ (by omega)
       omega
      ·have : j = 9 := by omega
       subst this
       simp at hb
       have e : (128 : Nat) ^ 9 = 9223372036854775808 := by decide
       rw [e] at hu ⊢
       omega
     rw [hm, Nat.mod_eq_of_lt hs]
     simp only [Got, Prod.mk.injEq, Rd.mk.injEq]
     exact ⟨trivial, trivial, by omega, hb⟩
   ·simp only [hc, if_false]
    cases k with
    | zero => simp only [Got, dG, qfb]
    | succ k =>
     have hp := qc1 (j := j) (by omega)
     have hu2 : u + c.toNat % 128 * 128 ^ j < 128 ^ (j + 1) := by
      have h3 : c.toNat % 128 * 128 ^ j ≤ 127 * 128 ^ j := Nat.mul_le_mul_right _ (by omega)
      rw [Nat.pow_succ]
      omega
     rw [Nat.mod_eq_of_lt (show u + c.toNat % 128 * 128 ^ j < 18446744073709551616 by omega)]
     have ih := qz4 (k + 1) (j + 1) (u + c.toNat % 128 * 128 ^ j) (r := ⟨r.b, r.pos + 1, false⟩) (by omega) hu2 ⟨hr.len, by have := hr.pos; simp only; omega⟩ rfl
     rw [show (⟨r.b, r.pos + 1, false⟩ : Rd).b.drop (⟨r.b, r.pos + 1, false⟩ : Rd).pos = l from h2] at ih
     exact ih
theorem qtz {r : Rd} (hr : r.Ok) (hf : r.failed = false) : Got (dInt (r.b.drop r.pos)) r.b (rInt r) := qz4 10 0 0 rfl (by decide) hr hf
theorem y8 {α : Type} {z : α} {f : Rd → α × Rd} {d : List UInt8 → Option (α × List UInt8)} (hi : ∀ r : Rd, r.Ok → (f r).2.b = r.b)
  (h : ∀ r : Rd, r.Ok → r.failed = false → Got (d (r.b.drop r.pos)) r.b (f r)) : qkq z (qak z f) d := by
 intro r hr
 unfold qak
 by_cases hf : r.failed = true
 ·rw [if_pos hf, if_pos hf]
 ·rw [if_neg hf, if_neg hf]
  have := h r hr (by simpa using hf)
  cases hd : d (r.b.drop r.pos) with
  | none =>
   rw [hd] at this
   simp only [Got] at this
   rw [if_pos this, hi r hr, this]
  | some x =>
   obtain ⟨v, l⟩ := x
   rw [hd] at this
   simp only [Got] at this
   rw [this, if_neg (by simp)]
theorem qjq : qkq 0 qao dInt := y8 (fun r hr => (qa2 hr).2) (fun r hr hf => qtz hr hf)
def xm (lo hi : Int) (l0 : List UInt8) : Option (Int × List UInt8) := match dInt l0 with
 | some (n, l) => if n < lo ∨ n > hi then none else some (n, l)
 | none => none
theorem ka (lo hi : Int) : qhl (xm lo hi) := by
 intro l0 v l h
 unfold xm at h
 split at h
 ·rename_i hd
  split at h
  ·cases h
  ·cases h; exact qp9 _ _ _ hd
 ·cases h
theorem qde (lo hi : Int) {r : Rd} (hr : r.Ok) (hf : r.failed = false) : Got (xm lo hi (r.b.drop r.pos)) r.b (qy lo hi r) := by
 have h := qtz hr hf
 unfold xm
 cases hd : dInt (r.b.drop r.pos) with
 | none =>
  rw [hd] at h
  simp only [Got] at h ⊢
  simp only [qy, Rd.fail, h, Bool.true_or]
 | some x =>
  obtain ⟨n, l⟩ := x
  rw [hd] at h
  simp only [Got] at h ⊢
  by_cases hn : n < lo ∨ n > hi
  ·rw [if_pos hn]
   simp only [qy, Rd.fail, h, Bool.false_or]
   simpa using hn
  ·rw [if_neg hn]
   simp only [qy, Rd.fail, h, Bool.false_or]
   have : (decide (n < lo) || decide (n > hi)) = false := by simpa using hn
   rw [this]
def wq (most : Int) (l0 : List UInt8) : Option (List UInt8 × List UInt8) := match xm 0 most l0 with
 | some (n, l) => if l.length < n.toNat then none else some (l.take n.toNat, l.drop n.toNat)
 | none => none
theorem qqb (most : Int) {r : Rd} (hr : r.Ok) (hf : r.failed = false) : Got (wq most (r.b.drop r.pos)) r.b (jr most r) := by
 have h := qde 0 most hr hf
 unfold wq
 cases hd : xm 0 most (r.b.drop r.pos) with
 | none =>
  rw [hd] at h
  simp only [Got] at h ⊢
  unfold jr
  rw [if_pos h]; exact h
 | some x =>
  obtain ⟨n, l⟩ := x
  rw [hd] at h
  simp only [Got] at h ⊢
  obtain ⟨p, hp⟩ := ka _ _ _ _ _ hd
  obtain ⟨t1, t2⟩ := kf hr.pos hp
  have e : r.b.length - (r.b.length - l.length) = l.length := by omega
  by_cases hn : l.length < n.toNat
  ·rw [if_pos hn]
   simp only [jr, h, Bool.false_eq_true, if_false, jk, Bool.false_or]
   rw [e, if_pos (by simpa using hn)]
  ·rw [if_neg hn]
   simp only [jr, h, Bool.false_eq_true, if_false, jk, Bool.false_or]
   rw [e, if_neg (by simpa using hn), t1]
   have : r.b.length - l.length + n.toNat = r.b.length - (l.drop n.toNat).length := by rw [List.length_drop]; omega
   rw [this]
end Go.Proofs.YtinnaedmdoengaaGreat
namespace Go.Proofs.YtinnaedmdoengaaGreat
open Go.Abs
set_option linter.unusedSimpArgs false
set_option linter.unusedVariables false
noncomputable section
set_option maxRecDepth 100000
def xzj : List SOper := [
 ⟨some 2, .mov (.k (.d (.int .i64 0))), none⟩]
def xzk : List SOper := [
 ⟨some 3, .mov (.k (.d (.int .u64 0))), none⟩,
 ⟨some 4, .mov (.k (.d (.int .u64 1))), none⟩]
def xzl : List SOper := [
 ⟨some 7, .mov (.t 0), none⟩,
 ⟨some 8, .nilCheck (.t 7), none⟩,
 ⟨some 9, .faddr 1 (.t 8), none⟩,
 ⟨some 10, .load none (.t 9), none⟩,
 ⟨some 5, .mov (.t 10), none⟩]
def xzm : List SOper := [
 ⟨some 11, .mov (.t 5), none⟩,
 ⟨some 12, .mov (.t 0), none⟩,
 ⟨some 13, .nilCheck (.t 12), none⟩,
 ⟨some 14, .faddr 0 (.t 13), none⟩,
 ⟨some 15, .load none (.t 14), none⟩,
 ⟨some 16, .len (.t 15), none⟩,
 ⟨some 17, .bin .lss (.t 11) (.t 16), none⟩,
 ⟨some 18, .mov (.t 17), none⟩,
 ⟨some 19, .mov (.t 5), some (18, true)⟩,
 ⟨some 20, .mov (.t 0), some (18, true)⟩,
 ⟨some 21, .nilCheck (.t 20), some (18, true)⟩,
 ⟨some 22, .faddr 1 (.t 21), some (18, true)⟩,
 ⟨some 23, .load none (.t 22), some (18, true)⟩,
 ⟨some 24, .bin .add (.t 23) (.k (.d (.int .i64 10))), some (18, true)⟩,
 ⟨some 25, .bin .lss (.t 19) (.t 24), some (18, true)⟩,
 ⟨some 26, .pick (.t 18) (.t 25) (.k (.d (.bool false))), none⟩,
 ⟨some 27, .mov (.t 26), none⟩,
 ⟨some 28, .mov (.t 0), some (27, true)⟩,
 ⟨some 29, .nilCheck (.t 28), some (27, true)⟩,
 ⟨some 30, .faddr 2 (.t 29), some (27, true)⟩,
 ⟨some 31, .load none (.t 30), some (27, true)⟩,
 ⟨some 32, .not (.t 31), some (27, true)⟩,
 ⟨some 33, .pick (.t 27) (.t 32) (.k (.d (.bool false))), none⟩]
def xzn : List SOper := [
 ⟨some 36, .mov (.t 0), none⟩,
 ⟨some 37, .nilCheck (.t 36), none⟩,
 ⟨some 38, .faddr 0 (.t 37), none⟩,
 ⟨some 39, .load none (.t 38), none⟩,
 ⟨some 40, .mov (.t 5), none⟩,
 ⟨some 41, .iaddr 1 (.t 39) (.t 40), none⟩,
 ⟨some 42, .load none (.t 41), none⟩,
 ⟨some 43, .bin .rem (.t 42) (.k (.d (.int .u8 128))), none⟩,
 ⟨some 44, .conv .u64 (.t 43), none⟩,
 ⟨some 6, .mov (.t 44), none⟩]
def xzo : List SOper := [
 ⟨some 45, .mov (.t 5), none⟩,
 ⟨some 46, .mov (.t 0), none⟩,
 ⟨some 47, .nilCheck (.t 46), none⟩,
 ⟨some 48, .faddr 1 (.t 47), none⟩,
 ⟨some 49, .load none (.t 48), none⟩,
 ⟨some 50, .bin .add (.t 49) (.k (.d (.int .i64 9))), none⟩,
 ⟨some 51, .bin .eql (.t 45) (.t 50), none⟩,
 ⟨some 52, .mov (.t 51), none⟩,
 ⟨some 53, .mov (.t 6), some (52, true)⟩,
 ⟨some 54, .bin .gtr (.t 53) (.k (.d (.int .u64 1))), some (52, true)⟩,
 ⟨some 55, .pick (.t 52) (.t 54) (.k (.d (.bool false))), none⟩]
def xzp : List SOper := [
 ⟨some 56, .mov (.t 3), none⟩,
 ⟨some 57, .mov (.t 6), none⟩,
 ⟨some 58, .mov (.t 4), none⟩,
 ⟨some 59, .bin .mul (.t 57) (.t 58), none⟩,
 ⟨some 60, .bin .add (.t 56) (.t 59), none⟩,
 ⟨some 3, .mov (.t 60), none⟩]
def xzq : List SOper := [
 ⟨some 61, .mov (.t 4), none⟩,
 ⟨some 62, .bin .mul (.t 61) (.k (.d (.int .u64 128))), none⟩,
 ⟨some 4, .mov (.t 62), none⟩]
def xzr : List SOper := [
 ⟨some 63, .mov (.t 0), none⟩,
 ⟨some 64, .nilCheck (.t 63), none⟩,
 ⟨some 65, .faddr 0 (.t 64), none⟩,
 ⟨some 66, .load none (.t 65), none⟩,
 ⟨some 67, .mov (.t 5), none⟩,
 ⟨some 68, .iaddr 1 (.t 66) (.t 67), none⟩,
 ⟨some 69, .load none (.t 68), none⟩,
 ⟨some 70, .bin .geq (.t 69) (.k (.d (.int .u8 128))), none⟩]
def xzs : List SOper := [
 ⟨some 71, .mov (.t 6), none⟩,
 ⟨some 72, .bin .eql (.t 71) (.k (.d (.int .u64 0))), none⟩,
 ⟨some 73, .mov (.t 72), none⟩,
 ⟨some 74, .mov (.t 5), some (73, true)⟩,
 ⟨some 75, .mov (.t 0), some (73, true)⟩,
 ⟨some 76, .nilCheck (.t 75), some (73, true)⟩,
 ⟨some 77, .faddr 1 (.t 76), some (73, true)⟩,
 ⟨some 78, .load none (.t 77), some (73, true)⟩,
 ⟨some 79, .bin .gtr (.t 74) (.t 78), some (73, true)⟩,
 ⟨some 80, .pick (.t 73) (.t 79) (.k (.d (.bool false))), none⟩]
def xc8 : List SOper := [
 ⟨some 81, .mov (.t 0), none⟩,
 ⟨some 82, .mov (.t 5), none⟩,
 ⟨some 83, .bin .add (.t 82) (.k (.d (.int .i64 1))), none⟩,
 ⟨some 84, .nilCheck (.t 81), none⟩,
 ⟨some 85, .faddr 1 (.t 84), none⟩,
 ⟨none, .store none (.t 85) (.t 83), none⟩]
def xc9 : List SOper := [
 ⟨some 86, .mov (.t 3), none⟩,
 ⟨some 87, .bin .rem (.t 86) (.k (.d (.int .u64 2))), none⟩,
 ⟨some 88, .bin .eql (.t 87) (.k (.d (.int .u64 1))), none⟩]
def xda : List SOper := [
 ⟨some 89, .mov (.t 3), none⟩,
 ⟨some 90, .bin .quo (.t 89) (.k (.d (.int .u64 2))), none⟩,
 ⟨some 91, .conv .i64 (.t 90), none⟩,
 ⟨some 92, .neg (.t 91), none⟩,
 ⟨some 93, .bin .sub (.t 92) (.k (.d (.int .i64 1))), none⟩,
 ⟨some 2, .mov (.t 93), none⟩]
def xdb : List SOper := [
 ⟨some 94, .mov (.t 3), none⟩,
 ⟨some 95, .bin .quo (.t 94) (.k (.d (.int .u64 2))), none⟩,
 ⟨some 96, .conv .i64 (.t 95), none⟩,
 ⟨some 2, .mov (.t 96), none⟩]
def xdc : List SOper := [
 ⟨some 34, .mov (.t 5), none⟩,
 ⟨some 35, .bin .add (.t 34) (.k (.d (.int .i64 1))), none⟩,
 ⟨some 5, .mov (.t 35), none⟩]
def qz5 : SCode := (.seq (.seq (.region xzm 0 []) (.cond (.t 33) .skip (.exit 0))) (.seq (.block 1 (.seq (.region xzn 0 []) (.seq (.seq (.region xzo 0 []) (.cond (.t 55) (.exit 0) .skip)) (.seq (.region xzp 0 []) (.seq (.region xzq 0 []) (.seq (.seq (.region xzr 0 []) (.cond (.t 70) (.exit 1) .skip)) (.seq (.seq (.region xzs 0 []) (.cond (.t 80) (.exit 0) .skip)) (.seq (.region xc8 0 []) (.seq (.seq (.region xc9 0 []) (.cond (.t 88) (.seq (.region xda 0 []) .ret) .skip)) (.seq (.region xdb 0 []) .ret)))))))))) (.region xdc 0 [])))
theorem xzt : qf qz5.eq_1 := qg qz5.eq_1
def xdd : List SOper := [
 ⟨some 97, .mov (.t 0), none⟩,
 ⟨some 98, .nilCheck (.t 97), none⟩,
 ⟨some 99, .faddr 2 (.t 98), none⟩,
 ⟨none, .store none (.t 99) (.k (.d (.bool true))), none⟩]
def xde : List SOper := [
 ⟨some 2, .mov (.k (.d (.int .i64 0))), none⟩]
def s79 : SCode := (.seq (.region xzj 0 []) (.seq (.region xzk 0 []) (.seq (.seq (.region xzl 0 []) (.block 0 (.loop qz5))) (.seq (.region xdd 0 []) (.seq (.region xde 0 []) .ret)))))
theorem e79 : qf s79.eq_1 := qg s79.eq_1
theorem zfs : qa xzj.eq_1 := qc
theorem zft : qa xzk.eq_1 := qc
theorem zfu : qa xzl.eq_1 := qc
theorem zfv : qa xzm.eq_1 := qc
theorem zfw : qa xzn.eq_1 := qc
theorem zfx : qa xzo.eq_1 := qc
theorem zfy : qa xzp.eq_1 := qc
theorem zfz : qa xzq.eq_1 := qc
theorem zf0 : qa xzr.eq_1 := qc
theorem zf1 : qa xzs.eq_1 := qc
theorem xzu : qa xc8.eq_1 := qc
theorem xzv : qa xc9.eq_1 := qc
theorem xzw : qa xda.eq_1 := qc
theorem xzx : qa xdb.eq_1 := qc
theorem xzy : qa xdc.eq_1 := qc
theorem xzz : qa xdd.eq_1 := qc
theorem xz0 : qa xde.eq_1 := qc
attribute [go_sem] zfs zft zfu zfv zfw zfx zfy zfz zf0 zf1 xzu xzv xzw xzx xzy xzt xzz xz0 e79
end
end Go.Proofs.YtinnaedmdoengaaGreat
namespace Go.Proofs.YtinnaedmdoengaaGreat
open Go.Abs
set_option linter.unusedSimpArgs false
set_option linter.unusedVariables false
noncomputable section
set_option maxRecDepth 100000
def xdf : List SOper := [
 ⟨some 4, .mov (.t 0), none⟩,
 ⟨some 5, .mov (.t 0), none⟩,
 ⟨some 6, .mov (.t 1), none⟩,
 ⟨some 7, .nilCheck (.t 4), none⟩,
 ⟨some 8, .faddr 1 (.t 7), none⟩,
 ⟨none, .store none (.t 8) (.t 6), none⟩,
 ⟨some 9, .nilCheck (.t 5), none⟩,
 ⟨some 10, .faddr 2 (.t 9), none⟩,
 ⟨none, .store none (.t 10) (.k (.d (.bool true))), none⟩]
def s178 : SCode := (.region xdf 0 [])
theorem zmo : qf s178.eq_1 := qg s178.eq_1
theorem xz1 : qa xdf.eq_1 := qc
attribute [go_sem] xz1 zmo
def xdg : List SOper := [
 ⟨some 6, .mov (.k (.d (.int .i64 0))), none⟩]
def xdh : List SOper := [
 ⟨some 9, .mov (.t 0), none⟩,
 ⟨some 10, .nilCheck (.t 9), none⟩,
 ⟨some 11, .faddr 1 (.t 10), none⟩,
 ⟨some 12, .load none (.t 11), none⟩,
 ⟨some 7, .mov (.t 12), none⟩]
def xdi : List SOper := [
 ⟨some 13, .mov (.t 0), none⟩,
 ⟨some 14, .call (.k (.d (.func (.func 79) [] []))) [(.t 13)], none⟩,
 ⟨some 8, .mov (.t 14), none⟩]
def xdj : List SOper := [
 ⟨some 15, .mov (.t 0), none⟩,
 ⟨some 16, .nilCheck (.t 15), none⟩,
 ⟨some 17, .faddr 2 (.t 16), none⟩,
 ⟨some 18, .load none (.t 17), none⟩]
def xdk : List SOper := [
 ⟨some 6, .mov (.k (.d (.int .i64 0))), none⟩]
def xdl : List SOper := [
 ⟨some 19, .mov (.t 8), none⟩,
 ⟨some 20, .mov (.t 1), none⟩,
 ⟨some 21, .bin .lss (.t 19) (.t 20), none⟩,
 ⟨some 22, .mov (.t 21), none⟩,
 ⟨some 23, .mov (.t 8), some (22, false)⟩,
 ⟨some 24, .mov (.t 2), some (22, false)⟩,
 ⟨some 25, .bin .gtr (.t 23) (.t 24), some (22, false)⟩,
 ⟨some 26, .pick (.t 22) (.k (.d (.bool true))) (.t 25), none⟩]
def xdm : List SOper := [
 ⟨some 27, .mov (.t 0), none⟩,
 ⟨some 28, .mov (.t 7), none⟩,
 ⟨some 29, .call (.k (.d (.func (.func 178) [] []))) [(.t 27), (.t 28)], none⟩]
def xdn : List SOper := [
 ⟨some 6, .mov (.k (.d (.int .i64 0))), none⟩]
def xdo : List SOper := [
 ⟨some 30, .mov (.t 8), none⟩,
 ⟨some 6, .mov (.t 30), none⟩]
def s117 : SCode := (.seq (.region xdg 0 []) (.seq (.region xdh 0 []) (.seq (.region xdi 0 []) (.seq (.seq (.region xdj 0 []) (.cond (.t 18) (.seq (.region xdk 0 []) .ret) .skip)) (.seq (.seq (.region xdl 0 []) (.cond (.t 26) (.seq (.region xdm 0 []) (.seq (.region xdn 0 []) .ret)) .skip)) (.seq (.region xdo 0 []) .ret))))))
theorem zmp : qf s117.eq_1 := qg s117.eq_1
theorem xz3 : qa xdg.eq_1 := qc
theorem xz4 : qa xdh.eq_1 := qc
theorem xz5 : qa xdi.eq_1 := qc
theorem xz6 : qa xdj.eq_1 := qc
theorem xz7 : qa xdk.eq_1 := qc
theorem xz8 : qa xdl.eq_1 := qc
theorem xz9 : qa xdm.eq_1 := qc
theorem x0a : qa xdn.eq_1 := qc
theorem x0b : qa xdo.eq_1 := qc
attribute [go_sem] xz3 xz4 xz5 xz6 xz7 xz8 xz9 x0a x0b zmp
def xdp : List SOper := [
 ⟨some 2, .mov (.k (.d (.bool false))), none⟩]
def xdq : List SOper := [
 ⟨some 3, .mov (.t 0), none⟩,
 ⟨some 4, .nilCheck (.t 3), none⟩,
 ⟨some 5, .faddr 2 (.t 4), none⟩,
 ⟨some 6, .load none (.t 5), none⟩,
 ⟨some 7, .mov (.t 6), none⟩,
 ⟨some 8, .mov (.t 0), some (7, false)⟩,
 ⟨some 9, .nilCheck (.t 8), some (7, false)⟩,
 ⟨some 10, .faddr 1 (.t 9), some (7, false)⟩,
 ⟨some 11, .load none (.t 10), some (7, false)⟩,
 ⟨some 12, .mov (.t 0), some (7, false)⟩,
 ⟨some 13, .nilCheck (.t 12), some (7, false)⟩,
 ⟨some 14, .faddr 0 (.t 13), some (7, false)⟩,
 ⟨some 15, .load none (.t 14), some (7, false)⟩,
 ⟨some 16, .len (.t 15), some (7, false)⟩,
 ⟨some 17, .bin .geq (.t 11) (.t 16), some (7, false)⟩,
 ⟨some 18, .pick (.t 7) (.k (.d (.bool true))) (.t 17), none⟩,
 ⟨some 19, .mov (.t 18), none⟩,
 ⟨some 20, .mov (.t 0), some (19, false)⟩,
 ⟨some 21, .nilCheck (.t 20), some (19, false)⟩,
 ⟨some 22, .faddr 0 (.t 21), some (19, false)⟩,
 ⟨some 23, .load none (.t 22), some (19, false)⟩,
 ⟨some 24, .mov (.t 0), some (19, false)⟩,
 ⟨some 25, .nilCheck (.t 24), some (19, false)⟩,
 ⟨some 26, .faddr 1 (.t 25), some (19, false)⟩,
 ⟨some 27, .load none (.t 26), some (19, false)⟩,
 ⟨some 28, .iaddr 1 (.t 23) (.t 27), some (19, false)⟩,
 ⟨some 29, .load none (.t 28), some (19, false)⟩,
 ⟨some 30, .bin .gtr (.t 29) (.k (.d (.int .u8 1))), some (19, false)⟩,
 ⟨some 31, .pick (.t 19) (.k (.d (.bool true))) (.t 30), none⟩]
def xdr : List SOper := [
 ⟨some 32, .mov (.t 0), none⟩,
 ⟨some 33, .nilCheck (.t 32), none⟩,
 ⟨some 34, .faddr 2 (.t 33), none⟩,
 ⟨none, .store none (.t 34) (.k (.d (.bool true))), none⟩]
def xds : List SOper := [
 ⟨some 2, .mov (.k (.d (.bool false))), none⟩]
def xdt : List SOper := [
 ⟨some 35, .mov (.t 0), none⟩,
 ⟨some 36, .nilCheck (.t 35), none⟩,
 ⟨some 37, .faddr 1 (.t 36), none⟩,
 ⟨some 38, .load none (.t 37), none⟩,
 ⟨some 39, .bin .add (.t 38) (.k (.d (.int .i64 1))), none⟩,
 ⟨some 40, .nilCheck (.t 35), none⟩,
 ⟨some 41, .faddr 1 (.t 40), none⟩,
 ⟨none, .store none (.t 41) (.t 39), none⟩]
def xdu : List SOper := [
 ⟨some 42, .mov (.t 0), none⟩,
 ⟨some 43, .nilCheck (.t 42), none⟩,
 ⟨some 44, .faddr 0 (.t 43), none⟩,
 ⟨some 45, .load none (.t 44), none⟩,
 ⟨some 46, .mov (.t 0), none⟩,
 ⟨some 47, .nilCheck (.t 46), none⟩,
 ⟨some 48, .faddr 1 (.t 47), none⟩,
 ⟨some 49, .load none (.t 48), none⟩,
 ⟨some 50, .bin .sub (.t 49) (.k (.d (.int .i64 1))), none⟩,
 ⟨some 51, .iaddr 1 (.t 45) (.t 50), none⟩,
 ⟨some 52, .load none (.t 51), none⟩,
 ⟨some 53, .bin .eql (.t 52) (.k (.d (.int .u8 1))), none⟩,
 ⟨some 2, .mov (.t 53), none⟩]
def s119 : SCode := (.seq (.region xdp 0 []) (.seq (.seq (.region xdq 0 []) (.cond (.t 31) (.seq (.region xdr 0 []) (.seq (.region xds 0 []) .ret)) .skip)) (.seq (.region xdt 0 []) (.seq (.region xdu 0 []) .ret))))
theorem zmq : qf s119.eq_1 := qg s119.eq_1
theorem x0d : qa xdp.eq_1 := qc
theorem x0e : qa xdq.eq_1 := qc
theorem x0f : qa xdr.eq_1 := qc
theorem x0g : qa xds.eq_1 := qc
theorem x0h : qa xdt.eq_1 := qc
theorem x0i : qa xdu.eq_1 := qc
attribute [go_sem] x0d x0e x0f x0g x0h x0i zmq
def xdv : List SOper := [
 ⟨some 4, .mov (.k (.d .nilsl)), none⟩]
def xdw : List SOper := [
 ⟨some 7, .mov (.t 0), none⟩,
 ⟨some 8, .nilCheck (.t 7), none⟩,
 ⟨some 9, .faddr 1 (.t 8), none⟩,
 ⟨some 10, .load none (.t 9), none⟩,
 ⟨some 5, .mov (.t 10), none⟩]
def xdx : List SOper := [
 ⟨some 11, .mov (.t 0), none⟩,
 ⟨some 12, .mov (.t 1), none⟩,
 ⟨some 13, .call (.k (.d (.func (.func 117) [] []))) [(.t 11), (.k (.d (.int .i64 0))), (.t 12)], none⟩,
 ⟨some 6, .mov (.t 13), none⟩]
def xdy : List SOper := [
 ⟨some 14, .mov (.t 0), none⟩,
 ⟨some 15, .nilCheck (.t 14), none⟩,
 ⟨some 16, .faddr 2 (.t 15), none⟩,
 ⟨some 17, .load none (.t 16), none⟩,
 ⟨some 18, .mov (.t 17), none⟩,
 ⟨some 19, .mov (.t 6), some (18, false)⟩,
 ⟨some 20, .mov (.t 0), some (18, false)⟩,
 ⟨some 21, .nilCheck (.t 20), some (18, false)⟩,
 ⟨some 22, .faddr 0 (.t 21), some (18, false)⟩,
 ⟨some 23, .load none (.t 22), some (18, false)⟩,
 ⟨some 24, .len (.t 23), some (18, false)⟩,
 ⟨some 25, .mov (.t 0), some (18, false)⟩,
 ⟨some 26, .nilCheck (.t 25), some (18, false)⟩,
 ⟨some 27, .faddr 1 (.t 26), some (18, false)⟩,
 ⟨some 28, .load none (.t 27), some (18, false)⟩,
 ⟨some 29, .bin .sub (.t 24) (.t 28), some (18, false)⟩,
 ⟨some 30, .bin .gtr (.t 19) (.t 29), some (18, false)⟩,
 ⟨some 31, .pick (.t 18) (.k (.d (.bool true))) (.t 30), none⟩]
def xdz : List SOper := [
 ⟨some 32, .mov (.t 0), none⟩,
 ⟨some 33, .mov (.t 5), none⟩,
 ⟨some 34, .call (.k (.d (.func (.func 178) [] []))) [(.t 32), (.t 33)], none⟩]
def xd0 : List SOper := [
 ⟨some 4, .mov (.k (.d .nilsl)), none⟩]
def xd1 : List SOper := [
 ⟨some 35, .mov (.t 0), none⟩,
 ⟨some 36, .nilCheck (.t 35), none⟩,
 ⟨some 37, .faddr 1 (.t 36), none⟩,
 ⟨some 38, .load none (.t 37), none⟩,
 ⟨some 39, .mov (.t 6), none⟩,
 ⟨some 40, .bin .add (.t 38) (.t 39), none⟩,
 ⟨some 41, .nilCheck (.t 35), none⟩,
 ⟨some 42, .faddr 1 (.t 41), none⟩,
 ⟨none, .store none (.t 42) (.t 40), none⟩]
def xd2 : List SOper := [
 ⟨some 43, .buildSlice false 1 0 [(.int .u8 0)] [], none⟩,
 ⟨some 44, .mov (.t 0), none⟩,
 ⟨some 45, .nilCheck (.t 44), none⟩,
 ⟨some 46, .faddr 0 (.t 45), none⟩,
 ⟨some 47, .load none (.t 46), none⟩,
 ⟨some 48, .mov (.t 0), none⟩,
 ⟨some 49, .nilCheck (.t 48), none⟩,
 ⟨some 50, .faddr 1 (.t 49), none⟩,
 ⟨some 51, .load none (.t 50), none⟩,
 ⟨some 52, .mov (.t 6), none⟩,
 ⟨some 53, .bin .sub (.t 51) (.t 52), none⟩,
 ⟨some 54, .mov (.t 0), none⟩,
 ⟨some 55, .nilCheck (.t 54), none⟩,
 ⟨some 56, .faddr 1 (.t 55), none⟩,
 ⟨some 57, .load none (.t 56), none⟩,
 ⟨some 58, .slice 1 (.t 47) (some (.t 53)) (some (.t 57)) none, none⟩,
 ⟨some 59, .append false 1 1 (.t 43) (.t 58), none⟩,
 ⟨some 4, .mov (.t 59), none⟩]
def s120 : SCode := (.seq (.region xdv 0 []) (.seq (.region xdw 0 []) (.seq (.region xdx 0 []) (.seq (.seq (.region xdy 0 []) (.cond (.t 31) (.seq (.region xdz 0 []) (.seq (.region xd0 0 []) .ret)) .skip)) (.seq (.region xd1 0 []) (.seq (.region xd2 0 []) .ret))))))
theorem zmr : qf s120.eq_1 := qg s120.eq_1
theorem x0j : qa xdv.eq_1 := qc
theorem x0k : qa xdw.eq_1 := qc
theorem x0l : qa xdx.eq_1 := qc
theorem x0m : qa xdy.eq_1 := qc
theorem x0n : qa xdz.eq_1 := qc
theorem x0o : qa xd0.eq_1 := qc
theorem x0p : qa xd1.eq_1 := qc
theorem x0q : qa xd2.eq_1 := qc
attribute [go_sem] x0j x0k x0l x0m x0n x0o x0p x0q zmr
def xd3 : List SOper := [
 ⟨some 4, .mov (.k (.d (.str []))), none⟩]
def xd4 : List SOper := [
 ⟨some 5, .mov (.t 0), none⟩,
 ⟨some 6, .mov (.t 1), none⟩,
 ⟨some 7, .call (.k (.d (.func (.func 120) [] []))) [(.t 5), (.t 6)], none⟩,
 ⟨some 8, .b2s (.t 7), none⟩,
 ⟨some 4, .mov (.t 8), none⟩]
def s118 : SCode := (.seq (.region xd3 0 []) (.seq (.region xd4 0 []) .ret))
theorem zms : qf s118.eq_1 := qg s118.eq_1
theorem x0r : qa xd3.eq_1 := qc
theorem x0s : qa xd4.eq_1 := qc
attribute [go_sem] x0r x0s zms
def x0t : List SOper := [
 ⟨some 2, .mov (.k (.d (.int .i64 0))), none⟩]
def x0u : List SOper := [
 ⟨some 3, .mov (.t 0), none⟩,
 ⟨some 4, .nilCheck (.t 3), none⟩,
 ⟨some 5, .faddr 2 (.t 4), none⟩,
 ⟨some 6, .load none (.t 5), none⟩,
 ⟨some 7, .mov (.t 6), none⟩,
 ⟨some 8, .mov (.t 0), some (7, false)⟩,
 ⟨some 9, .nilCheck (.t 8), some (7, false)⟩,
 ⟨some 10, .faddr 1 (.t 9), some (7, false)⟩,
 ⟨some 11, .load none (.t 10), some (7, false)⟩,
 ⟨some 12, .mov (.t 0), some (7, false)⟩,
 ⟨some 13, .nilCheck (.t 12), some (7, false)⟩,
 ⟨some 14, .faddr 0 (.t 13), some (7, false)⟩,
 ⟨some 15, .load none (.t 14), some (7, false)⟩,
 ⟨some 16, .len (.t 15), some (7, false)⟩,
 ⟨some 17, .bin .neq (.t 11) (.t 16), some (7, false)⟩,
 ⟨some 18, .pick (.t 7) (.k (.d (.bool true))) (.t 17), none⟩]
def x0v : List SOper := [
 ⟨some 2, .mov (.k (.d (.int .i64 4))), none⟩]
def x0w : List SOper := [
 ⟨some 2, .mov (.k (.d (.int .i64 0))), none⟩]
def s80 : SCode := (.seq (.region x0t 0 []) (.seq (.seq (.region x0u 0 []) (.cond (.t 18) (.seq (.region x0v 0 []) .ret) .skip)) (.seq (.region x0w 0 []) .ret)))
theorem e80 : qf s80.eq_1 := qg s80.eq_1
theorem zf3 : qa x0t.eq_1 := qc
theorem zf4 : qa x0u.eq_1 := qc
theorem zf5 : qa x0v.eq_1 := qc
theorem zf6 : qa x0w.eq_1 := qc
attribute [go_sem] zf3 zf4 zf5 zf6 e80
end
noncomputable section
set_option maxRecDepth 100000
def x0x : List SOper := [
 ⟨some 2, .mov (.k (.d .nilsl)), none⟩,
 ⟨some 3, .mov (.k (.d (.int .i64 0))), none⟩]
def x0y : List SOper := [
 ⟨some 11, .buildSlice false 1 0 [(.int .u8 0)] [], none⟩,
 ⟨some 12, .mov (.t 0), none⟩,
 ⟨some 13, .append false 1 1 (.t 11) (.t 12), none⟩,
 ⟨some 14, .build [.nilsl, (.int .i64 0), (.bool false)] [(0, 1, (.t 13))], none⟩,
 ⟨some 15, .box 1 (.t 14), none⟩,
 ⟨some 4, .mov (.t 15), none⟩]
def x0z : List SOper := [
 ⟨some 16, .mov (.t 4), none⟩,
 ⟨some 17, .call (.k (.d (.func (.func 117) [] []))) [(.t 16), (.k (.d (.int .i64 1))), (.k (.d (.int .i64 20)))], none⟩,
 ⟨some 5, .mov (.t 17), none⟩]
def x00 : List SOper := [
 ⟨some 6, .mov (.k (.d .nilsl)), none⟩]
def x01 : List SOper := [
 ⟨some 7, .mov (.k (.d (.int .i64 0))), none⟩]
def x02 : List SOper := [
 ⟨some 18, .mov (.t 7), none⟩,
 ⟨some 19, .mov (.t 5), none⟩,
 ⟨some 20, .bin .lss (.t 18) (.t 19), none⟩]
def x03 : List SOper := [
 ⟨some 23, .mov (.t 4), none⟩,
 ⟨some 24, .call (.k (.d (.func (.func 118) [] []))) [(.t 23), (.k (.d (.int .i64 40)))], none⟩,
 ⟨some 25, .mov (.t 4), none⟩,
 ⟨some 26, .call (.k (.d (.func (.func 119) [] []))) [(.t 25)], none⟩,
 ⟨some 27, .build [(.str []), (.bool false), .nilsl] [(0, 1, (.t 24)), (1, 1, (.t 26))], none⟩,
 ⟨some 8, .alloc 1 [(.d (.str [])), (.d (.bool false)), (.d .nilsl)], none⟩,
 ⟨none, .store (some 3) (.t 8) (.t 27), none⟩]
def x04 : List SOper := [
 ⟨some 28, .mov (.t 4), none⟩,
 ⟨some 29, .call (.k (.d (.func (.func 120) [] []))) [(.t 28), (.k (.d (.int .i64 900)))], none⟩,
 ⟨some 30, .faddr 2 (.t 8), none⟩,
 ⟨none, .store none (.t 30) (.t 29), none⟩]
def x05 : List SOper := [
 ⟨some 31, .mov (.t 6), none⟩,
 ⟨some 32, .load (some 3) (.t 8), none⟩,
 ⟨some 33, .buildSlice false 3 1 [(.str []), (.bool false), .nilsl] [(0, 3, (.t 32))], none⟩,
 ⟨some 34, .append false 3 48 (.t 31) (.t 33), none⟩,
 ⟨some 6, .mov (.t 34), none⟩]
def x06 : List SOper := [
 ⟨some 21, .mov (.t 7), none⟩,
 ⟨some 22, .bin .add (.t 21) (.k (.d (.int .i64 1))), none⟩,
 ⟨some 7, .mov (.t 22), none⟩]
def qz8 : SCode := (.seq (.seq (.region x02 0 []) (.cond (.t 20) .skip (.exit 0))) (.seq (.block 1 (.seq (.region x03 1 []) (.seq (.region x04 0 []) (.region x05 0 [])))) (.region x06 0 [])))
theorem x07 : qf qz8.eq_1 := qg qz8.eq_1
def xd5 : List SOper := [
 ⟨some 35, .mov (.t 4), none⟩,
 ⟨some 36, .call (.k (.d (.func (.func 80) [] []))) [(.t 35)], none⟩,
 ⟨some 37, .bin .neq (.t 36) (.k (.d (.int .i64 0))), none⟩]
def xd6 : List SOper := [
 ⟨some 2, .mov (.k (.d .nilsl)), none⟩,
 ⟨some 3, .mov (.k (.d (.int .i64 4))), none⟩]
def xd7 : List SOper := [
 ⟨some 39, .mov (.t 6), none⟩,
 ⟨some 40, .call (.k (.d (.func (.func 73) [] []))) [(.t 39)], none⟩,
 ⟨some 38, .mov (.t 40), none⟩,
 ⟨some 41, .extract 0 (.t 38), none⟩,
 ⟨some 42, .extract 1 (.t 38), none⟩,
 ⟨some 9, .mov (.t 41), none⟩,
 ⟨some 10, .mov (.t 42), none⟩]
def xd8 : List SOper := [
 ⟨some 43, .mov (.t 10), none⟩,
 ⟨some 44, .bin .neq (.t 43) (.k (.d (.int .i64 0))), none⟩]
def xd9 : List SOper := [
 ⟨some 2, .mov (.k (.d .nilsl)), none⟩,
 ⟨some 3, .mov (.k (.d (.int .i64 4))), none⟩]
def xea : List SOper := [
 ⟨some 45, .mov (.t 6), none⟩,
 ⟨some 2, .mov (.t 45), none⟩,
 ⟨some 3, .mov (.k (.d (.int .i64 0))), none⟩]
def s61 : SCode := (.seq (.region x0x 0 []) (.seq (.region x0y 1 []) (.seq (.region x0z 0 []) (.seq (.region x00 0 []) (.seq (.seq (.region x01 0 []) (.block 0 (.loop qz8))) (.seq (.seq (.region xd5 0 []) (.cond (.t 37) (.seq (.region xd6 0 []) .ret) .skip)) (.seq (.seq (.region xd7 0 []) (.seq (.region xd8 0 []) (.cond (.t 44) (.seq (.region xd9 0 []) .ret) .skip))) (.seq (.region xea 0 []) .ret))))))))
theorem e61 : qf s61.eq_1 := qg s61.eq_1
theorem zf7 : qa x0x.eq_1 := qc
theorem zf8 : qa x0y.eq_1 := qc
theorem zf9 : qa x0z.eq_1 := qc
theorem zga : qa x00.eq_1 := qc
theorem zgb : qa x01.eq_1 := qc
theorem zgc : qa x02.eq_1 := qc
theorem zgd : qa x03.eq_1 := qc
theorem zge : qa x04.eq_1 := qc
theorem zgf : qa x05.eq_1 := qc
theorem zgg : qa x06.eq_1 := qc
theorem x08 : qa xd5.eq_1 := qc
theorem x09 : qa xd6.eq_1 := qc
theorem x1a : qa xd7.eq_1 := qc
theorem x1b : qa xd8.eq_1 := qc
theorem x1c : qa xd9.eq_1 := qc
theorem x1d : qa xea.eq_1 := qc
attribute [go_sem] zf7 zf8 zf9 zga zgb zgc zgd zge zgf zgg x07 x08 x09 x1a x1b x1c x1d e61
end
end Go.Proofs.YtinnaedmdoengaaGreat
namespace Go.Proofs.YtinnaedmdoengaaGreat
open Go.Abs
set_option linter.unusedSimpArgs false
set_option linter.unusedVariables false
theorem x1e (v : Nat) : zz (unz v) = v := by
 unfold zz unz
 split <;> split <;> omega
theorem x1f (n : Int) : unz (zz n) = n := by
 unfold zz unz
 split <;> split <;> omega
theorem toNat_ofNat {n : Nat} (h : n < 256) : (UInt8.ofNat n).toNat = n := by simp [UInt8.toNat_ofNat]; omega
theorem x1g (k : Nat) : ∀ (j u v : Nat) (l : List UInt8), j + (k + 1) = 10 → v * 128 ^ j < 18446744073709551616 → (v = 0 → j = 0) → dG (k + 1) j u (yr v ++ l) = some (unz (u + v * 128 ^ j), l) := by
 have small : ∀ (k j u v : Nat) (l : List UInt8), v < 128 → v * 128 ^ j < 18446744073709551616 → (v = 0 → j = 0) → dG (k + 1) j u (yr v ++ l) = some (unz (u + v * 128 ^ j), l) := by
  intro k j u v l hv hb h0
  rw [qag hv, List.singleton_append, dG, toNat_ofNat (by omega), if_pos hv, if_neg]
  simp only [Bool.or_eq_true, Bool.and_eq_true, beq_iff_eq, decide_eq_true_eq, not_or, not_and]
  refine ⟨fun h => by have := h0 h; omega, fun h => ?_⟩
  subst h
  have e : (128 : Nat) ^ 9 = 9223372036854775808 := by decide
  rw [e] at hb; omega
 induction k with
 | zero =>
  intro j u v l hj hb h0
  refine small 0 j u v l ?_ hb h0
  have : j = 9 := by omega
  subst this
  have e : (128 : Nat) ^ 9 = 9223372036854775808 := by decide
  rw [e] at hb; omega
 | succ k ih =>
  intro j u v l hj hb h0
  by_cases hv : v < 128
  ·exact small _ j u v l hv hb h0
  ·have hm : v % 128 + 128 < 256 := by omega
   rw [qaf hv, List.cons_append, dG, toNat_ofNat hm, if_neg (by omega)]
   have e1 : (v % 128 + 128) % 128 = v % 128 := by omega
   have e2 : v % 128 * 128 ^ j + v / 128 * 128 ^ (j + 1) = v * 128 ^ j := by
    rw [Nat.pow_succ, Nat.mul_comm (128 ^ j) 128, ← Nat.mul_assoc, ← Nat.add_mul]
    congr 1; omega
   have hle : v / 128 * 128 ^ (j + 1) ≤ v * 128 ^ j := by omega
   rw [e1, ih (j + 1) _ (v / 128) l (by omega) (by omega) (by omega)]
   rw [Nat.add_assoc, e2]
theorem qa3 {n : Int} (hn : I64 n) (l : List UInt8) : dInt (wInt n ++ l) = some (n, l) := by
 have := x1g 9 0 0 (zz n) l rfl (by rw [Nat.pow_zero, Nat.mul_one]; exact q3r hn) (fun _ => rfl)
 rw [Nat.pow_zero, Nat.mul_one, Nat.zero_add, x1f] at this
 exact this
theorem xec : ∀ (k j u : Nat) {l0 : List UInt8} {x : Int} {l : List UInt8}, j + k = 10 → dG k j u l0 = some (x, l) →
  ∃ v, x = unz (u + v * 128 ^ j) ∧ l0 = yr v ++ l ∧ (v = 0 → j = 0) ∧ v * 128 ^ j < 18446744073709551616
 | 0, j, u, l0, x, l, hj, h => by simp [dG] at h
 | k + 1, j, u, [], x, l, hj, h => by simp [dG] at h
 | k + 1, j, u, c :: l0, x, l, hj, h => by
  rw [dG] at h
  have hlt := qct c
  split at h
  ·rename_i hc
   split at h
   ·cases h
   ·rename_i hb
    cases h
    simp only [Bool.or_eq_true, Bool.and_eq_true, beq_iff_eq, decide_eq_true_eq, not_or, not_and] at hb
    refine ⟨c.toNat, rfl, ?_, fun h => by have := hb.1 h; omega, ?_⟩
    ·rw [qag hc, List.singleton_append]
     congr 1
     exact (UInt8.ofNat_toNat).symm
    ·rcases Nat.lt_or_ge j 9 with h9 | h9
     ·have hp := qc1 (j := j) (by omega)
      rw [Nat.pow_succ] at hp
      have : c.toNat * 128 ^ j ≤ 127 * 128 ^ j := Nat.mul_le_mul_right _ (by omega)
      omega
     ·have : j = 9 := by omega
      subst this
      have := hb.2 rfl
      have e : (128 : Nat) ^ 9 = 9223372036854775808 := by decide
      rw [e]; omega
  ·rename_i hc
   obtain ⟨v, h1, h2, h3, h4⟩ := xec k (j + 1) _ (by omega) h
   have e2 : c.toNat % 128 * 128 ^ j + v * 128 ^ (j + 1) = (v * 128 + c.toNat % 128) * 128 ^ j := by
    rw [Nat.pow_succ, Nat.mul_comm (128 ^ j) 128, ← Nat.mul_assoc, ← Nat.add_mul, Nat.add_comm]
   have hv : v ≠ 0 := fun h => by have := h3 h; omega
   have hk : k ≠ 0 := by
    rintro rfl
    simp [dG] at h
   refine ⟨v * 128 + c.toNat % 128, by rw [h1, Nat.add_assoc, e2], ?_, fun h => by omega, ?_⟩
   ·rw [h2, qaf (u := v * 128 + c.toNat % 128) (by omega), List.cons_append]
    have e3 : (v * 128 + c.toNat % 128) % 128 + 128 = c.toNat := by omega
    have e4 : (v * 128 + c.toNat % 128) / 128 = v := by omega
    rw [e3, e4]
    congr 1
    exact (UInt8.ofNat_toNat).symm
   ·rw [← e2]
    have hp := qc1 (j := j) (by omega)
    have h5 : c.toNat % 128 * 128 ^ j ≤ 127 * 128 ^ j := Nat.mul_le_mul_right _ (by omega)
    have h6 : v * 128 ^ (j + 1) % 128 ^ (j + 1) = 0 := Nat.mul_mod_left _ _
    have h7 : (18446744073709551616 : Nat) % 128 ^ (j + 1) = 0 := by
     have : (18446744073709551616 : Nat) = 2 * 128 ^ 9 := by decide
     rw [this, ← Nat.pow_sub_mul_pow 128 (show j + 1 ≤ 9 by omega), ← Nat.mul_assoc]
     exact Nat.mul_mod_left _ _
    have h8 : 127 * 128 ^ j < 128 ^ (j + 1) := by rw [Nat.pow_succ]; have : 0 < 128 ^ j := Nat.pow_pos (by decide); omega
    generalize hP : 128 ^ (j + 1) = P at h4 h6 h7 h8 ⊢
    obtain ⟨q, hq⟩ := Nat.dvd_of_mod_eq_zero h7
    rw [hq] at h4 ⊢
    have : v < q := by
     rw [Nat.mul_comm P q] at h4
     exact Nat.lt_of_mul_lt_mul_right h4
    have : (v + 1) * P ≤ q * P := Nat.mul_le_mul_right _ this
    rw [Nat.add_mul, Nat.one_mul] at this
    rw [Nat.mul_comm P q]
    omega
theorem qhz {l0 : List UInt8} {n : Int} {l : List UInt8} (h : dInt l0 = some (n, l)) : I64 n ∧ l0 = wInt n ++ l := by
 obtain ⟨v, h1, h2, _, h4⟩ := xec 10 0 0 rfl h
 rw [Nat.pow_zero, Nat.mul_one] at h1 h4
 rw [Nat.zero_add] at h1
 subst h1
 refine ⟨?_, by rw [wInt, x1e]; exact h2⟩
 unfold I64 unz
 split <;> omega
theorem qgg {most : Int} {s : List UInt8} (hs : (s.length : Int) ≤ most) (hm : most ≤ 1000000000) (l : List UInt8) : wq most (ww s ++ l) = some (s, l) := by
 unfold wq xm ww
 rw [List.append_assoc, qa3 (xz (by omega))]
 simp only
 rw [if_neg (by omega)]
 simp only [Int.toNat_natCast, List.length_append]
 rw [if_neg (by omega), List.take_left, List.drop_left]
theorem qgh {most : Int} {l0 s l : List UInt8} (h : wq most l0 = some (s, l)) : l0 = ww s ++ l ∧ (s.length : Int) ≤ most := by
 unfold wq xm at h
 cases hd : dInt l0 with
 | none => rw [hd] at h; cases h
 | some x =>
  obtain ⟨n, l1⟩ := x
  rw [hd] at h
  simp only at h
  by_cases hn : n < 0 ∨ n > most
  ·rw [if_pos hn] at h; cases h
  ·rw [if_neg hn] at h
   simp only at h
   split at h
   ·cases h
   ·rename_i hl
    cases h
    obtain ⟨_, h1⟩ := qhz hd
    have e : ((l1.take n.toNat).length : Int) = n := by rw [List.length_take]; omega
    refine ⟨?_, by omega⟩
    unfold ww
    rw [e, List.append_assoc, List.take_append_drop]
    exact h1
theorem yz {α : Type} {b : List UInt8} {v : α} {l : List UInt8} {x : α × Rd} (h : Got (some (v, l)) b x) : x = (v, ⟨b, b.length - l.length, false⟩) := h
theorem wd {α : Type} {z : α} {f : Rd → α × Rd} {d : List UInt8 → Option (α × List UInt8)} (hd : qkq z f d) {r : Rd} (hr : r.Ok) (hf : r.failed = false) {v : α} {l : List UInt8} (h : d (r.b.drop r.pos) = some (v, l)) : f r = (v, ⟨r.b, r.b.length - l.length, false⟩) := by
 rw [hd r hr, if_neg (by simp [hf]), h]
end Go.Proofs.YtinnaedmdoengaaGreat
