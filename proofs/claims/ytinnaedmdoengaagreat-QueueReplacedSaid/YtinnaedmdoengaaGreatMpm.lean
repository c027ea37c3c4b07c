/- Texts Wd, We, Wf, Wg, Wh, Va. -/
import Derived.Test.YtinnaedmdoengaaGreatMpl
import Derived.Calls
import Derived.Orders
import Derived.Tactics
import Derived.Laws.AppendOwn
import Derived.Laws.Slices
import Derived.Laws.Closers25
import Derived.Laws.StructEq
import Derived.Laws.BytesString
import Derived.Laws.CopyRow
import Derived.MapKept
import Derived.Maps.RangeRun
import Derived.TacticsIn
import Derived.OrdersIn
import Derived.RangeFuncRecord
import Derived.RangeFuncLeaves
import Derived.IntWalk
import Derived.ProofKit
import Derived.OpenShut
import Derived.Carry
import Derived.Test.YtinnaedmdoengaaGreatProg
import Derived.KernelRfl
import Derived.OwnWalkIn
import Derived.TacticsInMore
import Derived.LoopIn
import Derived.WalkKit

namespace Go.Proofs.YtinnaedmdoengaaGreat
open Go.Abs Go.RowKit
set_option linter.unusedSimpArgs false
set_option linter.unusedVariables false
theorem q30 (ro : Option Nat) : (Fw ro).round = ro := rfl
theorem zbq (ro : Option Nat) (f : FuncId) : (Fw ro).fn f = True := rfl
theorem q31 (ro : Option Nat) : (Fw ro).depth = none := rfl
attribute [local go_sem] q30 zbq q31
def partsOf (r : List UInt8) : List (Nat × List UInt8) := if h : r.length > 22 then (1, r.take 22) :: partsOf (r.drop 22) else [(2, r)]
termination_by r.length
decreasing_by simp; omega
def ym (p : Nat × List UInt8) : List D := [.int .u8 (p.1 : Nat), .sl 1 (qe p.2)]
theorem qax {r : List UInt8} (h : r.length > 22) : partsOf r = (1, r.take 22) :: partsOf (r.drop 22) := by rw [partsOf, dif_pos h]
theorem qay {r : List UInt8} (h : ¬ r.length > 22) : partsOf r = [(2, r)] := by rw [partsOf, dif_neg h]
theorem qga (r : List UInt8) : ∀ n, (0 < n → 22 * n < r.length) → (partsOf r).drop n = partsOf (r.drop (22 * n))
 | 0, _ => by simp
 | n + 1, h => by
  have h1 := h (by omega)
  have ih := qga r n (fun _ => by omega)
  rw [← List.drop_drop, ih, qax (by rw [List.length_drop]; omega), List.drop_succ_cons, List.drop_zero, List.drop_drop]
  rfl
theorem qm8 {r : List UInt8} {n : Nat} {p : Nat × List UInt8} {l : List (Nat × List UInt8)} (h : (partsOf r).drop n = p :: l) : ((partsOf r).map ym)[n]? = some (ym p) := by
 have : (partsOf r)[n]? = some p := by
  have := congrArg (fun l => l[0]?) h
  simpa using this
 rw [List.getElem?_map, this]; rfl
theorem qpo {W : World} {b : Nat} {c : Array Value} {e : TypeId} {z : Nat × Nat} (v : Value) (h : W.heap[b]? = some (.cells c e z)) : (W.setCell ⟨b, 0, none⟩ v).heap[b]? = some (.cells (c.setIfInBounds 0 v) e z) := by
 simp [World.setCell, Array.getElem?_modify, h]
theorem qm9 {W : World} {b k : Nat} (v : Value) (h : k ≠ b) : (W.setCell ⟨b, 0, none⟩ v).heap[k]? = W.heap[k]? := by
 simp [World.setCell, Array.getElem?_modify, Ne.symm h]
theorem qyv {g : Ghost} {w : World} {b off cap len : Nat} {r : List UInt8} (h : RV g w (.slice (some ⟨b, off, none⟩) len cap) (.sl 1 (qe r))) (n m c : Nat) (hn : n + m ≤ r.length) (hc : m ≤ c) (h0 : r ≠ []) :
  RV g w (.slice (some ⟨b, off + n, none⟩) m c) (.sl 1 (qe ((r.drop n).take m))) := by
 generalize hvd : qe r = rows at h
 have hne : rows ≠ [] := by rw [← hvd]; cases r <;> simp [qe] at h0 ⊢
 cases h with
 | nilsl => exact (hne rfl).elim
 | sl _ _ _ _ n0 o _ f hg hnn hcap hes hcl hcell hrv =>
 subst hvd
 have hfl : (qe ((r.drop n).take m)).flatten = (((qe r).flatten).drop n).take m := by simp only [yx, List.map_take, List.map_drop]
 have hlen : (qe ((r.drop n).take m)).length = m := by rw [x9, List.length_take, List.length_drop]; omega
 have hsub : ∀ (j : Nat) (d : D), (qe ((r.drop n).take m)).flatten[j]? = some d → (qe r).flatten[n + j]? = some d := by
  intro j d hj
  rw [hfl, List.getElem?_take] at hj
  split at hj
  ·rwa [List.getElem?_drop] at hj
  ·cases hj
 have := RV.sl (g := g) (w := w) b (off + n) c 1 n0 o (qe ((r.drop n).take m)) (fun j => f (n + j)) hg (by
   rw [hfl, List.length_take, List.length_drop]
   have h1 : (qe r).flatten.length = r.length := by simp [yx]
   rw [h1] at hnn ⊢
   omega) (by rw [hlen]; exact hc) (by intro x hx; obtain ⟨c, _, rfl⟩ := List.mem_map.1 hx; rfl) (by
   intro d hd
   obtain ⟨j, hj⟩ := List.getElem?_of_mem hd
   exact hcl d (List.mem_of_getElem? (hsub j d hj))) (fun j d hj => by rw [Nat.add_assoc]; exact hcell _ d (hsub j d hj)) (fun j d hj => hrv _ d (hsub j d hj))
 rwa [hlen] at this
set_option maxRecDepth 100000 in
set_option maxHeartbeats 1000000 in
theorem qvs (r : List UInt8) (hl : r.length ≤ 1000000000) : ASeq Tryz.prog 150 [.ptr 0 0] [.row [.d (.sl 1 (qe r))]] ((partsOf r).map ym) := by
 refine ⟨by rw [Tryz.func150]; rfl, ?_⟩
 intro g w lb l J hd hlb hrv hobj hab hY h0
 match lb, hlb with
 | [v0], _ =>
 have hp := hrv 0 v0 _ rfl rfl
 cases hp with
 | ptr b _ _ hg =>
 obtain ⟨b', hb', hro⟩ := (hobj.objs 0 _ rfl (by simp)).resolve_right (fun h => by cases h.1)
 have : b' = b := hobj.inj b' b 0 hb' hg
 subst this
 obtain ⟨c, e, hh, hsz, hc⟩ := hro
 obtain ⟨v, hv0, _, hv⟩ := hc 0 _ rfl
 have hv : RV g w v (.sl 1 (qe r)) := hv
 refine callsIn_of_wp Tryz.func150 rfl trivial ?_ rfl
 simp only [Tryz.ntmps150, List.size_toArray, List.length_cons, List.length_nil, Nat.reduceAdd, Nat.reduceSub, Array.replicate_succ, Array.replicate_zero, List.push_toArray, List.append_toArray, List.nil_append, List.cons_append]
 generalize hvd : qe r = rows at hv
 cases hv with
 | nilsl a cc _ hn =>
  have hr0 : r = [] := by cases r <;> simp [qe] at hvd ⊢
  subst hr0
  have hsp : (partsOf []).drop 0 = [(2, [])] := by rw [List.drop_zero, qay (by simp)]
  refine wpIn_seq (wpIn_block ?_)
  refine qd0 (fun m a W => (∃ t3 t4 t5 t6 t7 t8 t9 t10 t11 t12 t13 t14 t15, a = { tmps := #[.func (.yield l) #[] #[], .pointer (some ⟨b', 0, none⟩), undef, t3, t4, t5, t6, t7, t8, t9, t10, t11, t12, t13, t14, t15], defers := [] }) ∧ W.heap[b']? = some (.cells c e (0, 0)) ∧ J 0 W) (n0 := 0)
   ⟨⟨_, _, _, _, _, _, _, _, _, _, _, _, _, rfl⟩, hh, h0⟩ ?_
  rintro m ac W ⟨⟨t3, t4, t5, t6, t7, t8, t9, t10, t11, t12, t13, t14, t15, rfl⟩, hhW, hJ⟩
  have hcW : W.cell? ⟨b', 0, none⟩ = some (.slice a 0 cc) := by simp [World.cell?, hhW, hv0]
  have hfW : W.frozen? ⟨b', 0, none⟩ = false := by simp [World.frozen?, hhW]
  obtain ⟨fn, tmps, assign, body, hy, hR⟩ := hY 0 _ [.int .u8 2, .slice a 0 cc] W (qm8 hsp) hJ rfl (by
   intro i v d hi hd
   match i with
   | 0 => simp [ym] at hi hd; subst hi; subst hd; exact .int _ _
   | 1 => simp [ym] at hi hd; subst hi; subst hd; exact .nilsl a cc 1 hn
   | i + 2 => simp at hi)
  gi_wp2
  refine hR.mono ?_
  rintro e1 W1 ⟨rfl, hJ1, hk1⟩
  gi_wp2
  go_end0
  have hln : (partsOf []).length = 1 := by have := congrArg List.length hsp; simpa using this
  exact ⟨⟨_, rfl⟩, by rw [List.length_map, hln]; exact hJ1⟩
 | sl bb off cap _ n0 o _ f hgb hnn hcap hes hcl hcell hrvv =>
 subst hvd
 have hv : RV g w (.slice (some ⟨bb, off, none⟩) (qe r).length cap) (.sl 1 (qe r)) := hv
 refine wpIn_seq (wpIn_block ?_)
 refine qd0 (fun m a W => ∃ n, m = r.length - 22 * n ∧ 22 * n ≤ r.length ∧ (0 < n → 22 * n < r.length) ∧ (∃ t3 t4 t5 t6 t7 t8 t9 t10 t11 t12 t13 t14 t15, a = { tmps := #[.func (.yield l) #[] #[], .pointer (some ⟨b', 0, none⟩), undef, t3, t4, t5, t6, t7, t8, t9, t10, t11, t12, t13, t14, t15], defers := [] }) ∧
  W.heap[b']? = some (.cells (c.setIfInBounds 0 (.slice (some ⟨bb, off + 22 * n, none⟩) (r.length - 22 * n) (cap - 22 * n))) e (0, 0)) ∧ J n W) (n0 := r.length) ⟨0, by omega, by omega, by omega, ⟨_, _, _, _, _, _, _, _, _, _, _, _, _, rfl⟩, ?_, h0⟩ ?_
 ·rw [x9] at hv0
  rw [hh, show off + 22 * 0 = off by omega, show r.length - 22 * 0 = r.length by omega, show cap - 22 * 0 = cap by omega]
  congr 2
  apply Array.ext
  ·simp
  ·intro i h1 h2
   rw [Array.getElem_setIfInBounds]
   split
   ·rename_i h; subst h; simpa [Array.getElem?_eq_getElem h1] using hv0
   ·rfl
 rintro m a W ⟨n, rfl, hn1, hn2, ⟨t3, t4, t5, t6, t7, t8, t9, t10, t11, t12, t13, t14, t15, rfl⟩, hhW, hJ⟩
 have hcW : W.cell? ⟨b', 0, none⟩ = some (.slice (some ⟨bb, off + 22 * n, none⟩) (r.length - 22 * n) (cap - 22 * n)) := by
  have : 0 < c.size := by simp at hsz; omega
  simp [World.cell?, hhW, this]
 have hfW : W.frozen? ⟨b', 0, none⟩ = false := by simp [World.frozen?, hhW]
 by_cases hmore : r.length - 22 * n > 22
 ·have hmi : ((r.length - 22 * n : Nat) : Int) > 22 := by omega
  have hlc : r.length ≤ cap := by simpa [x9] using hcap
  have hci : (22 : Int) ≤ ((cap - 22 * n : Nat) : Int) := by omega
  have hci2 : (22 : Int) ≤ ((r.length - 22 * n : Nat) : Int) := by omega
  have hci3 : ((r.length - 22 * n : Nat) : Int) ≤ ((cap - 22 * n : Nat) : Int) := by omega
  have hsp : (partsOf r).drop n = (1, (r.drop (22 * n)).take 22) :: partsOf ((r.drop (22 * n)).drop 22) := by rw [qga r n hn2, qax (by rw [List.length_drop]; exact hmore)]
  obtain ⟨fn, tmps, assign, body, hy, hR⟩ := hY n _ [.int .u8 1, .slice (some ⟨bb, off + 22 * n, none⟩) 22 (cap - 22 * n)] W (qm8 hsp) hJ rfl (by
   intro i v d hi hd
   match i with
   | 0 => simp [ym] at hi hd; subst hi; subst hd; exact .int _ _
   | 1 => simp [ym] at hi hd; subst hi; subst hd; exact qyv hv (22 * n) 22 _ (by omega) (by omega) (by intro h; rw [h] at hmore; simp at hmore)
   | i + 2 => simp at hi)
  gi_wp2
  refine hR.mono ?_
  rintro e1 W1 ⟨rfl, hJ1, hk1⟩
  have hhW1 := (hk1 b' 0 hg).trans hhW
  have hcW1 : W1.cell? ⟨b', 0, none⟩ = some (.slice (some ⟨bb, off + 22 * n, none⟩) (r.length - 22 * n) (cap - 22 * n)) := by
   have : 0 < c.size := by simp at hsz; omega
   simp [World.cell?, hhW1, this]
  have hfW1 : W1.frozen? ⟨b', 0, none⟩ = false := by simp [World.frozen?, hhW1]
  gi_wp2
  refine ⟨_, ?_, n + 1, rfl, by omega, by omega, ⟨_, _, _, _, _, _, _, _, _, _, _, _, _, rfl⟩, ?_, ?_⟩
  ·omega
  ·rw [qpo _ hhW1, Array.setIfInBounds_setIfInBounds]
   have e1 : off + 22 * n + 22 = off + 22 * (n + 1) := by omega
   have e2 : r.length - 22 * n - 22 = r.length - 22 * (n + 1) := by omega
   have e3 : cap - 22 * n - 22 = cap - 22 * (n + 1) := by omega
   rw [e1, e2, e3]
  ·refine hab (n + 1) W1 _ hJ1 rfl rfl rfl (by simp [World.setCell]) (fun k hk => qm9 _ (fun h => hk 0 (h ▸ hg)))
 ·have hmi : ¬ ((r.length - 22 * n : Nat) : Int) > 22 := by omega
  have hsp : (partsOf r).drop n = [(2, r.drop (22 * n))] := by rw [qga r n hn2, qay (by rw [List.length_drop]; exact hmore)]
  have hln : (partsOf r).length = n + 1 := by
   have := congrArg List.length hsp
   simp at this; omega
  obtain ⟨fn, tmps, assign, body, hy, hR⟩ := hY n _ [.int .u8 2, .slice (some ⟨bb, off + 22 * n, none⟩) (r.length - 22 * n) (cap - 22 * n)] W (qm8 hsp) hJ rfl (by
   intro i v d hi hd
   match i with
   | 0 => simp [ym] at hi hd; subst hi; subst hd; exact .int _ _
   | 1 =>
    simp [ym] at hi hd; subst hi; subst hd
    rcases Nat.eq_zero_or_pos n with rfl | hn0
    ·have e1 : cap - 22 * 0 = cap := by omega
     rw [e1]
     simpa [x9] using hv
    ·have h1 := hn2 hn0
     have := qyv hv (22 * n) (r.length - 22 * n) (cap - 22 * n) (by omega) (by
      have : r.length ≤ cap := by simpa [x9] using hcap
      omega) (by intro h; rw [h] at h1; simp at h1)
     rwa [List.take_of_length_le (by rw [List.length_drop]; omega)] at this
   | i + 2 => simp at hi)
  gi_wp2
  refine hR.mono ?_
  rintro e1 W1 ⟨rfl, hJ1, hk1⟩
  gi_wp2
  go_end0
  exact ⟨⟨_, rfl⟩, by rw [List.length_map, hln]; exact hJ1⟩
end Go.Proofs.YtinnaedmdoengaaGreat
namespace Go.Proofs.YtinnaedmdoengaaGreat
open Go.Abs
set_option linter.unusedSimpArgs false
noncomputable section
set_option maxRecDepth 100000
def q8b : List SOper := [
 ⟨some 1, .box 1 (.t 0), none⟩,
 ⟨some 2, .mov (.k (.d .nilfunc)), none⟩]
def q8c : List SOper := [
 ⟨some 3, .mkFunc (.func 150) [] [(.t 1)], none⟩,
 ⟨some 2, .mov (.t 3), none⟩]
def s102 : SCode := (.seq (.region q8b 1 []) (.seq (.region q8c 0 []) .ret))
theorem zlr : qf s102.eq_1 := qg s102.eq_1
theorem xqj : qa q8b.eq_1 := qc
theorem xqk : qa q8c.eq_1 := qc
attribute [go_sem] xqj xqk zlr
theorem zj3 : FnIs Tryz.prog 102 Tryz.f102 [] news s102 [.tmp 2] 4 := xo follows Tryz.func102
def xql : List SOper := [
 ⟨some 2, .box 2 (.t 0), none⟩,
 ⟨some 4, .alloc 1 [(.d .nilsl), (.d (.int .i64 0))], none⟩,
 ⟨some 5, .mov (.k (.d (.int .i64 0))), none⟩]
def xqm : List SOper := [
 ⟨some 14, .mov (.t 1), none⟩,
 ⟨some 15, .len (.t 14), none⟩,
 ⟨some 16, .bin .gtr (.t 15) (.k (.d (.int .i64 2000))), none⟩]
def xqn : List SOper := [
 ⟨some 17, .build [.nilsl, (.int .i64 0)] [], none⟩,
 ⟨none, .store (some 2) (.t 4) (.t 17), none⟩,
 ⟨some 5, .mov (.k (.d (.int .i64 6))), none⟩]
def xqo : List SOper := [
 ⟨some 18, .faddr 0 (.t 2), none⟩,
 ⟨some 19, .load none (.t 18), none⟩,
 ⟨some 20, .len (.t 19), none⟩,
 ⟨some 6, .mov (.t 20), none⟩]
def xqp : List SOper := [
 ⟨some 21, .faddr 0 (.t 2), none⟩,
 ⟨some 22, .load none (.t 21), none⟩,
 ⟨some 23, .call (.k (.d (.func (.func 101) [] []))) [(.t 22)], none⟩,
 ⟨some 7, .alloc 1 [(.d (.int .u64 0))], none⟩,
 ⟨none, .store none (.t 7) (.t 23), none⟩]
def xqq : List SOper := [
 ⟨some 24, .faddr 0 (.t 2), none⟩,
 ⟨some 25, .load none (.t 24), none⟩,
 ⟨some 26, .mov (.t 6), none⟩,
 ⟨some 27, .mov (.t 6), none⟩,
 ⟨some 28, .slice 1 (.t 25) none (some (.t 26)) (some (.t 27)), none⟩,
 ⟨some 8, .alloc 1 [(.d .nilsl)], none⟩,
 ⟨none, .store none (.t 8) (.t 28), none⟩]
def xqr : List SOper := [
 ⟨some 29, .mov (.t 1), none⟩,
 ⟨some 30, .call (.k (.d (.func (.func 102) [] []))) [(.t 29)], none⟩]
def xqs : List SOper := [
 ⟨some 9, .mov (.t 31), none⟩]
def xqt : List SOper := [
 ⟨some 10, .mov (.t 32), none⟩]
def xqu : List SOper := [
 ⟨some 11, .alloc 1 [(.d (.int .u8 0)), (.d (.int .u8 0)), (.d (.int .u8 0)), (.d (.int .u8 0)), (.d (.int .u8 0)), (.d (.int .u8 0)), (.d (.int .u8 0)), (.d (.int .u8 0)), (.d (.int .u8 0)), (.d (.int .u8 0)), (.d (.int .u8 0)), (.d (.int .u8 0)), (.d (.int .u8 0)), (.d (.int .u8 0)), (.d (.int .u8 0)), (.d (.int .u8 0)), (.d (.int .u8 0)), (.d (.int .u8 0)), (.d (.int .u8 0)), (.d (.int .u8 0)), (.d (.int .u8 0)), (.d (.int .u8 0)), (.d (.int .u8 0)), (.d (.int .u8 0))], none⟩]
def q8d : List SOper := [
 ⟨some 33, .mov (.t 9), none⟩,
 ⟨some 34, .mov (.t 10), none⟩,
 ⟨some 35, .len (.t 34), none⟩,
 ⟨some 36, .conv .u8 (.t 35), none⟩,
 ⟨some 37, .iaddrA 24 1 (.t 11) (.k (.d (.int .i64 0))), none⟩,
 ⟨none, .store none (.t 37) (.t 33), none⟩,
 ⟨some 38, .iaddrA 24 1 (.t 11) (.k (.d (.int .i64 1))), none⟩,
 ⟨none, .store none (.t 38) (.t 36), none⟩]
def q8e : List SOper := [
 ⟨some 39, .sliceA 24 1 (.t 11) (some (.k (.d (.int .i64 2)))) none none, none⟩,
 ⟨some 40, .mov (.t 10), none⟩,
 ⟨some 41, .copy 1 (.t 39) (.t 40), none⟩]
def q8f : List SOper := [
 ⟨some 43, .load none (.t 7), none⟩,
 ⟨some 44, .sliceA 24 1 (.t 11) none none none, none⟩,
 ⟨some 45, .call (.k (.d (.func (.func 103) [] []))) [(.t 43), (.t 44)], none⟩,
 ⟨some 42, .mov (.t 45), none⟩,
 ⟨some 46, .extract 0 (.t 42), none⟩,
 ⟨some 47, .extract 1 (.t 42), none⟩,
 ⟨some 13, .alloc 1 [(.d (.int .u8 0)), (.d (.int .u8 0)), (.d (.int .u8 0)), (.d (.int .u8 0)), (.d (.int .u8 0)), (.d (.int .u8 0)), (.d (.int .u8 0)), (.d (.int .u8 0))], none⟩,
 ⟨some 12, .mov (.t 46), none⟩,
 ⟨none, .store (some 8) (.t 13) (.t 47), none⟩]
def q8g : List SOper := [
 ⟨some 48, .load none (.t 8), none⟩,
 ⟨some 49, .sliceA 24 1 (.t 11) none none none, none⟩,
 ⟨some 50, .append false 1 1 (.t 48) (.t 49), none⟩,
 ⟨some 51, .sliceA 8 1 (.t 13) none none none, none⟩,
 ⟨some 52, .append false 1 1 (.t 50) (.t 51), none⟩,
 ⟨some 53, .mov (.t 12), none⟩,
 ⟨none, .store none (.t 8) (.t 52), none⟩,
 ⟨none, .store none (.t 7) (.t 53), none⟩]
def qyw : SCode := (.seq (.region xqs 0 []) (.region xqt 0 []))
theorem xqv : qf qyw.eq_1 := qg qyw.eq_1
def qyx : SCode := (.block 1 (.seq (.region xqu 1 []) (.seq (.region q8d 0 []) (.seq (.region q8e 0 []) (.seq (.region q8f 1 [(0, 6), (1, 6), (2, 6)]) (.region q8g 0 []))))))
theorem xqw : qf qyx.eq_1 := qg qyx.eq_1
def q8h : List SOper := [
 ⟨some 54, .load none (.t 8), none⟩,
 ⟨some 55, .faddr 1 (.t 2), none⟩,
 ⟨some 56, .load none (.t 55), none⟩,
 ⟨some 57, .build [.nilsl, (.int .i64 0)] [(0, 1, (.t 54)), (1, 1, (.t 56))], none⟩,
 ⟨none, .store (some 2) (.t 4) (.t 57), none⟩,
 ⟨some 5, .mov (.k (.d (.int .i64 0))), none⟩]
def s53 : SCode := (.seq (.region xql 2 []) (.seq (.seq (.region xqm 0 []) (.cond (.t 16) (.seq (.region xqn 0 []) .ret) .skip)) (.seq (.region xqo 0 []) (.seq (.region xqp 1 []) (.seq (.region xqq 1 []) (.seq (.seq (.region xqr 1 []) (.block 0 (.rangeFunc (.t 30) [31, 32] qyw qyx))) (.seq (.region q8h 0 []) .ret)))))))
theorem e53 : qf s53.eq_1 := qg s53.eq_1
theorem zbr : qa xql.eq_1 := qc
theorem zbs : qa xqm.eq_1 := qc
theorem zbt : qa xqn.eq_1 := qc
theorem zbu : qa xqo.eq_1 := qc
theorem zbv : qa xqp.eq_1 := qc
theorem zbw : qa xqq.eq_1 := qc
theorem zbx : qa xqr.eq_1 := qc
theorem zby : qa xqs.eq_1 := qc
theorem zbz : qa xqt.eq_1 := qc
theorem zb0 : qa xqu.eq_1 := qc
theorem xqx : qa q8d.eq_1 := qc
theorem xqy : qa q8e.eq_1 := qc
theorem xqz : qa q8f.eq_1 := qc
theorem xq0 : qa q8g.eq_1 := qc
theorem xq1 : qa q8h.eq_1 := qc
attribute [go_sem] zbr zbs zbt zbu zbv zbw zbx zby zbz zb0 xqx xqy xqz xq0 xqv xqw xq1 e53
theorem F53 : FnIs Tryz.prog 53 Tryz.f53 [] news s53 [.cell 4 (some 2), .tmp 5] 58 := xo follows Tryz.func53
end
theorem q32 (r : List UInt8) : ql Tryz.prog 102 [.d (.sl 1 (qe r))] [] (.d (.func (.func 150) [] [.ptr 0 0])) [.row [.d (.sl 1 (qe r))]] := by
 refine zj3.go ?_
 try (refine ev ?_; try exact True.intro)
 exact ⟨_, rfl⟩
def qe4 (p : Nat × List UInt8) : List UInt8 := [UInt8.ofNat p.1, UInt8.ofNat p.2.length] ++ p.2 ++ List.replicate (22 - p.2.length) 0
def qcv (x : List UInt8 × Nat) (p : Nat × List UInt8) : List UInt8 × Nat := (x.1 ++ qe4 p ++ be8 (fnv x.2 (qe4 p)), fnv x.2 (qe4 p))
def j0 (x : List UInt8 × Nat) (l : List (Nat × List UInt8)) : List UInt8 × Nat := l.foldl qcv x
def qcw (file r : List UInt8) : List UInt8 := (j0 (file, qdh file) (partsOf r)).1
theorem qb5 : ∀ (n : Nat) (r : List UInt8), r.length ≤ n → ∀ p ∈ partsOf r, (p.1 = 1 ∨ p.1 = 2) ∧ p.2.length ≤ 22
 | n, r, hn => by
  intro p hp
  by_cases h : r.length > 22
  ·rw [qax h] at hp
   rcases List.mem_cons.1 hp with rfl | hp
   ·exact ⟨.inl rfl, by simp; omega⟩
   ·cases n with
    | zero => omega
    | succ n => exact qb5 n (r.drop 22) (by rw [List.length_drop]; omega) p hp
  ·rw [qay h] at hp
   have : p = (2, r) := by simpa using hp
   subst this
   exact ⟨.inr rfl, by simp only; omega⟩
theorem qji : ∀ (n : Nat) (r : List UInt8), r.length ≤ n → (partsOf r).length ≤ r.length + 1
 | n, r, hn => by
  by_cases h : r.length > 22
  ·rw [qax h]
   cases n with
   | zero => omega
   | succ n =>
    have := qji n (r.drop 22) (by rw [List.length_drop]; omega)
    rw [List.length_drop] at this
    rw [List.length_cons]
    omega
  ·rw [qay h]; simp
theorem qlh {p : Nat × List UInt8} (h : p.2.length ≤ 22) : (qe4 p).length = 24 := by simp [qe4]; omega
theorem qpp (x : List UInt8 × Nat) (l : List (Nat × List UInt8)) (p : Nat × List UInt8) : j0 x (l ++ [p]) = qcv (j0 x l) p := by unfold j0; rw [List.foldl_append, List.foldl_cons, List.foldl_nil]
theorem qjj (x : List UInt8 × Nat) : ∀ l : List (Nat × List UInt8), (∀ p ∈ l, p.2.length ≤ 22) → (j0 x l).1.length = x.1.length + 32 * l.length := by
 intro l h
 induction l generalizing x with
 | nil => simp [j0]
 | cons p l ih =>
  have := ih (qcv x p) (fun q hq => h q (List.mem_cons_of_mem _ hq))
  have h1 := qlh (h p List.mem_cons_self)
  have h2 : j0 x (p :: l) = j0 (qcv x p) l := rfl
  rw [h2, this, qcv]
  simp only [List.length_append, ky, h1, List.length_cons]
  omega
theorem q33 (file : List UInt8) : qdh file < 18446744073709551616 := by
 unfold qdh
 split
 ·omega
 ·have := qm4 8 (file.drop (file.length - 8)) (by rw [List.length_drop]; omega)
  have e : (256 : Nat) ^ 8 = 18446744073709551616 := by decide
  omega
theorem qvt (x : List UInt8 × Nat) (hx : x.2 < 18446744073709551616) (l : List (Nat × List UInt8)) : (j0 x l).2 < 18446744073709551616 := by
 induction l generalizing x with
 | nil => exact hx
 | cons p l ih =>
  have h1 : (qcv x p).2 = fnv x.2 (qe4 p) := by rw [qcv]
  have h2 : (qcv x p).2 < 18446744073709551616 := by rw [h1]; exact qpi hx _
  have h3 : j0 x (p :: l) = j0 (qcv x p) l := rfl
  rw [h3]; exact ih _ h2
theorem qsi {cs new : List ASlot} {off : Nat} (h : off + new.length ≤ cs.length) : vy cs off new = cs.take off ++ new ++ cs.drop (off + new.length) := by
 apply List.ext_getElem?
 intro i
 rw [qas new cs off i h]
 split
 ·rename_i hi
  rw [List.append_assoc, List.getElem?_append_right (by rw [List.length_take]; omega), List.length_take, Nat.min_eq_left (by omega), List.getElem?_append_left (by omega)]
 ·rename_i hi
  rcases Nat.lt_or_ge i off with h1 | h1
  ·rw [List.append_assoc, List.getElem?_append_left (by rw [List.length_take]; omega), List.getElem?_take, if_pos h1]
  ·rw [List.getElem?_append_right (by simp only [List.length_append, List.length_take]; omega), List.getElem?_drop]
   congr 1
   simp only [List.length_append, List.length_take]; omega
theorem qvu (p : Nat × List UInt8) (h1 : p.1 = 1 ∨ p.1 = 2) (h2 : p.2.length ≤ 22) :
  vy [ASlot.d (D.int .u8 (p.1 : Nat)), ASlot.d (D.int .u8 (IntKind.u8.wrap (p.2.length : Nat))), ASlot.d (D.int .u8 0), ASlot.d (D.int .u8 0), ASlot.d (D.int .u8 0), ASlot.d (D.int .u8 0), ASlot.d (D.int .u8 0), ASlot.d (D.int .u8 0), ASlot.d (D.int .u8 0), ASlot.d (D.int .u8 0), ASlot.d (D.int .u8 0), ASlot.d (D.int .u8 0), ASlot.d (D.int .u8 0), ASlot.d (D.int .u8 0), ASlot.d (D.int .u8 0), ASlot.d (D.int .u8 0), ASlot.d (D.int .u8 0), ASlot.d (D.int .u8 0), ASlot.d (D.int .u8 0), ASlot.d (D.int .u8 0), ASlot.d (D.int .u8 0), ASlot.d (D.int .u8 0), ASlot.d (D.int .u8 0), ASlot.d (D.int .u8 0)] 2 (List.map ASlot.d (List.take 22 (qe p.2)).flatten) = ((qe4 p).map zh).map ASlot.d := by
 have e1 : (List.take 22 (qe p.2)).flatten = p.2.map zh := by rw [List.take_of_length_le (by rw [x9]; exact h2), yx]
 have e2 : [ASlot.d (D.int .u8 (p.1 : Nat)), ASlot.d (D.int .u8 (IntKind.u8.wrap (p.2.length : Nat))), ASlot.d (D.int .u8 0), ASlot.d (D.int .u8 0), ASlot.d (D.int .u8 0), ASlot.d (D.int .u8 0), ASlot.d (D.int .u8 0), ASlot.d (D.int .u8 0), ASlot.d (D.int .u8 0), ASlot.d (D.int .u8 0), ASlot.d (D.int .u8 0), ASlot.d (D.int .u8 0), ASlot.d (D.int .u8 0), ASlot.d (D.int .u8 0), ASlot.d (D.int .u8 0), ASlot.d (D.int .u8 0), ASlot.d (D.int .u8 0), ASlot.d (D.int .u8 0), ASlot.d (D.int .u8 0), ASlot.d (D.int .u8 0), ASlot.d (D.int .u8 0), ASlot.d (D.int .u8 0), ASlot.d (D.int .u8 0), ASlot.d (D.int .u8 0)] = ([UInt8.ofNat p.1, UInt8.ofNat p.2.length] ++ List.replicate 22 0).map (fun c => ASlot.d (zh c)) := by
  have a1 : ((p.1 : Nat) : Int) = ((UInt8.ofNat p.1).toNat : Int) := by rcases h1 with h | h <;> rw [h] <;> rfl
  have a2 := qmz p.2.length
  rw [a1, a2]
  rfl
 rw [e1, e2, qsi (by simp; omega)]
 have a3 : ([UInt8.ofNat p.1, UInt8.ofNat p.2.length] ++ List.replicate 22 (0 : UInt8)).drop (2 + p.2.length) = List.replicate (22 - p.2.length) 0 := by
  rw [List.drop_append, List.drop_of_length_le (by simp), List.nil_append, List.drop_replicate]
  congr 1
  simp only [List.length_cons, List.length_nil]; omega
 rw [← List.map_take, ← List.map_drop, List.length_map, List.length_map, a3, qe4]
 simp only [List.cons_append, List.nil_append, List.take_succ_cons, List.take_zero, List.map_cons, List.map_nil, List.map_append, List.map_map]
 rfl
theorem qpq (h : Nat) : vy [ASlot.d (D.int .u8 0), ASlot.d (D.int .u8 0), ASlot.d (D.int .u8 0), ASlot.d (D.int .u8 0), ASlot.d (D.int .u8 0), ASlot.d (D.int .u8 0), ASlot.d (D.int .u8 0), ASlot.d (D.int .u8 0)] 0 (((be8 h).map zh).map ASlot.d) = ((be8 h).map zh).map .d := rfl
theorem qjk (s : List UInt8) (n : Nat) : (List.take n (s.map zh)).all D.isCell = true := by rw [← List.map_take]; exact qjf _
theorem qgb {os : List AObj} {id n : Nat} {s : List UInt8} (h : qh os id = (s.map zh).map .d) (hn : s.length = n) : vk os id 0 1 n = qe s := by
 unfold vk
 rw [h, List.drop_zero, qla, ← hn, qpj]
theorem qyy (a b c d : AObj) (l : List AObj) (s : List UInt8) (h : s.length = 24) : vk (a :: b :: c :: d :: .row ((s.map zh).map .d) :: l) 4 0 1 24 = qe s := qgb rfl h
theorem qyz (a b c d e : AObj) (l : List AObj) (s : List UInt8) (h : s.length = 8) : vk (a :: b :: c :: d :: e :: .row ((s.map zh).map .d) :: l) 5 0 1 8 = qe s := qgb rfl h
def Sapp (file r : List UInt8) (synced : Int) (k : Nat) : St :=
 ⟨[(2, true, .d (.ptr 0 0)), (4, true, .d (.ptr 1 0)), (5, true, .d (.int .i64 0)), (7, true, .d (.ptr 2 0)), (8, true, .d (.ptr 3 0))],
  [.row [.d (.sl 1 (qe file)), .d (.int .i64 synced)], .row [.d .nilsl, .d (.int .i64 0)], .row [.d (.int .u64 ((j0 (file, qdh file) ((partsOf r).take k)).2 : Nat))], .row [.own 0 1 (qe (j0 (file, qdh file) ((partsOf r).take k)).1)]], [0], 1⟩
def qaz (file : List UInt8) (synced : Int) : List D := [.sl 1 (qe file), .int .i64 synced]
theorem qpr (file : List UInt8) (synced : Int) : D.noPtrL (qaz file synced) = true := by simp only [qaz, D.noPtrL, D.noPtr, vr, Bool.and_self]
attribute [go_sem] qpr
set_option maxRecDepth 10000 in
theorem qps (file r : List UInt8) (synced : Int) (hf : file.length ≤ 100000000) (hr : r.length ≤ 2000) :
  ql Tryz.prog 53 [.d (.agg (qaz file synced)), .d (.sl 1 (qe r))] [] (.tup [.d (.agg (qaz (qcw file r) synced)), .d (.int .i64 0)]) [] := by
 refine F53.goT ?_
 have hr0 : decide ((r.length : Int) > 2000) = false := by simp; omega
 try (refine ev1 @qaz.eq_1 ?_; try exact True.intro)
 try (refine ev1 @hr0 ?_; try exact True.intro)
 (repeat (with_reducible refine ob ?_)); refine no_ ?_
 try (refine ev ?_; try exact True.intro)
 (repeat (with_reducible refine ob ?_)); refine cl zj2 (xif file (by omega)) ?_
 try (refine ev ?_; try exact True.intro)
 (repeat (with_reducible refine ob ?_))
 refine clO [4] zj3 (q32 r) ?_
 try (refine ev ?_; try exact True.intro)
 have hft : List.take (file.length - 0) (qe file) = qe file := List.take_of_length_le (by rw [x9]; omega)
 try (refine ev1 @hft ?_; try exact True.intro)
 refine xkx 150 [.ptr 0 0] [4] [.row [.d (.sl 1 (qe r))]] ((partsOf r).map ym) (Sapp file r synced) [(2, true, .d (.ptr 0 0)), (4, true, .d (.ptr 1 0)), (5, true, .d (.int .i64 0)), (7, true, .d (.ptr 2 0)), (8, true, .d (.ptr 3 0))]
  (qvs r (by omega)) ?_ ?_ ?_ ?_ ?_ ?_
 ·try (refine ev4 @Sapp.eq_1 @List.take_zero.{0} @j0.eq_1 @List.foldl_nil.{0,0} ?_; try exact True.intro)
 ·intro k vs hk
  rw [List.getElem?_map, Option.map_eq_some_iff] at hk
  obtain ⟨p, hp, rfl⟩ := hk
  obtain ⟨p1, p2⟩ := qb5 _ r (Nat.le_refl _) p (List.mem_of_getElem? hp)
  obtain ⟨hk, hpk⟩ := List.getElem?_eq_some_iff.1 hp
  have htk : (partsOf r).take (k + 1) = (partsOf r).take k ++ [p] := by rw [List.take_succ_eq_append_getElem hk, hpk]
  have hh := qvt (file, qdh file) (q33 file) ((partsOf r).take k)
  have hln : (j0 (file, qdh file) ((partsOf r).take k)).1.length ≤ 200000000 := by
   rw [qjj _ _ (fun q hq => (qb5 _ r (Nat.le_refl _) q (List.mem_of_mem_take hq)).2), List.length_take]
   have := qji _ r (Nat.le_refl _)
   simp only; omega
  have h24 := qlh p2
  generalize hx : j0 (file, qdh file) ((partsOf r).take k) = x at hh hln
  have hx1 : j0 (file, qdh file) ((partsOf r).take (k + 1)) = qcv x p := by rw [htk, qpp, hx]
  have hc := qvu p p1 p2
  have hck := qyr x.2 (qe4 p) hh (by omega)
  rw [h24] at hck
  try (refine ev5 @Sapp.eq_1 @ym.eq_1 @hx @hx1 @hc ?_; try exact True.intro)
  (repeat (with_reducible refine ob ?_))
  refine clO [4] x9x hck ?_
  try simp only [qpq, qjk, qyy _ _ _ _ _ _ h24, qyz _ _ _ _ _ _ _ (ky _), ky, h24, xk, go_sem, Nat.reduceAdd, Nat.reduceMul, Nat.reduceSub, Nat.reduceEqDiff, Nat.reduceLT, Nat.reduceLeDiff, Nat.reduceBEq, reduceIte, reduceCtorEq, Int.reduceAdd, Int.reduceLT, Int.reduceLE, Int.reduceGT, Int.reduceGE, Int.reduceEq, Int.reduceNe, Int.reduceBEq, Int.reduceBNe, Int.reduceToNat, Int.reduceNeg]
  refine ⟨by omega, by omega, .weak ?_ (.refl _)⟩
  try (refine ev1 @qcv.eq_1 ?_; try exact True.intro)
 ·have hw : j0 (file, qdh file) (List.take (partsOf r).length (partsOf r)) = j0 (file, qdh file) (partsOf r) := by rw [List.take_length]
  try (refine ev3 @Sapp.eq_1 @hw @qcw.eq_1 ?_; try exact True.intro)
 ·intro vs hvs
  obtain ⟨p, _, rfl⟩ := List.mem_map.1 hvs
  exact ⟨rfl, by simp [ym, D.noPtrL, D.noPtr, vr]⟩
 ·try (refine ev ?_; try exact True.intro)
 ·intro k id hid
  have : id = 4 := by simpa using hid
  subst this
  rfl
end Go.Proofs.YtinnaedmdoengaaGreat
namespace Go.Proofs.YtinnaedmdoengaaGreat
open Go.Abs
set_option linter.unusedSimpArgs false
set_option linter.unusedVariables false
noncomputable section
set_option maxRecDepth 100000
def xq2 : List SOper := [
 ⟨some 2, .mov (.k (.d .nilsl)), none⟩]
def xq3 : List SOper := [
 ⟨some 3, .mov (.t 0), none⟩,
 ⟨some 4, .eqnilS false (.t 3), none⟩]
def xq4 : List SOper := [
 ⟨some 2, .mov (.k (.d .nilsl)), none⟩]
def xq5 : List SOper := [
 ⟨some 5, .buildSlice false 1 0 [(.int .u8 0)] [], none⟩,
 ⟨some 6, .mov (.t 0), none⟩,
 ⟨some 7, .append false 1 1 (.t 5) (.t 6), none⟩,
 ⟨some 2, .mov (.t 7), none⟩]
def s63 : SCode := (.seq (.region xq2 0 []) (.seq (.seq (.region xq3 0 []) (.cond (.t 4) (.seq (.region xq4 0 []) .ret) .skip)) (.seq (.region xq5 0 []) .ret)))
theorem e63 : qf s63.eq_1 := qg s63.eq_1
theorem zb1 : qa xq2.eq_1 := qc
theorem zb2 : qa xq3.eq_1 := qc
theorem zb3 : qa xq4.eq_1 := qc
theorem zb4 : qa xq5.eq_1 := qc
attribute [go_sem] zb1 zb2 zb3 zb4 e63
theorem F63 : FnIs Tryz.prog 63 Tryz.f63 [] news s63 [.tmp 2] 8 := xo follows Tryz.func63
def xq6 : List SOper := [
 ⟨some 2, .mov (.k (.d .nilmap)), none⟩]
def xq7 : List SOper := [
 ⟨some 3, .mov (.t 0), none⟩,
 ⟨some 4, .eqnil false .map (.t 3), none⟩]
def xq8 : List SOper := [
 ⟨some 2, .mov (.k (.d .nilmap)), none⟩]
def xq9 : List SOper := [
 ⟨some 5, .mov (.t 0), none⟩,
 ⟨some 6, .mkIface 96 (.t 5), none⟩,
 ⟨some 7, .call (.k (.d (.func (.func 100) [] []))) [(.t 6)], none⟩,
 ⟨some 8, .assertT 96 false (.t 7), none⟩,
 ⟨some 2, .mov (.t 8), none⟩]
def s51 : SCode := (.seq (.region xq6 0 []) (.seq (.seq (.region xq7 0 []) (.cond (.t 4) (.seq (.region xq8 0 []) .ret) .skip)) (.seq (.region xq9 0 []) .ret)))
theorem e51 : qf s51.eq_1 := qg s51.eq_1
theorem zb5 : qa xq6.eq_1 := qc
theorem zb6 : qa xq7.eq_1 := qc
theorem zb7 : qa xq8.eq_1 := qc
theorem zb8 : qa xq9.eq_1 := qc
attribute [go_sem] zb5 zb6 zb7 zb8 e51
theorem F51 : FnIs Tryz.prog 51 Tryz.f51 [] news s51 [.tmp 2] 9 := xo follows Tryz.func51
end
theorem kz (s : List UInt8) (hl : s.length ≤ 1000000000) : ql Tryz.prog 63 [.d (.sl 1 (qe s))] [] (.d (.sl 1 (qe s))) [] := by
 refine F63.go ?_
 try (refine ev ?_; try exact True.intro)
 refine qr0 rfl rfl (fun b hb => ?_)
 try (refine ev ?_; try exact True.intro)
 (repeat (with_reducible refine ob ?_)); refine ju _ (fun h => ?_) (fun h => ?_)
 ·try (refine ev1 (hb h) ?_; try exact True.intro)
 ·try (refine ev ?_; try exact True.intro)
  omega
theorem qvv (w : World) (t : TypeId) (b : Nat) (es : Array MapEntry) (clock : Nat) (hb : w.heap[b]? = some (.map es clock)) :
  (callFunc 100 #[.iface t (.map (some b))]).run Tryz.prog w = .ok (.value (.iface t (.map (some w.heap.size)))) (w.alloc (.map es clock)) := by
 rw [run_callFunc_extern Tryz.func100 rfl (by kernel_rfl) (by kernel_rfl) (e := Extern.MapsClone.clone) (by kernel_rfl)]
 have e : Extern.MapsClone.clone #[.iface t (.map (some b))] = (getObj b >>= fun o => match o with
   | .map entries clock => (newObj (.map entries clock) >>= fun n => pure (.iface t (.map (some n))))
   | _ => stuck "maps.clone: a map expected") := rfl
 rw [e]
 simp [MapKept.run_getObj_map hb, Result.andThen]
set_option maxRecDepth 100000 in
set_option maxHeartbeats 1000000 in
theorem qy0 (es : Ents) (c : Nat) : ql Tryz.prog 51 [.d (.map 0)] [.map es c] (.d (.map 1)) [.map es c, .map es c] := by
 intro g w vs hd hlen hv ho
 match vs, hlen with
 | [v0], _ =>
 have h0 := qgv (jh (x6 (hv 0 v0 _ rfl rfl)))
 obtain ⟨b, rfl, hg⟩ := h0
 obtain ⟨b', hb', l, hh, hl, he⟩ := (ho.objs 0 _ rfl (by simp)).resolve_right (fun h => by cases h.1)
 have : b' = b := ho.inj b' b 0 hb' hg
 subst this
 go_enter Tryz.func51, Tryz.ntmps51
 have hcl := qvv w 96 b' l.toArray c hh
 have hbin : (binOp .eql 96 (.map (some b')) (.map none)).run Tryz.prog w = .ok (.bool false) w := by
  simp [binOp, qem Tryz.underlying96]
 have hta : ∀ W, (Instr.typeAssert (.iface 96 (.map (some w.heap.size))) 20 96 false).run Tryz.prog W = .ok (.map (some w.heap.size)) W := fun W => by
  simp [Instr.typeAssert, run_underlying Tryz.underlying96]
 go_wp2_with (first | simp only [hbin, Result.andThen_ok] | simp only [hcl] | simp only [hta, Result.andThen_ok])
 go_ret
 have hs : SR 0 (fun _ => False) g w ⟨[], [.map es c, .none], [], 1⟩ { tmps := #[], defers := [] } := by
  refine ⟨hd, trivial, rfl, fun k v s h => by simp [Fr.get] at h, fun id o hid hn => ?_, ho.inj, fun b id hb => ?_, ⟨by simp, fun k s h => by simp [Fr.get] at h, fun id o hid s hs => ?_⟩⟩
  ·match id with
   | 0 => exact ho.objs 0 o hid hn
   | 1 => simp at hid; exact (hn hid.symm).elim
   | i + 2 => simp at hid
  ·obtain ⟨o, h1, h2⟩ := ho.ids b id hb
   refine ⟨o, ?_, h2⟩
   match id with
   | 0 => exact h1
   | i + 1 => simp at h1
  ·match id with
   | 0 => simp at hid; subst hid; simp [AObj.cells] at hs
   | 1 => simp at hid; subst hid; simp [AObj.cells] at hs
   | i + 2 => simp at hid
 obtain ⟨q1, q2⟩ := hs.newObjA (id := 1) (o := .map es c) (blk := .map l.toArray c) rfl (by simp) (fun hG hr _ => ⟨l, heap_alloc_new w _, hl, fun i e x h1 h2 => (he i e x h1 h2).mono hr⟩) (by simp [AObj.cells])
 refine ⟨_, _, [], rfl, q1, q2.dom, by simp [ASlot.toks], .map _ 1 (Ghost.at_same _ _ _), ⟨fun id o hid hn => q2.objs id o hid hn, q2.inj, fun b id hb => q2.ids b id hb⟩⟩
end Go.Proofs.YtinnaedmdoengaaGreat
namespace Go.Proofs.YtinnaedmdoengaaGreat
open Go.Abs
set_option linter.unusedSimpArgs false
set_option linter.unusedVariables false
abbrev KV := Nat × List UInt8 × List UInt8
structure Cont where
 l : List KV
 c : Nat
 deriving DecidableEq, Inhabited
def qan (x : KV) : Nat × D × D := (x.1, .str x.2.1, .sl 1 (qe x.2.2))
def mapO (m : Cont) : AObj := .map (m.l.map qan) m.c
def xt (k : List UInt8) (x : KV) : Bool := k == x.2.1
def mPut (k v : List UInt8) (m : Cont) : Cont := match m.l.findIdx? (xt k) with
 | some j => ⟨m.l.modify j fun e => (e.1, k, v), m.c⟩
 | none => ⟨m.l ++ [(m.c, k, v)], m.c + 1⟩
def mDel (k : List UInt8) (m : Cont) : Cont := match m.l.findIdx? (xt k) with
 | some j => ⟨m.l.eraseIdx j, m.c⟩
 | none => m
def mGet (k : List UInt8) (m : Cont) : Option (List UInt8) := (m.l.find? (xt k)).map (·.2.2)
theorem qd5 (k : List UInt8) (l : List KV) : (l.map qan).findIdx? (qce (.str k)) = l.findIdx? (xt k) := by
 rw [List.findIdx?_map]; rfl
theorem qvw (k v : List UInt8) (m : Cont) : qh6 (.str k) (.sl 1 (qe v)) m.c (m.l.map qan) = (mPut k v m).l.map qan := by
 unfold qh6 mPut
 rw [qd5]
 cases h : m.l.findIdx? (xt k) with
 | none => simp [qan]
 | some j =>
  simp only
  apply List.ext_getElem?
  intro i
  rw [List.getElem?_modify, List.getElem?_map, List.getElem?_map, List.getElem?_modify]
  cases m.l[i]? with
  | none => rfl
  | some x =>
   show some (if j = i then _ else _) = some (qan (if j = i then _ else _))
   split <;> rfl
theorem qpt (k v : List UInt8) (m : Cont) : qbs (.str k) m.c (m.l.map qan) = (mPut k v m).c := by
 unfold qbs mPut
 rw [qd5]
 cases m.l.findIdx? (xt k) <;> rfl
theorem qvx (k : List UInt8) (m : Cont) : qh7 (.str k) (m.l.map qan) = (mDel k m).l.map qan := by
 unfold qh7 mDel
 rw [qd5]
 cases m.l.findIdx? (xt k) with
 | none => rfl
 | some j =>
  simp only
  apply List.ext_getElem?
  intro i
  rw [List.getElem?_eraseIdx, List.getElem?_map, List.getElem?_map, List.getElem?_map, List.getElem?_eraseIdx]
  split <;> rfl
theorem q8i (k : List UInt8) (m : Cont) : (mDel k m).c = m.c := by unfold mDel; split <;> rfl
theorem qvy (k : List UInt8) (l : List KV) : qgq .str (.str k) (l.map qan) = true := by
 simp only [qgq, KD.is, Bool.true_and, List.all_map]
 exact List.all_eq_true.2 fun x _ => rfl
theorem qsj (k : List UInt8) (m : Cont) : yj (.str k) (m.l.map qan) = (mGet k m).map fun v => .sl 1 (qe v) := by
 unfold yj mGet
 rw [List.find?_map]
 have : qce (.str k) ∘ qan = xt k := rfl
 rw [this]
 cases m.l.find? (xt k) <;> rfl
attribute [go_sem] qvy
def k7 : Cont → List OpS → Cont × Bool
 | m, [] => (m, true)
 | m, o :: l => if o.del then k7 (mDel o.key m) l else if (mPut o.key o.val m).l.length > 400 then (mPut o.key o.val m, false) else k7 (mPut o.key o.val m) l
noncomputable section
set_option maxRecDepth 100000
def xrb : List SOper := [
 ⟨some 4, .mov (.k (.d (.bool false))), none⟩]
def xrc : List SOper := [
 ⟨some 7, .mov (.t 1), none⟩,
 ⟨some 8, .len (.t 7), none⟩,
 ⟨some 9, .mov (.k (.d (.int .i64 0))), none⟩]
def xrd : List SOper := [
 ⟨some 10, .bin .lss (.t 9) (.t 8), none⟩]
def xre : List SOper := [
 ⟨some 11, .iaddr 3 (.t 7) (.t 9), none⟩,
 ⟨some 12, .load (some 3) (.t 11), none⟩,
 ⟨some 6, .alloc 1 [(.d (.str [])), (.d (.bool false)), (.d .nilsl)], none⟩,
 ⟨none, .store (some 3) (.t 6) (.t 12), none⟩]
def xrf : List SOper := [
 ⟨some 13, .faddr 1 (.t 6), none⟩,
 ⟨some 14, .load none (.t 13), none⟩]
def xrg : List SOper := [
 ⟨some 15, .mov (.t 0), none⟩,
 ⟨some 16, .faddr 0 (.t 6), none⟩,
 ⟨some 17, .load none (.t 16), none⟩,
 ⟨none, .delete .str (.t 15) (.t 17), none⟩]
def xrh : List SOper := [
 ⟨some 18, .mov (.t 0), none⟩,
 ⟨some 19, .faddr 0 (.t 6), none⟩,
 ⟨some 20, .load none (.t 19), none⟩,
 ⟨some 21, .faddr 2 (.t 6), none⟩,
 ⟨some 22, .load none (.t 21), none⟩,
 ⟨some 23, .call (.k (.d (.func (.func 63) [] []))) [(.t 22)], none⟩,
 ⟨none, .mapUpdate .str (.t 18) (.t 20) (.t 23), none⟩]
def xri : List SOper := [
 ⟨some 24, .mov (.t 0), none⟩,
 ⟨some 25, .lenM (.t 24), none⟩,
 ⟨some 26, .bin .gtr (.t 25) (.k (.d (.int .i64 400))), none⟩]
def xrj : List SOper := [
 ⟨some 4, .mov (.k (.d (.bool false))), none⟩]
def xrk : List SOper := [
 ⟨some 27, .bin .add (.t 9) (.k (.d (.int .i64 1))), none⟩,
 ⟨some 9, .mov (.t 27), none⟩]
def qy1 : SCode := (.seq (.region xrd 0 []) (.seq (.cond (.t 10) .skip (.exit 0)) (.seq (.block 1 (.seq (.region xre 1 []) (.seq (.seq (.region xrf 0 []) (.cond (.t 14) (.seq (.region xrg 0 []) (.exit 1)) .skip)) (.seq (.region xrh 0 [(2, 5)]) (.seq (.region xri 0 []) (.cond (.t 26) (.seq (.region xrj 0 []) .ret) .skip)))))) (.region xrk 0 []))))
theorem xrl : qf qy1.eq_1 := qg qy1.eq_1
def q8j : List SOper := [
 ⟨some 4, .mov (.k (.d (.bool true))), none⟩]
def s52 : SCode := (.seq (.region xrb 0 []) (.seq (.seq (.region xrc 0 []) (.block 0 (.loop qy1))) (.seq (.region q8j 0 []) .ret)))
theorem e52 : qf s52.eq_1 := qg s52.eq_1
theorem zb9 : qa xrb.eq_1 := qc
theorem zca : qa xrc.eq_1 := qc
theorem zcb : qa xrd.eq_1 := qc
theorem zcc : qa xre.eq_1 := qc
theorem zcd : qa xrf.eq_1 := qc
theorem zce : qa xrg.eq_1 := qc
theorem zcf : qa xrh.eq_1 := qc
theorem zcg : qa xri.eq_1 := qc
theorem zch : qa xrj.eq_1 := qc
theorem zci : qa xrk.eq_1 := qc
theorem xrm : qa q8j.eq_1 := qc
attribute [go_sem] zb9 zca zcb zcc zcd zce zcf zcg zch zci xrl xrm e52
theorem F52 : FnIs Tryz.prog 52 Tryz.f52 [] news s52 [.tmp 4] 28 := xo follows Tryz.func52
end
def qpu (m : Cont) (l : List OpS) (i : { i : Nat × Cont // i.1 ≤ l.length ∧ k7 i.2 (l.drop i.1) = k7 m l }) : St :=
 ⟨[(0, true, .d (.map 0)), (7, true, .d (.sl 3 (l.map qp))), (8, true, .d (.int .i64 l.length)), (9, true, .d (.int .i64 (i.val.1 : Nat)))], [mapO i.val.2], [], 1⟩
theorem q34 (m : Cont) (l : List OpS) (hl : l.length ≤ 100000) (hv : ∀ o ∈ l, o.val.length ≤ 1000000) : ql Tryz.prog 52 [.d (.map 0), .d (.sl 3 (l.map qp))] [mapO m] (.d (.bool (k7 m l).2)) [mapO (k7 m l).1] := by
 refine F52.go ?_
 try (refine ev1 @mapO.eq_1 ?_; try exact True.intro)
 refine qv (qpu m l) (fun i => l.length - i.val.1) ⟨(0, m), Nat.zero_le _, rfl⟩ ?_ (fun i => ?_)
 ·try (refine ev2 @qpu.eq_1 @mapO.eq_1 ?_; try exact True.intro)
 obtain ⟨⟨i, mi⟩, hi, ha⟩ := i
 simp only at hi ha
 try (refine ev2 @qpu.eq_1 @mapO.eq_1 ?_; try exact True.intro)
 refine ju _ (fun hc => ?_) (fun hc => ?_)
 ·have hil : i < l.length := by simpa using hc
  have hd : l.drop i = l[i] :: l.drop (i + 1) := List.drop_eq_getElem_cons hil
  rw [hd, k7] at ha
  try (refine ev2 (qz qp l hil) @qp.eq_1 ?_; try exact True.intro)
  (repeat (with_reducible refine ob ?_))
  (repeat (with_reducible refine ob ?_)); refine ju _ (fun h => ?_) (fun h => ?_)
  ·rw [if_pos h] at ha
   try (refine ev1 @qvx ?_; try exact True.intro)
   refine ⟨⟨(i + 1, mDel l[i].key mi), hil, ha⟩, ?_, by dsimp only; omega⟩
   try (refine ev4 @qpu.eq_1 @mapO.eq_1 @q8i (qr (show i < 9223372036854775807 by omega)) ?_; try exact True.intro)
  ·rw [if_neg (by simp [h])] at ha
   try (refine ev ?_; try exact True.intro)
   (repeat (with_reducible refine ob ?_)); first | refine cl F63 (kz l[i].val (by have := hv l[i] (List.getElem_mem hil); omega)) ?_ | refine clF F63 (kz l[i].val (by have := hv l[i] (List.getElem_mem hil); omega)) (fun _ => by (refine ev1 @qp.eq_1 ?_; try exact True.intro)) ?_
   try simp only [qvw, qpt _ l[i].val, go_sem, Nat.reduceAdd, Nat.reduceMul, Nat.reduceSub, Nat.reduceEqDiff, Nat.reduceLT, Nat.reduceLeDiff, Nat.reduceBEq, reduceIte, reduceCtorEq, Int.reduceAdd, Int.reduceLT, Int.reduceLE, Int.reduceGT, Int.reduceGE, Int.reduceEq, Int.reduceNe, Int.reduceBEq, Int.reduceBNe, Int.reduceToNat, Int.reduceNeg]
   refine ju _ (fun h4 => ?_) (fun h4 => ?_)
   ·rw [if_pos (by simp at h4; omega)] at ha
    try (refine ev1 ha.symm ?_; try exact True.intro)
   ·rw [if_neg (by simp at h4; omega)] at ha
    try (refine ev ?_; try exact True.intro)
    refine ⟨⟨(i + 1, mPut l[i].key l[i].val mi), hil, ha⟩, ?_, by dsimp only; omega⟩
    try (refine ev3 @qpu.eq_1 @mapO.eq_1 (qr (show i < 9223372036854775807 by omega)) ?_; try exact True.intro)
 ·have hie : i = l.length := by simp at hc; omega
  subst hie
  rw [List.drop_length, k7] at ha
  try (refine ev1 ha.symm ?_; try exact True.intro)
end Go.Proofs.YtinnaedmdoengaaGreat
namespace Go.Proofs.YtinnaedmdoengaaGreat
open Go.Abs
set_option linter.unusedSimpArgs false
set_option linter.unusedVariables false
structure Sto where
 file : List UInt8
 synced : Int
 m : Cont
 deriving DecidableEq, Inhabited
def stoO (s : Sto) (id : Nat) : AObj := .row [.d (.sl 1 (qe s.file)), .d (.int .i64 s.synced), .d (.map id)]
def qpv : Cont := ⟨[], 0⟩
def newS : Sto := ⟨[], 0, qpv⟩
noncomputable section
set_option maxRecDepth 100000
def xrn : List SOper := [
 ⟨some 0, .mov (.k (.d .nilptr)), none⟩]
def xro : List SOper := [
 ⟨some 1, .makeMap 2, none⟩,
 ⟨some 2, .build [.nilsl, (.int .i64 0), .nilmap] [(2, 1, (.t 1))], none⟩,
 ⟨some 3, .box 1 (.t 2), none⟩,
 ⟨some 0, .mov (.t 3), none⟩]
def s10 : SCode := (.seq (.region xrn 0 []) (.seq (.region xro 2 []) .ret))
theorem e10 : qf s10.eq_1 := qg s10.eq_1
theorem zcj : qa xrn.eq_1 := qc
theorem zck : qa xro.eq_1 := qc
attribute [go_sem] zcj zck e10
theorem F10 : FnIs Tryz.prog 10 Tryz.f10 [] news s10 [.tmp 0] 4 := xo follows Tryz.func10
def xrp : List SOper := [
 ⟨some 4, .mov (.k (.d (.int .i64 0))), none⟩]
def xrq : List SOper := [
 ⟨some 8, .mov (.t 0), none⟩,
 ⟨some 9, .eqnil false .ptr (.t 8), none⟩]
def xrr : List SOper := [
 ⟨some 4, .mov (.k (.d (.int .i64 7))), none⟩]
def xrs : List SOper := [
 ⟨some 11, .mov (.t 1), none⟩,
 ⟨some 12, .call (.k (.d (.func (.func 50) [] []))) [(.t 11)], none⟩,
 ⟨some 10, .mov (.t 12), none⟩,
 ⟨some 13, .extract 0 (.t 10), none⟩,
 ⟨some 14, .extract 1 (.t 10), none⟩,
 ⟨some 5, .mov (.t 13), none⟩,
 ⟨some 6, .mov (.t 14), none⟩]
def xrt : List SOper := [
 ⟨some 15, .mov (.t 6), none⟩,
 ⟨some 16, .bin .neq (.t 15) (.k (.d (.int .i64 0))), none⟩]
def xru : List SOper := [
 ⟨some 17, .mov (.t 6), none⟩,
 ⟨some 4, .mov (.t 17), none⟩]
def xrv : List SOper := [
 ⟨some 18, .mov (.t 0), none⟩,
 ⟨some 19, .nilCheck (.t 18), none⟩,
 ⟨some 20, .faddr 2 (.t 19), none⟩,
 ⟨some 21, .load none (.t 20), none⟩,
 ⟨some 22, .call (.k (.d (.func (.func 51) [] []))) [(.t 21)], none⟩,
 ⟨some 7, .mov (.t 22), none⟩]
def xrw : List SOper := [
 ⟨some 23, .mov (.t 7), none⟩,
 ⟨some 24, .mov (.t 1), none⟩,
 ⟨some 25, .call (.k (.d (.func (.func 52) [] []))) [(.t 23), (.t 24)], none⟩,
 ⟨some 26, .not (.t 25), none⟩]
def xrx : List SOper := [
 ⟨some 4, .mov (.k (.d (.int .i64 28))), none⟩]
def xry : List SOper := [
 ⟨some 28, .mov (.t 0), none⟩,
 ⟨some 29, .mov (.t 0), none⟩,
 ⟨some 30, .nilCheck (.t 29), none⟩,
 ⟨some 31, .faddr 0 (.t 30), none⟩,
 ⟨some 32, .load (some 2) (.t 31), none⟩,
 ⟨some 33, .mov (.t 5), none⟩,
 ⟨some 34, .call (.k (.d (.func (.func 53) [] []))) [(.t 32), (.t 33)], none⟩,
 ⟨some 27, .mov (.t 34), none⟩,
 ⟨some 35, .extract 0 (.t 27), none⟩,
 ⟨some 36, .extract 1 (.t 27), none⟩,
 ⟨some 37, .nilCheck (.t 28), none⟩,
 ⟨some 38, .faddr 0 (.t 37), none⟩,
 ⟨none, .store (some 2) (.t 38) (.t 35), none⟩]
def q8k : List SOper := [
 ⟨some 39, .mov (.t 0), none⟩,
 ⟨some 40, .mov (.t 7), none⟩,
 ⟨some 41, .nilCheck (.t 39), none⟩,
 ⟨some 42, .faddr 2 (.t 41), none⟩,
 ⟨none, .store none (.t 42) (.t 40), none⟩]
def q8l : List SOper := [
 ⟨some 4, .mov (.k (.d (.int .i64 0))), none⟩]
def s14 : SCode := (.seq (.region xrp 0 []) (.seq (.seq (.region xrq 0 []) (.cond (.t 9) (.seq (.region xrr 0 []) .ret) .skip)) (.seq (.region xrs 0 []) (.seq (.seq (.region xrt 0 []) (.cond (.t 16) (.seq (.region xru 0 []) .ret) .skip)) (.seq (.region xrv 1 []) (.seq (.seq (.region xrw 0 []) (.cond (.t 26) (.seq (.region xrx 0 []) .ret) .skip)) (.seq (.region xry 0 []) (.seq (.region q8k 0 []) (.seq (.region q8l 0 []) .ret)))))))))
theorem e14 : qf s14.eq_1 := qg s14.eq_1
theorem zcl : qa xrp.eq_1 := qc
theorem zcm : qa xrq.eq_1 := qc
theorem zcn : qa xrr.eq_1 := qc
theorem zco : qa xrs.eq_1 := qc
theorem zcp : qa xrt.eq_1 := qc
theorem zcq : qa xru.eq_1 := qc
theorem zcr : qa xrv.eq_1 := qc
theorem zcs : qa xrw.eq_1 := qc
theorem zct : qa xrx.eq_1 := qc
theorem zcu : qa xry.eq_1 := qc
theorem xrz : qa q8k.eq_1 := qc
theorem xr0 : qa q8l.eq_1 := qc
attribute [go_sem] zcl zcm zcn zco zcp zcq zcr zcs zct zcu xrz xr0 e14
theorem F14 : FnIs Tryz.prog 14 Tryz.f14 [] news s14 [.tmp 4] 43 := xo follows Tryz.func14
def xr1 : List SOper := [
 ⟨some 4, .mov (.k (.d .nilsl)), none⟩,
 ⟨some 5, .mov (.k (.d (.bool false))), none⟩]
def xr2 : List SOper := [
 ⟨some 8, .mov (.t 0), none⟩,
 ⟨some 9, .eqnil false .ptr (.t 8), none⟩]
def xr3 : List SOper := [
 ⟨some 4, .mov (.k (.d .nilsl)), none⟩,
 ⟨some 5, .mov (.k (.d (.bool false))), none⟩]
def xr4 : List SOper := [
 ⟨some 11, .mov (.t 0), none⟩,
 ⟨some 12, .nilCheck (.t 11), none⟩,
 ⟨some 13, .faddr 2 (.t 12), none⟩,
 ⟨some 14, .load none (.t 13), none⟩,
 ⟨some 15, .mov (.t 1), none⟩,
 ⟨some 16, .lookup .str (.d .nilsl) true (.t 14) (.t 15), none⟩,
 ⟨some 10, .mov (.t 16), none⟩,
 ⟨some 17, .extract 0 (.t 10), none⟩,
 ⟨some 18, .extract 1 (.t 10), none⟩,
 ⟨some 6, .mov (.t 17), none⟩,
 ⟨some 7, .mov (.t 18), none⟩]
def xr5 : List SOper := [
 ⟨some 19, .mov (.t 6), none⟩,
 ⟨some 20, .call (.k (.d (.func (.func 63) [] []))) [(.t 19)], none⟩,
 ⟨some 21, .mov (.t 7), none⟩,
 ⟨some 4, .mov (.t 20), none⟩,
 ⟨some 5, .mov (.t 21), none⟩]
def s26 : SCode := (.seq (.region xr1 0 []) (.seq (.seq (.region xr2 0 []) (.cond (.t 9) (.seq (.region xr3 0 []) .ret) .skip)) (.seq (.region xr4 0 []) (.seq (.region xr5 0 []) .ret))))
theorem e26 : qf s26.eq_1 := qg s26.eq_1
theorem zcv : qa xr1.eq_1 := qc
theorem zcw : qa xr2.eq_1 := qc
theorem zcx : qa xr3.eq_1 := qc
theorem zcy : qa xr4.eq_1 := qc
theorem zcz : qa xr5.eq_1 := qc
attribute [go_sem] zcv zcw zcx zcy zcz e26
theorem F26 : FnIs Tryz.prog 26 Tryz.f26 [] news s26 [.tmp 4, .tmp 5] 22 := xo follows Tryz.func26
def xr6 : List SOper := [
 ⟨some 2, .alloc 1 [(.d .nilsl), (.d (.int .i64 0))], none⟩]
def xr7 : List SOper := [
 ⟨some 3, .mov (.t 0), none⟩,
 ⟨some 4, .eqnil false .ptr (.t 3), none⟩]
def xr8 : List SOper := [
 ⟨some 5, .build [.nilsl, (.int .i64 0)] [], none⟩,
 ⟨none, .store (some 2) (.t 2) (.t 5), none⟩]
def xr9 : List SOper := [
 ⟨some 6, .mov (.t 0), none⟩,
 ⟨some 7, .nilCheck (.t 6), none⟩,
 ⟨some 8, .faddr 0 (.t 7), none⟩,
 ⟨some 9, .faddr 0 (.t 8), none⟩,
 ⟨some 10, .load none (.t 9), none⟩,
 ⟨some 11, .call (.k (.d (.func (.func 63) [] []))) [(.t 10)], none⟩,
 ⟨some 12, .mov (.t 0), none⟩,
 ⟨some 13, .nilCheck (.t 12), none⟩,
 ⟨some 14, .faddr 0 (.t 13), none⟩,
 ⟨some 15, .faddr 1 (.t 14), none⟩,
 ⟨some 16, .load none (.t 15), none⟩,
 ⟨some 17, .build [.nilsl, (.int .i64 0)] [(0, 1, (.t 11)), (1, 1, (.t 16))], none⟩,
 ⟨none, .store (some 2) (.t 2) (.t 17), none⟩]
def s22 : SCode := (.seq (.region xr6 1 []) (.seq (.seq (.region xr7 0 []) (.cond (.t 4) (.seq (.region xr8 0 []) .ret) .skip)) (.seq (.region xr9 0 [(5, 10)]) .ret)))
theorem e22 : qf s22.eq_1 := qg s22.eq_1
theorem zc0 : qa xr6.eq_1 := qc
theorem zc1 : qa xr7.eq_1 := qc
theorem zc2 : qa xr8.eq_1 := qc
theorem zc3 : qa xr9.eq_1 := qc
attribute [go_sem] zc0 zc1 zc2 zc3 e22
def q8m : List SOper := [
 ⟨some 1, .box 2 (.t 0), none⟩,
 ⟨some 2, .alloc 1 [(.d .nilsl), (.d (.int .i64 0))], none⟩]
def q8n : List SOper := [
 ⟨some 3, .faddr 0 (.t 1), none⟩,
 ⟨some 4, .load none (.t 3), none⟩,
 ⟨some 5, .call (.k (.d (.func (.func 63) [] []))) [(.t 4)], none⟩,
 ⟨some 6, .faddr 0 (.t 1), none⟩,
 ⟨some 7, .load none (.t 6), none⟩,
 ⟨some 8, .len (.t 7), none⟩,
 ⟨some 9, .build [.nilsl, (.int .i64 0)] [(0, 1, (.t 5)), (1, 1, (.t 8))], none⟩,
 ⟨none, .store (some 2) (.t 2) (.t 9), none⟩]
def s123 : SCode := (.seq (.region q8m 2 []) (.seq (.region q8n 0 [(2, 4)]) .ret))
theorem zls : qf s123.eq_1 := qg s123.eq_1
theorem xsa : qa q8m.eq_1 := qc
theorem xsb : qa q8n.eq_1 := qc
attribute [go_sem] xsa xsb zls
def xsc : List SOper := [
 ⟨some 2, .mov (.k (.d (.int .i64 0))), none⟩]
def xsd : List SOper := [
 ⟨some 3, .mov (.t 0), none⟩,
 ⟨some 4, .eqnil false .ptr (.t 3), none⟩]
def xse : List SOper := [
 ⟨some 2, .mov (.k (.d (.int .i64 7))), none⟩]
def xsf : List SOper := [
 ⟨some 5, .mov (.t 0), none⟩,
 ⟨some 6, .mov (.t 0), none⟩,
 ⟨some 7, .nilCheck (.t 6), none⟩,
 ⟨some 8, .faddr 0 (.t 7), none⟩,
 ⟨some 9, .load (some 2) (.t 8), none⟩,
 ⟨some 10, .call (.k (.d (.func (.func 123) [] []))) [(.t 9)], none⟩,
 ⟨some 11, .nilCheck (.t 5), none⟩,
 ⟨some 12, .faddr 0 (.t 11), none⟩,
 ⟨none, .store (some 2) (.t 12) (.t 10), none⟩]
def xsg : List SOper := [
 ⟨some 2, .mov (.k (.d (.int .i64 0))), none⟩]
def s65 : SCode := (.seq (.region xsc 0 []) (.seq (.seq (.region xsd 0 []) (.cond (.t 4) (.seq (.region xse 0 []) .ret) .skip)) (.seq (.region xsf 0 []) (.seq (.region xsg 0 []) .ret))))
theorem e65 : qf s65.eq_1 := qg s65.eq_1
theorem zc5 : qa xsc.eq_1 := qc
theorem zc6 : qa xsd.eq_1 := qc
theorem zc7 : qa xse.eq_1 := qc
theorem zc8 : qa xsf.eq_1 := qc
theorem zc9 : qa xsg.eq_1 := qc
attribute [go_sem] zc5 zc6 zc7 zc8 zc9 e65
end
theorem xsh : ql Tryz.prog 10 [] [] (.d (.ptr 1 0)) [mapO qpv, stoO newS 0] := by
 refine F10.go ?_
 try (refine ev6 @mapO.eq_1 @stoO.eq_1 @qpv.eq_1 @newS.eq_1 @List.map_nil.{0,0} @xa ?_; try exact True.intro)
def xi (s : Sto) (l : List OpS) : Sto × Int :=
 if (xd l).2 ≠ 0 then (s, (xd l).2) else if (k7 s.m l).2 = false then (s, 28) else (⟨qcw s.file (xd l).1, s.synced, (k7 s.m l).1⟩, 0)
def qe5 (s : Sto) (l : List OpS) : List AObj := if (xi s l).2 = 0 then [stoO (xi s l).1 2, mapO s.m, mapO (xi s l).1.m] else [stoO s 1, mapO s.m, .none]
theorem qb6 (l : List OpS) : (xd l).1.length ≤ 2000 := by
 unfold xd
 split
 ·simp
 ·split
  ·simp
  ·rename_i h
   simp only [Bool.or_eq_true, decide_eq_true_eq, not_or] at h
   simp only; omega
theorem qb7 {l : List OpS} (h : (xd l).2 = 0) : l.length ≤ 20 ∧ (∀ o ∈ l, ji o = true) ∧ xd l = (wOps l, 0) := by
 unfold xd at h ⊢
 split at h
 ·simp at h
 ·rename_i h1
  split at h
  ·simp at h
  ·rename_i h2
   rw [if_neg h1, if_neg h2]
   simp only [Bool.or_eq_true, decide_eq_true_eq, not_or, List.any_eq_true, not_exists, not_and] at h1 h2
   exact ⟨by omega, fun o ho => by simpa using h1.2 o ho, rfl⟩
set_option maxRecDepth 10000 in
theorem qpw (s : Sto) (l : List OpS) (hl : l.length ≤ 100000) (hf : s.file.length ≤ 100000000) :
  ql Tryz.prog 14 [.d (.ptr 0 0), .d (.sl 3 (l.map qp))] [stoO s 1, mapO s.m] (.d (.int .i64 (xi s l).2)) (qe5 s l) := by
 refine F14.go ?_
 try (refine ev2 @stoO.eq_1 @mapO.eq_1 ?_; try exact True.intro)
 (repeat (with_reducible refine ob ?_)); refine no_ ?_
 try (refine ev ?_; try exact True.intro)
 (repeat (with_reducible refine ob ?_)); first | refine cl F50 (qc9 l hl) ?_ | refine clF F50 (qc9 l hl) (fun _ => by (refine ev1 @qp.eq_1 ?_; try exact True.intro)) ?_
 try (refine ev ?_; try exact True.intro)
 (repeat (with_reducible refine ob ?_)); refine ju _ (fun h => ?_) (fun h => ?_)
 ·have hne : (xd l).2 ≠ 0 := by simpa using h
  have hb : xi s l = (s, (xd l).2) := by unfold xi; rw [if_pos hne]
  have hb2 : qe5 s l = [stoO s 1, mapO s.m, .none] := by unfold qe5; rw [hb, if_neg hne]
  try (refine ev4 @hb @hb2 @stoO.eq_1 @mapO.eq_1 ?_; try exact True.intro)
 have he0 : (xd l).2 = 0 := by simpa using h
 obtain ⟨h20, hpr, henc⟩ := qb7 he0
 try (refine ev ?_; try exact True.intro)
 refine clO [1, 2] F51 (qy0 (s.m.l.map qan) s.m.c) ?_
 try (refine ev ?_; try exact True.intro)
 have hap := q34 s.m l hl (fun o ho => by have := (v7.1 (hpr o ho)).2.2.1; omega)
 simp only [mapO] at hap
 (repeat (with_reducible refine ob ?_)); refine clO [2] F52 (hap) ?_ (hfit := by first | exact ⟨qd, trivial⟩ | exact ⟨qd, qd, trivial⟩ | (refine ev1 @qp.eq_1 ?_; try exact True.intro))
 try (refine ev ?_; try exact True.intro)
 (repeat (with_reducible refine ob ?_)); refine ju _ (fun h => ?_) (fun h => ?_)
 ·have hb : xi s l = (s, 28) := by unfold xi; rw [if_neg (by simp [he0]), if_pos (by simpa using h)]
  have hb2 : qe5 s l = [stoO s 1, mapO s.m, .none] := by unfold qe5; rw [hb, if_neg (by simp)]
  try (refine ev4 @hb @hb2 @stoO.eq_1 @mapO.eq_1 ?_; try exact True.intro)
 have hb : xi s l = (⟨qcw s.file (xd l).1, s.synced, (k7 s.m l).1⟩, 0) := by unfold xi; rw [if_neg (by simp [he0]), if_neg (by simpa using h)]
 have hb2 : qe5 s l = [stoO (xi s l).1 2, mapO s.m, mapO (xi s l).1.m] := by unfold qe5; rw [if_pos (by rw [hb])]
 try (refine ev ?_; try exact True.intro)
 (repeat (with_reducible refine ob ?_)); first | refine cl F53 (qps s.file (xd l).1 s.synced hf (qb6 l)) ?_ | refine clF F53 (qps s.file (xd l).1 s.synced hf (qb6 l)) (fun _ => by (refine ev1 @qp.eq_1 ?_; try exact True.intro)) ?_
 try (refine ev5 @qaz.eq_1 @hb2 @hb @stoO.eq_1 @mapO.eq_1 ?_; try exact True.intro)
def optV (o : Option (List UInt8)) : List UInt8 := o.getD []
theorem xsi (s : Sto) (k : List UInt8) (hm : ∀ x ∈ s.m.l, x.2.2.length ≤ 1000000) :
  ql Tryz.prog 26 [.d (.ptr 0 0), .d (.str k)] [stoO s 1, mapO s.m] (.tup [.d (.sl 1 (qe (optV (mGet k s.m)))), .d (.bool (mGet k s.m).isSome)]) [stoO s 1, mapO s.m] := by
 refine F26.goT ?_
 try (refine ev2 @stoO.eq_1 @mapO.eq_1 ?_; try exact True.intro)
 (repeat (with_reducible refine ob ?_)); refine no_ ?_
 try (refine ev1 @qsj ?_; try exact True.intro)
 cases hg : mGet k s.m with
 | none =>
  try (refine ev1 @Option.map_none.{0,0} ?_; try exact True.intro)
  have := kz [] (by simp)
  simp only [xa] at this
  (repeat (with_reducible refine ob ?_)); first | refine cl F63 (this) ?_ | refine clF F63 (this) (fun _ => by (refine ev1 @qp.eq_1 ?_; try exact True.intro)) ?_
  try (refine ev4 @optV.eq_1 @Option.getD_none.{0} @xa @Option.isSome_none.{0} ?_; try exact True.intro)
 | some v =>
  have hv : v.length ≤ 1000000 := by
   unfold mGet at hg
   rw [Option.map_eq_some_iff] at hg
   obtain ⟨x, hx, rfl⟩ := hg
   exact hm x (List.mem_of_find?_eq_some hx)
  try (refine ev1 @Option.map_some.{0,0} ?_; try exact True.intro)
  (repeat (with_reducible refine ob ?_)); first | refine cl F63 (kz v (by omega)) ?_ | refine clF F63 (kz v (by omega)) (fun _ => by (refine ev1 @qp.eq_1 ?_; try exact True.intro)) ?_
  try (refine ev3 @optV.eq_1 @Option.getD_some.{0} @Option.isSome_some.{0} ?_; try exact True.intro)
end Go.Proofs.YtinnaedmdoengaaGreat
namespace Go.Proofs.YtinnaedmdoengaaGreat
open Go.Abs
set_option linter.unusedSimpArgs false
set_option linter.unusedVariables false
noncomputable section
set_option maxRecDepth 100000
def q8p : List SOper := [
 ⟨some 4, .mov (.k (.d .nilsl)), none⟩]
def q8q : List SOper := [
 ⟨some 7, .mov (.t 0), none⟩,
 ⟨some 8, .mov (.t 1), none⟩,
 ⟨some 9, .len (.t 8), none⟩,
 ⟨some 10, .call (.k (.d (.func (.func 91) [] []))) [(.t 7), (.t 9)], none⟩,
 ⟨some 0, .mov (.t 10), none⟩]
def q8r : List SOper := [
 ⟨some 11, .mov (.t 1), none⟩,
 ⟨some 12, .len (.t 11), none⟩,
 ⟨some 13, .mov (.k (.d (.int .i64 0))), none⟩]
def q8s : List SOper := [
 ⟨some 14, .bin .lss (.t 13) (.t 12), none⟩]
def q8t : List SOper := [
 ⟨some 15, .iaddr 1 (.t 11) (.t 13), none⟩,
 ⟨some 16, .load none (.t 15), none⟩,
 ⟨some 6, .mov (.t 16), none⟩]
def q8u : List SOper := [
 ⟨some 17, .mov (.t 0), none⟩,
 ⟨some 18, .mov (.t 6), none⟩,
 ⟨some 19, .call (.k (.d (.func (.func 91) [] []))) [(.t 17), (.t 18)], none⟩,
 ⟨some 0, .mov (.t 19), none⟩]
def q8v : List SOper := [
 ⟨some 20, .bin .add (.t 13) (.k (.d (.int .i64 1))), none⟩,
 ⟨some 13, .mov (.t 20), none⟩]
def qy2 : SCode := (.seq (.region q8s 0 []) (.seq (.cond (.t 14) .skip (.exit 0)) (.seq (.block 1 (.seq (.region q8t 0 []) (.region q8u 0 []))) (.region q8v 0 []))))
theorem xsm : qf qy2.eq_1 := qg qy2.eq_1
def q8w : List SOper := [
 ⟨some 21, .mov (.t 0), none⟩,
 ⟨some 4, .mov (.t 21), none⟩]
def s145 : SCode := (.seq (.region q8p 0 []) (.seq (.region q8q 0 []) (.seq (.seq (.region q8r 0 []) (.block 0 (.loop qy2))) (.seq (.region q8w 0 []) .ret))))
theorem zlt : qf s145.eq_1 := qg s145.eq_1
theorem xsn : qa q8p.eq_1 := qc
theorem xso : qa q8q.eq_1 := qc
theorem xsp : qa q8r.eq_1 := qc
theorem xsq : qa q8s.eq_1 := qc
theorem xsr : qa q8t.eq_1 := qc
theorem xss : qa q8u.eq_1 := qc
theorem xst : qa q8v.eq_1 := qc
theorem xsu : qa q8w.eq_1 := qc
attribute [go_sem] xsn xso xsp xsq xsr xss xst xsm xsu zlt
theorem zj5 : FnIs Tryz.prog 145 Tryz.f145 [] news s145 [.tmp 4] 22 := xo follows Tryz.func145
def q8x : List SOper := [
 ⟨some 3, .box 1 (.t 1), none⟩,
 ⟨some 4, .mov (.k (.d .nilsl)), none⟩]
def q8y : List SOper := [
 ⟨some 5, .mov (.t 0), none⟩,
 ⟨some 6, .faddr 0 (.t 3), none⟩,
 ⟨some 7, .load none (.t 6), none⟩,
 ⟨some 8, .call (.k (.d (.func (.func 91) [] []))) [(.t 5), (.t 7)], none⟩,
 ⟨some 0, .mov (.t 8), none⟩]
def q8z : List SOper := [
 ⟨some 9, .faddr 0 (.t 3), none⟩,
 ⟨some 10, .load none (.t 9), none⟩]
def q80 : List SOper := [
 ⟨some 12, .bin .eql (.t 10) (.k (.d (.int .i64 1))), none⟩,
 ⟨some 11, .mov (.t 12), none⟩]
def q81 : List SOper := [
 ⟨some 13, .mov (.t 0), none⟩,
 ⟨some 14, .faddr 1 (.t 3), none⟩,
 ⟨some 15, .load none (.t 14), none⟩,
 ⟨some 16, .call (.k (.d (.func (.func 91) [] []))) [(.t 13), (.t 15)], none⟩,
 ⟨some 4, .mov (.t 16), none⟩]
def q82 : List SOper := [
 ⟨some 18, .bin .eql (.t 10) (.k (.d (.int .i64 2))), none⟩,
 ⟨some 17, .mov (.t 18), none⟩]
def q83 : List SOper := [
 ⟨some 19, .mov (.t 0), none⟩,
 ⟨some 20, .faddr 2 (.t 3), none⟩,
 ⟨some 21, .load none (.t 20), none⟩,
 ⟨some 22, .call (.k (.d (.func (.func 99) [] []))) [(.t 19), (.t 21)], none⟩,
 ⟨some 4, .mov (.t 22), none⟩]
def q84 : List SOper := [
 ⟨some 23, .mov (.t 0), none⟩,
 ⟨some 4, .mov (.t 23), none⟩]
def s195 : SCode := (.seq (.region q8x 1 []) (.seq (.region q8y 0 []) (.seq (.seq (.region q8z 0 []) (.block 0 (.seq (.region q80 0 []) (.cond (.t 11) (.seq (.region q81 0 []) .ret) (.seq (.region q82 0 []) (.cond (.t 17) (.seq (.region q83 0 []) .ret) .skip)))))) (.seq (.region q84 0 []) .ret))))
theorem zlu : qf s195.eq_1 := qg s195.eq_1
theorem xsv : qa q8x.eq_1 := qc
theorem xsw : qa q8y.eq_1 := qc
theorem xsx : qa q8z.eq_1 := qc
theorem xsy : qa q80.eq_1 := qc
theorem xsz : qa q81.eq_1 := qc
theorem xs0 : qa q82.eq_1 := qc
theorem xs1 : qa q83.eq_1 := qc
theorem xs2 : qa q84.eq_1 := qc
attribute [go_sem] xsv xsw xsx xsy xsz xs0 xs1 xs2 zlu
theorem zj6 : FnIs Tryz.prog 195 Tryz.f195 [] news s195 [.tmp 4] 24 := xo follows Tryz.func195
def q85 : List SOper := [
 ⟨some 4, .mov (.k (.d .nilsl)), none⟩]
def q86 : List SOper := [
 ⟨some 7, .mov (.t 0), none⟩,
 ⟨some 8, .mov (.t 1), none⟩,
 ⟨some 9, .len (.t 8), none⟩,
 ⟨some 10, .call (.k (.d (.func (.func 91) [] []))) [(.t 7), (.t 9)], none⟩,
 ⟨some 0, .mov (.t 10), none⟩]
def q87 : List SOper := [
 ⟨some 11, .mov (.t 1), none⟩,
 ⟨some 12, .len (.t 11), none⟩,
 ⟨some 13, .mov (.k (.d (.int .i64 0))), none⟩]
def q88 : List SOper := [
 ⟨some 14, .bin .lss (.t 13) (.t 12), none⟩]
def q89 : List SOper := [
 ⟨some 15, .iaddr 3 (.t 11) (.t 13), none⟩,
 ⟨some 16, .load (some 3) (.t 15), none⟩,
 ⟨some 6, .alloc 1 [(.d (.int .i64 0)), (.d (.int .i64 0)), (.d (.str []))], none⟩,
 ⟨none, .store (some 3) (.t 6) (.t 16), none⟩]
def q9a : List SOper := [
 ⟨some 17, .mov (.t 0), none⟩,
 ⟨some 18, .load (some 3) (.t 6), none⟩,
 ⟨some 19, .call (.k (.d (.func (.func 195) [] []))) [(.t 17), (.t 18)], none⟩,
 ⟨some 0, .mov (.t 19), none⟩]
def q9b : List SOper := [
 ⟨some 20, .bin .add (.t 13) (.k (.d (.int .i64 1))), none⟩,
 ⟨some 13, .mov (.t 20), none⟩]
def qy3 : SCode := (.seq (.region q88 0 []) (.seq (.cond (.t 14) .skip (.exit 0)) (.seq (.block 1 (.seq (.region q89 1 []) (.region q9a 0 []))) (.region q9b 0 []))))
theorem xs3 : qf qy3.eq_1 := qg qy3.eq_1
def q9c : List SOper := [
 ⟨some 21, .mov (.t 0), none⟩,
 ⟨some 4, .mov (.t 21), none⟩]
def s146 : SCode := (.seq (.region q85 0 []) (.seq (.region q86 0 []) (.seq (.seq (.region q87 0 []) (.block 0 (.loop qy3))) (.seq (.region q9c 0 []) .ret))))
theorem zlv : qf s146.eq_1 := qg s146.eq_1
theorem xs4 : qa q85.eq_1 := qc
theorem xs5 : qa q86.eq_1 := qc
theorem xs6 : qa q87.eq_1 := qc
theorem xs7 : qa q88.eq_1 := qc
theorem xs8 : qa q89.eq_1 := qc
theorem xs9 : qa q9a.eq_1 := qc
theorem xta : qa q9b.eq_1 := qc
theorem xtb : qa q9c.eq_1 := qc
attribute [go_sem] xs4 xs5 xs6 xs7 xs8 xs9 xta xs3 xtb zlv
theorem zj7 : FnIs Tryz.prog 146 Tryz.f146 [] news s146 [.tmp 4] 22 := xo follows Tryz.func146
def q9d : List SOper := [
 ⟨some 2, .mov (.k (.d (.int .u64 0))), none⟩]
def q9e : List SOper := [
 ⟨some 3, .mov (.t 0), none⟩,
 ⟨some 4, .call (.k (.d (.func (.func 151) [] []))) [(.k (.d (.int .u64 14695981039346656037))), (.t 3)], none⟩,
 ⟨some 2, .mov (.t 4), none⟩]
def s154 : SCode := (.seq (.region q9d 0 []) (.seq (.region q9e 0 []) .ret))
theorem zlw : qf s154.eq_1 := qg s154.eq_1
theorem xtc : qa q9d.eq_1 := qc
theorem xtd : qa q9e.eq_1 := qc
attribute [go_sem] xtc xtd zlw
theorem xte : FnIs Tryz.prog 154 Tryz.f154 [] news s154 [.tmp 2] 5 := xo follows Tryz.func154
def q9f : List SOper := [
 ⟨some 2, .alloc 1 [(.d (.int .u8 0)), (.d (.int .u8 0)), (.d (.int .u8 0)), (.d (.int .u8 0)), (.d (.int .u8 0)), (.d (.int .u8 0)), (.d (.int .u8 0)), (.d (.int .u8 0))], none⟩]
def q9g : List SOper := [
 ⟨some 3, .alloc 1 [(.d (.int .u8 0)), (.d (.int .u8 0)), (.d (.int .u8 0)), (.d (.int .u8 0)), (.d (.int .u8 0)), (.d (.int .u8 0)), (.d (.int .u8 0)), (.d (.int .u8 0))], none⟩]
def q9h : List SOper := [
 ⟨some 5, .mov (.k (.d (.int .i64 0))), none⟩]
def q9i : List SOper := [
 ⟨some 6, .bin .lss (.t 5) (.k (.d (.int .i64 8))), none⟩]
def q9j : List SOper := [
 ⟨some 7, .mov (.t 5), none⟩,
 ⟨some 4, .mov (.t 7), none⟩]
def q9k : List SOper := [
 ⟨some 8, .mov (.t 4), none⟩,
 ⟨some 9, .mov (.t 0), none⟩,
 ⟨some 10, .mov (.t 4), none⟩,
 ⟨some 11, .bin .sub (.k (.d (.int .i64 7))) (.t 10), none⟩,
 ⟨some 12, .bin .mul (.k (.d (.int .i64 8))) (.t 11), none⟩,
 ⟨some 13, .bin .shr (.t 9) (.t 12), none⟩,
 ⟨some 14, .conv .u8 (.t 13), none⟩,
 ⟨some 15, .iaddrA 8 1 (.t 3) (.t 8), none⟩,
 ⟨none, .store none (.t 15) (.t 14), none⟩]
def q9l : List SOper := [
 ⟨some 16, .bin .add (.t 5) (.k (.d (.int .i64 1))), none⟩,
 ⟨some 5, .mov (.t 16), none⟩]
def qy4 : SCode := (.seq (.region q9i 0 []) (.seq (.cond (.t 6) .skip (.exit 0)) (.seq (.block 1 (.seq (.region q9j 0 []) (.region q9k 0 []))) (.region q9l 0 []))))
theorem xtf : qf qy4.eq_1 := qg qy4.eq_1
def q9m : List SOper := [
 ⟨some 17, .load (some 8) (.t 3), none⟩,
 ⟨none, .store (some 8) (.t 2) (.t 17), none⟩]
def s153 : SCode := (.seq (.region q9f 1 []) (.seq (.region q9g 1 []) (.seq (.seq (.region q9h 0 []) (.block 0 (.loop qy4))) (.seq (.region q9m 0 []) .ret))))
theorem zlx : qf s153.eq_1 := qg s153.eq_1
theorem xtg : qa q9f.eq_1 := qc
theorem xth : qa q9g.eq_1 := qc
theorem xti : qa q9h.eq_1 := qc
theorem xtj : qa q9i.eq_1 := qc
theorem xtk : qa q9j.eq_1 := qc
theorem xtl : qa q9k.eq_1 := qc
theorem xtm : qa q9l.eq_1 := qc
theorem xtn : qa q9m.eq_1 := qc
attribute [go_sem] xtg xth xti xtj xtk xtl xtm xtf xtn zlx
theorem xto : FnIs Tryz.prog 153 Tryz.f153 [] news s153 [.cell 2 (some 8)] 18 := xo follows Tryz.func153
def q9n : List SOper := [
 ⟨some 2, .mov (.k (.d .nilsl)), none⟩]
def q9o : List SOper := [
 ⟨some 4, .mov (.t 0), none⟩,
 ⟨some 5, .call (.k (.d (.func (.func 154) [] []))) [(.t 4)], none⟩,
 ⟨some 6, .call (.k (.d (.func (.func 153) [] []))) [(.t 5)], none⟩,
 ⟨some 3, .alloc 1 [(.d (.int .u8 0)), (.d (.int .u8 0)), (.d (.int .u8 0)), (.d (.int .u8 0)), (.d (.int .u8 0)), (.d (.int .u8 0)), (.d (.int .u8 0)), (.d (.int .u8 0))], none⟩,
 ⟨none, .store (some 8) (.t 3) (.t 6), none⟩]
def q9p : List SOper := [
 ⟨some 7, .mov (.t 0), none⟩,
 ⟨some 8, .len (.t 7), none⟩,
 ⟨some 9, .bin .add (.t 8) (.k (.d (.int .i64 8))), none⟩,
 ⟨some 10, .makeSlice false 1 1 [(.int .u8 0)] (.k (.d (.int .i64 0))) (.t 9), none⟩,
 ⟨some 11, .mov (.t 0), none⟩,
 ⟨some 12, .append false 1 1 (.t 10) (.t 11), none⟩,
 ⟨some 13, .sliceA 8 1 (.t 3) none none none, none⟩,
 ⟨some 14, .append false 1 1 (.t 12) (.t 13), none⟩,
 ⟨some 2, .mov (.t 14), none⟩]
def s144 : SCode := (.seq (.region q9n 0 []) (.seq (.region q9o 1 []) (.seq (.region q9p 0 []) .ret)))
theorem zly : qf s144.eq_1 := qg s144.eq_1
theorem xtp : qa q9n.eq_1 := qc
theorem xtq : qa q9o.eq_1 := qc
theorem xtr : qa q9p.eq_1 := qc
attribute [go_sem] xtp xtq xtr zly
theorem zdb : FnIs Tryz.prog 144 Tryz.f144 [] news s144 [.tmp 2] 15 := xo follows Tryz.func144
def xts : List SOper := [
 ⟨some 1, .box 1 (.t 0), none⟩,
 ⟨some 2, .mov (.k (.d .nilsl)), none⟩,
 ⟨some 3, .mov (.k (.d (.int .i64 0))), none⟩]
def xtt : List SOper := [
 ⟨some 7, .load (some 9) (.t 1), none⟩,
 ⟨some 8, .call (.k (.d (.func (.func 110) [] []))) [(.t 7)], none⟩,
 ⟨some 9, .not (.t 8), none⟩]
def xtu : List SOper := [
 ⟨some 2, .mov (.k (.d .nilsl)), none⟩,
 ⟨some 3, .mov (.k (.d (.int .i64 1))), none⟩]
def xtv : List SOper := [
 ⟨some 4, .mov (.k (.d .nilsl)), none⟩]
def xtw : List SOper := [
 ⟨some 10, .faddr 0 (.t 1), none⟩,
 ⟨some 11, .load none (.t 10), none⟩,
 ⟨some 12, .faddr 1 (.t 1), none⟩,
 ⟨some 13, .load none (.t 12), none⟩,
 ⟨some 14, .faddr 2 (.t 1), none⟩,
 ⟨some 15, .load none (.t 14), none⟩,
 ⟨some 16, .faddr 3 (.t 1), none⟩,
 ⟨some 17, .load none (.t 16), none⟩,
 ⟨some 18, .faddr 4 (.t 1), none⟩,
 ⟨some 19, .load none (.t 18), none⟩,
 ⟨some 20, .faddr 5 (.t 1), none⟩,
 ⟨some 21, .load none (.t 20), none⟩,
 ⟨some 22, .faddr 6 (.t 1), none⟩,
 ⟨some 23, .load none (.t 22), none⟩,
 ⟨some 24, .buildSlice false 1 7 [(.int .i64 0)] [(0, 1, (.t 11)), (1, 1, (.t 13)), (2, 1, (.t 15)), (3, 1, (.t 17)), (4, 1, (.t 19)), (5, 1, (.t 21)), (6, 1, (.t 23))], none⟩,
 ⟨some 25, .len (.t 24), none⟩,
 ⟨some 26, .mov (.k (.d (.int .i64 0))), none⟩]
def xtx : List SOper := [
 ⟨some 27, .bin .lss (.t 26) (.t 25), none⟩]
def xty : List SOper := [
 ⟨some 28, .iaddr 1 (.t 24) (.t 26), none⟩,
 ⟨some 29, .load none (.t 28), none⟩,
 ⟨some 6, .mov (.t 29), none⟩]
def xtz : List SOper := [
 ⟨some 30, .mov (.t 4), none⟩,
 ⟨some 31, .mov (.t 6), none⟩,
 ⟨some 32, .call (.k (.d (.func (.func 91) [] []))) [(.t 30), (.t 31)], none⟩,
 ⟨some 4, .mov (.t 32), none⟩]
def xt0 : List SOper := [
 ⟨some 33, .bin .add (.t 26) (.k (.d (.int .i64 1))), none⟩,
 ⟨some 26, .mov (.t 33), none⟩]
def xik : SCode := (.seq (.region xtx 0 []) (.seq (.cond (.t 27) .skip (.exit 0)) (.seq (.block 1 (.seq (.region xty 0 []) (.region xtz 0 []))) (.region xt0 0 []))))
theorem zdc : qf xik.eq_1 := qg xik.eq_1
def q9q : List SOper := [
 ⟨some 34, .mov (.t 4), none⟩,
 ⟨some 35, .faddr 7 (.t 1), none⟩,
 ⟨some 36, .load none (.t 35), none⟩,
 ⟨some 37, .call (.k (.d (.func (.func 146) [] []))) [(.t 34), (.t 36)], none⟩,
 ⟨some 38, .faddr 8 (.t 1), none⟩,
 ⟨some 39, .load none (.t 38), none⟩,
 ⟨some 40, .call (.k (.d (.func (.func 145) [] []))) [(.t 37), (.t 39)], none⟩,
 ⟨some 41, .call (.k (.d (.func (.func 144) [] []))) [(.t 40)], none⟩,
 ⟨some 2, .mov (.t 41), none⟩,
 ⟨some 3, .mov (.k (.d (.int .i64 0))), none⟩]
def s92 : SCode := (.seq (.region xts 1 []) (.seq (.seq (.region xtt 0 []) (.cond (.t 9) (.seq (.region xtu 0 []) .ret) .skip)) (.seq (.region xtv 0 []) (.seq (.seq (.region xtw 0 []) (.block 0 (.loop xik))) (.seq (.region q9q 0 [(3, 5)]) .ret)))))
theorem e92 : qf s92.eq_1 := qg s92.eq_1
theorem zdd : qa xts.eq_1 := qc
theorem zde : qa xtt.eq_1 := qc
theorem zdf : qa xtu.eq_1 := qc
theorem zdg : qa xtv.eq_1 := qc
theorem zdh : qa xtw.eq_1 := qc
theorem zdi : qa xtx.eq_1 := qc
theorem zdj : qa xty.eq_1 := qc
theorem zdk : qa xtz.eq_1 := qc
theorem zdl : qa xt0.eq_1 := qc
theorem xt1 : qa q9q.eq_1 := qc
attribute [go_sem] zdd zde zdf zdg zdh zdi zdj zdk zdl zdc xt1 e92
theorem F92 : FnIs Tryz.prog 92 Tryz.f92 [] news s92 [.tmp 2, .tmp 3] 42 := xo follows Tryz.func92
end
theorem wp {α : Type} (f : α → List UInt8) (k : Nat) : ∀ l : List α, (∀ x ∈ l, (f x).length ≤ k) → (l.flatMap f).length ≤ l.length * k
 | [], _ => by simp
 | x :: l, h => by
  have h1 := wp f k l fun y hy => h y (by simp [hy])
  have h2 := h x (by simp)
  simp only [List.flatMap_cons, List.length_append, List.length_cons, Nat.succ_mul]; omega
def qgc (l : List Int) : List UInt8 := wInt l.length ++ l.flatMap wInt
def qtw (b : List UInt8) (l : List Int) (i : Nat) : St :=
 ⟨[(0, true, .own 0 1 (qe (b ++ (wInt l.length ++ (l.take i).flatMap wInt)))), (11, true, .d (.sl 1 (l.map encI))), (12, true, .d (.int .i64 l.length)), (13, true, .d (.int .i64 (i : Nat)))], [], [0], 1⟩
theorem qsk (b : List UInt8) (l : List Int) (hb : b.length ≤ 100000000) (hl : l.length ≤ 1000) (hi : ∀ x ∈ l, I64 x) :
  ql Tryz.prog 145 [.own 0 1 (qe b), .d (.sl 1 (l.map encI))] [] (.own 0 1 (qe (b ++ qgc l))) [] := by
 have hw := x7 (xz (n := l.length) (by omega))
 refine zj5.go ?_
 try (refine ev ?_; try exact True.intro)
 refine clA F91 (jp b l.length (by omega) (xz (by omega))) ?_
 try (refine ev ?_; try exact True.intro)
 refine qv (fun i : { i : Nat // i ≤ l.length } => qtw b l i.val) (fun i => l.length - i.val) ⟨0, Nat.zero_le _⟩ ?_ (fun i => ?_)
 ·try (refine ev5 @qtw.eq_1 @List.take_zero.{0} @List.flatMap_nil.{0,0} @List.append_nil.{0} @Int.ofNat_zero ?_; try exact True.intro)
 obtain ⟨i, hi2⟩ := i
 try (refine ev1 @qtw.eq_1 ?_; try exact True.intro)
 refine ju _ (fun hc => ?_) (fun hc => ?_)
 ·have hil : i < l.length := by simpa using hc
  have hfl := wp wInt 10 (l.take i) fun x hx => x7 (hi x (List.mem_of_mem_take hx))
  have htk : (l.take i).length ≤ i := by rw [List.length_take]; omega
  have hfl2 : ((l.take i).flatMap wInt).length ≤ 10000 := by omega
  have hsn := qcs wInt l hil
  try (refine ev2 (qz encI l hil) @encI.eq_1 ?_; try exact True.intro)
  (repeat (with_reducible refine ob ?_))
  refine clA F91 (jp (b ++ (wInt l.length ++ (l.take i).flatMap wInt)) l[i] (by simp only [List.length_append]; omega) (hi _ (List.getElem_mem hil))) ?_
  try (refine ev ?_; try exact True.intro)
  refine ⟨⟨i + 1, hil⟩, ?_, by dsimp only; omega⟩
  try (refine ev4 @qtw.eq_1 @hsn @List.append_assoc.{0} (qr (show i < 9223372036854775807 by omega)) ?_; try exact True.intro)
 ·have hie : i = l.length := by
   have : l.length ≤ i := by simpa using hc
   omega
  subst hie
  try (refine ev2 @List.take_length.{0} @qgc.eq_1 ?_; try exact True.intro)
def wAV (v : AV) : List UInt8 := wInt v.kind ++ (if v.kind = 1 then wInt v.n else if v.kind = 2 then ww v.s else [])
def AV.Sm (v : AV) : Prop := I64 v.kind ∧ I64 v.n ∧ v.s.length ≤ 1000000
theorem qy5 {v : AV} (h : v.Sm) : (wAV v).length ≤ 1000020 := by
 obtain ⟨h1, h2, h3⟩ := h
 have a1 := x7 h1
 have a2 := x7 h2
 have a3 := qbi v.s (by omega)
 unfold wAV
 rw [List.length_append]
 split
 ·omega
 ·split
  ·omega
  ·simp only [List.length_nil]; omega
theorem qpx (b : List UInt8) (v : AV) (hb : b.length ≤ 100000000) (hv : v.Sm) :
  ql Tryz.prog 195 [.own 0 1 (qe b), .d (.agg (xg v))] [] (.own 0 1 (qe (b ++ wAV v))) [] := by
 obtain ⟨h1, h2, h3⟩ := hv
 have a1 := x7 h1
 refine zj6.go ?_
 try (refine ev1 @xg.eq_1 ?_; try exact True.intro)
 refine clA F91 (jp b v.kind (by omega) h1) ?_
 try (refine ev ?_; try exact True.intro)
 refine ju _ (fun hc => ?_) (fun hc => ?_)
 ·have hk : v.kind = 1 := by simpa using hc
  have e : wAV v = wInt v.kind ++ wInt v.n := by rw [wAV, if_pos hk]
  try (refine ev ?_; try exact True.intro)
  refine clA F91 (jp (b ++ wInt v.kind) v.n (by rw [List.length_append]; omega) h2) ?_
  try (refine ev2 @e @List.append_assoc.{0} ?_; try exact True.intro)
 ·have hk : v.kind ≠ 1 := by simpa using hc
  try (refine ev ?_; try exact True.intro)
  refine ju _ (fun hd => ?_) (fun hd => ?_)
  ·have hk2 : v.kind = 2 := by simpa using hd
   have e : wAV v = wInt v.kind ++ ww v.s := by rw [wAV, if_neg hk, if_pos hk2]
   try (refine ev ?_; try exact True.intro)
   refine clA F99 (qjd (b ++ wInt v.kind) v.s (by rw [List.length_append]; omega)) ?_
   try (refine ev2 @e @List.append_assoc.{0} ?_; try exact True.intro)
  ·have hk2 : v.kind ≠ 2 := by simpa using hd
   have e : wAV v = wInt v.kind := by rw [wAV, if_neg hk, if_neg hk2, List.append_nil]
   try (refine ev1 @e ?_; try exact True.intro)
def wAVs (l : List AV) : List UInt8 := wInt l.length ++ l.flatMap wAV
def q35 (b : List UInt8) (l : List AV) (i : Nat) : St :=
 ⟨[(0, true, .own 0 1 (qe (b ++ (wInt l.length ++ (l.take i).flatMap wAV)))), (11, true, .d (.sl 3 (l.map xg))), (12, true, .d (.int .i64 l.length)), (13, true, .d (.int .i64 (i : Nat)))], [], [0], 1⟩
theorem qna (b : List UInt8) (l : List AV) (hb : b.length ≤ 10000000) (hl : l.length ≤ 50) (hi : ∀ x ∈ l, x.Sm) :
  ql Tryz.prog 146 [.own 0 1 (qe b), .d (.sl 3 (l.map xg))] [] (.own 0 1 (qe (b ++ wAVs l))) [] := by
 have hw := x7 (xz (n := l.length) (by omega))
 refine zj7.go ?_
 try (refine ev ?_; try exact True.intro)
 refine clA F91 (jp b l.length (by omega) (xz (by omega))) ?_
 try (refine ev ?_; try exact True.intro)
 refine qv (fun i : { i : Nat // i ≤ l.length } => q35 b l i.val) (fun i => l.length - i.val) ⟨0, Nat.zero_le _⟩ ?_ (fun i => ?_)
 ·try (refine ev5 @q35.eq_1 @List.take_zero.{0} @List.flatMap_nil.{0,0} @List.append_nil.{0} @Int.ofNat_zero ?_; try exact True.intro)
 obtain ⟨i, hi2⟩ := i
 try (refine ev1 @q35.eq_1 ?_; try exact True.intro)
 refine ju _ (fun hc => ?_) (fun hc => ?_)
 ·have hil : i < l.length := by simpa using hc
  have hfl := wp wAV 1000020 (l.take i) fun x hx => qy5 (hi x (List.mem_of_mem_take hx))
  have htk : (l.take i).length ≤ i := by rw [List.length_take]; omega
  have hfl2 : ((l.take i).flatMap wAV).length ≤ 60000000 := by omega
  have hsn := qcs wAV l hil
  try (refine ev2 (qz xg l hil) @xg.eq_1 ?_; try exact True.intro)
  (repeat (with_reducible refine ob ?_))
  have hva := qpx (b ++ (wInt l.length ++ (l.take i).flatMap wAV)) l[i] (by simp only [List.length_append]; omega) (hi _ (List.getElem_mem hil))
  simp only [xg] at hva
  refine clA zj6 hva ?_
  try (refine ev ?_; try exact True.intro)
  refine ⟨⟨i + 1, hil⟩, ?_, by dsimp only; omega⟩
  try (refine ev4 @q35.eq_1 @hsn @List.append_assoc.{0} (qr (show i < 9223372036854775807 by omega)) ?_; try exact True.intro)
 ·have hie : i = l.length := by
   have : l.length ≤ i := by simpa using hc
   omega
  subst hie
  try (refine ev2 @List.take_length.{0} @wAVs.eq_1 ?_; try exact True.intro)
theorem qhx (s : List UInt8) (hl : s.length ≤ 1000000000) : ql Tryz.prog 154 [.d (.sl 1 (qe s))] [] (.d (.int .u64 (fnv 14695981039346656037 s : Nat))) [] := by
 have h0 := qyq 14695981039346656037 s (by decide) hl
 refine xte.go ?_
 try (refine ev ?_; try exact True.intro)
 (repeat (with_reducible refine ob ?_)); first | refine cl xkd (h0) ?_ | refine clF xkd (h0) (fun _ => by (refine ev3 @xg.eq_1 @encI.eq_1 @qi.eq_1 ?_; try exact True.intro)) ?_
 try (refine ev ?_; try exact True.intro)
def Seig (h : Nat) (i : { i : Nat // i ≤ 8 }) : St :=
 ⟨[(0, true, .d (.int .u64 (h : Nat))), (2, true, .d (.ptr 0 0)), (3, true, .d (.ptr 1 0)), (5, true, .d (.int .i64 (i.val : Nat)))], [.row ((List.replicate 8 (D.int .u8 0)).map .d), .row ((((be8 h).take i.val ++ List.replicate (8 - i.val) 0).map zh).map .d)], [], 1⟩
theorem qhy (h : Nat) (hh : h < 18446744073709551616) : ql Tryz.prog 153 [.d (.int .u64 h)] [] (.d (.agg ((be8 h).map zh))) [] := by
 refine xto.go ?_
 try (refine ev ?_; try exact True.intro)
 refine qv (Seig h) (fun i => 8 - i.val) ⟨0, Nat.zero_le _⟩ ?_ (fun i => ?_)
 ·try (refine ev3 @Seig.eq_1 @List.take_zero.{0} @qf8 ?_; try exact True.intro)
 obtain ⟨i, hi⟩ := i
 try (refine ev1 @Seig.eq_1 ?_; try exact True.intro)
 refine ju _ (fun hc => ?_) (fun hc => ?_)
 ·have hil : i < 8 := by simp at hc; omega
  have e1 : IntKind.i64.wrap (7 - (i : Int)) = 7 - i := ze (by unfold I64; omega)
  have e2 : IntKind.i64.wrap (8 * (7 - (i : Int))) = 8 * (7 - i) := ze (by unfold I64; omega)
  have hlen := ky h
  try simp only [Nat.mul_one, qm3 _ _ hil, yy, qsg _ hil, e1, e2, List.length_take, List.length_replicate, go_sem, Nat.reduceAdd, Nat.reduceMul, Nat.reduceSub, Nat.reduceEqDiff, Nat.reduceLT, Nat.reduceLeDiff, Nat.reduceBEq, reduceIte, reduceCtorEq, Int.reduceAdd, Int.reduceLT, Int.reduceLE, Int.reduceGT, Int.reduceGE, Int.reduceEq, Int.reduceNe, Int.reduceBEq, Int.reduceBNe, Int.reduceToNat, Int.reduceNeg]
  (repeat (with_reducible refine ob ?_))
  refine ⟨⟨i + 1, hil⟩, ?_, by dsimp only; omega⟩
  try (refine ev2 @Seig.eq_1 (qr (show i < 9223372036854775807 by omega)) ?_; try exact True.intro)
 ·have hie : i = 8 := by simp at hc; omega
  subst hie
  try (refine ev3 @qsh @be8.eq_1 @zh.eq_1 ?_; try exact True.intro)
def qcx (s : List UInt8) : List UInt8 := s ++ be8 (fnv 14695981039346656037 s)
theorem qy6 (s : List UInt8) (hl : s.length ≤ 100000000) : ql Tryz.prog 144 [.d (.sl 1 (qe s))] [] (.d (.sl 1 (qe (qcx s)))) [] := by
 have hlt := qpi (h := 14695981039346656037) (by decide) s
 refine zdb.go ?_
 try (refine ev ?_; try exact True.intro)
 (repeat (with_reducible refine ob ?_)); first | refine cl xte (qhx s (by omega)) ?_ | refine clF xte (qhx s (by omega)) (fun _ => by (refine ev3 @xg.eq_1 @encI.eq_1 @qi.eq_1 ?_; try exact True.intro)) ?_
 try (refine ev ?_; try exact True.intro)
 have hw : IntKind.i64.wrap ((s.length : Int) + 8) = ((s.length + 8 : Nat) : Int) := by rw [ze (by unfold I64; omega)]; omega
 (repeat (with_reducible refine ob ?_)); first | refine cl xto (qhy _ hlt) ?_ | refine clF xto (qhy _ hlt) (fun _ => by (refine ev3 @xg.eq_1 @encI.eq_1 @qi.eq_1 ?_; try exact True.intro)) ?_
 generalize hh : fnv 14695981039346656037 s = h
 have hr : vk [AObj.row (((be8 h).map zh).map ASlot.d)] 0 0 1 8 = qe (be8 h) := qgb rfl (ky _)
 have h8 := ky h
 have hs : qe s ++ qe (be8 h) = qe (qcx s) := by rw [xk, qcx, hh]
 try (refine ev6 @hw @qpq @qjk @ky @hr @hs ?_; try exact True.intro)
 (repeat (with_reducible refine ob ?_))
 omega
def zr (p : Pk) : List Int := [p.kind, p.sess, p.epoch, p.from_, p.to, p.seq, p.label]
def jq (p : Pk) : List UInt8 := (zr p).flatMap wInt ++ wAVs p.values ++ qgc p.clock
def vm (p : Pk) : List UInt8 × Int := if xc p then (qcx (jq p), 0) else ([], 1)
structure Pk.W (p : Pk) : Prop where
 h : ∀ x ∈ zr p, I64 x
 v : ∀ x ∈ p.values, x.Sm
 c : ∀ x ∈ p.clock, I64 x
def q36 (p : Pk) (i : Nat) : St :=
 ⟨[(1, true, .d (.ptr 0 0)), (4, true, .own 0 1 (qe (((zr p).take i).flatMap wInt))), (24, true, .d (.sl 1 ((zr p).map encI))), (25, true, .d (.int .i64 7)), (26, true, .d (.int .i64 (i : Nat)))], [.row ((qi p).map .d)], [0], 1⟩
theorem qjl {p : Pk} (h : xc p = true) : p.values.length ≤ 4 ∧ p.clock.length ≤ 6 := by
 unfold xc data ack order bare at h
 grind
set_option maxRecDepth 10000 in
theorem qvz (p : Pk) (hp : p.Sm) (hw : p.W) : ql Tryz.prog 92 [.d (.agg (qi p))] [] (.tup [.d (.sl 1 (qe (vm p).1)), .d (.int .i64 (vm p).2)]) [] := by
 refine F92.goT ?_
 try (refine ev1 @qi.eq_1 ?_; try exact True.intro)
 (repeat (with_reducible refine ob ?_)); first | refine cl q6x (vt p hp.v hp.c) ?_ | refine clF q6x (vt p hp.v hp.c) (fun _ => by (refine ev3 @xg.eq_1 @encI.eq_1 @qi.eq_1 ?_; try exact True.intro)) ?_
 try (refine ev ?_; try exact True.intro)
 (repeat (with_reducible refine ob ?_)); refine ju _ (fun h => ?_) (fun h => ?_)
 ·have hb : vm p = ([], 1) := by unfold vm; rw [if_neg]; simpa using h
  try (refine ev2 @hb @xa ?_; try exact True.intro)
 have hv : xc p = true := by simpa using h
 have hb : vm p = (qcx (jq p), 0) := by unfold vm; rw [if_pos hv]
 obtain ⟨f1, f2⟩ := qjl hv
 try (refine ev ?_; try exact True.intro)
 refine qv (fun i : { i : Nat // i ≤ 7 } => q36 p i.val) (fun i => 7 - i.val) ⟨0, Nat.zero_le _⟩ ?_ (fun i => ?_)
 ·try simp only [q36, List.take_zero, List.flatMap_nil, xa, Int.ofNat_zero, qi, zr, List.map_cons, List.map_nil, encI, go_sem, Nat.reduceAdd, Nat.reduceMul, Nat.reduceSub, Nat.reduceEqDiff, Nat.reduceLT, Nat.reduceLeDiff, Nat.reduceBEq, reduceIte, reduceCtorEq, Int.reduceAdd, Int.reduceLT, Int.reduceLE, Int.reduceGT, Int.reduceGE, Int.reduceEq, Int.reduceNe, Int.reduceBEq, Int.reduceBNe, Int.reduceToNat, Int.reduceNeg]
 obtain ⟨i, hi⟩ := i
 try (refine ev1 @q36.eq_1 ?_; try exact True.intro)
 refine ju _ (fun hc => ?_) (fun hc => ?_)
 ·have hil : i < (zr p).length := by simp [zr] at hc ⊢; omega
  have hx := hw.h _ (List.getElem_mem hil)
  have hfl := wp wInt 10 ((zr p).take i) fun x hx => x7 (hw.h x (List.mem_of_mem_take hx))
  have htk : ((zr p).take i).length ≤ 7 := by rw [List.length_take]; omega
  have hsn := qcs wInt (zr p) hil
  have h7 : (zr p).length = 7 := rfl
  try (refine ev2 (qz encI (zr p) hil) @encI.eq_1 ?_; try exact True.intro)
  (repeat (with_reducible refine ob ?_))
  refine clA F91 (jp (((zr p).take i).flatMap wInt) (zr p)[i] (by omega) hx) ?_
  try (refine ev ?_; try exact True.intro)
  refine ⟨⟨i + 1, hil⟩, ?_, by dsimp only; omega⟩
  try (refine ev3 @q36.eq_1 @hsn (qr (show i < 9223372036854775807 by omega)) ?_; try exact True.intro)
 ·have hie : i = 7 := by simp at hc; omega
  subst hie
  have ht : (zr p).take 7 = zr p := rfl
  have hfl := wp wInt 10 (zr p) fun x hx => x7 (hw.h x hx)
  have h7 : (zr p).length = 7 := rfl
  have hwv : (wAVs p.values).length ≤ 5000000 := by
   have h1 := x7 (xz (n := p.values.length) (by omega))
   have h2 := wp wAV 1000020 p.values fun x hx => qy5 (hw.v x hx)
   simp only [wAVs, List.length_append]; omega
  have hwc : (qgc p.clock).length ≤ 5000000 := by
   have h1 := x7 (xz (n := p.clock.length) (by omega))
   have h2 := wp wInt 10 p.clock fun x hx => x7 (hw.c x hx)
   simp only [qgc, List.length_append]; omega
  try (refine ev2 @ht @qi.eq_1 ?_; try exact True.intro)
  refine clA zj7 (qna ((zr p).flatMap wInt) p.values (by omega) (by omega) hw.v) ?_
  try (refine ev ?_; try exact True.intro)
  refine clA zj5 (qsk ((zr p).flatMap wInt ++ wAVs p.values) p.clock (by rw [List.length_append]; omega) (by omega) hw.c) ?_
  try (refine ev ?_; try exact True.intro)
  (repeat (with_reducible refine ob ?_)); first | refine cl zdb (qy6 (jq p) (by simp only [jq, List.length_append]; omega)) ?_ | refine clF zdb (qy6 (jq p) (by simp only [jq, List.length_append]; omega)) (fun _ => by (refine ev3 @xg.eq_1 @encI.eq_1 @qi.eq_1 ?_; try exact True.intro)) ?_
  try (refine ev1 @hb ?_; try exact True.intro)
end Go.Proofs.YtinnaedmdoengaaGreat
