/- Texts Wd, We, Wf, Wg, Wh. -/
import Derived.Test.YtinnaedmdoengaaGreatMkl
import Derived.Calls
import Derived.Orders
import Derived.Tactics
import Derived.Laws.AppendOwn
import Derived.Laws.Slices
import Derived.Laws.Closers25
import Derived.Laws.StructEq
import Derived.Laws.BytesString
import Derived.Laws.CopyRow
import Derived.MapKept
import Derived.Maps.RangeRun
import Derived.TacticsIn
import Derived.OrdersIn
import Derived.RangeFuncRecord
import Derived.RangeFuncLeaves
import Derived.IntWalk
import Derived.ProofKit
import Derived.OpenShut
import Derived.Carry
import Derived.Test.YtinnaedmdoengaaGreatProg
import Derived.KernelRfl
import Derived.OwnWalkIn
import Derived.TacticsInMore
import Derived.LoopIn
import Derived.WalkKit

namespace Go.Proofs.YtinnaedmdoengaaGreat
open Go.Abs Go.RowKit
set_option linter.unusedSimpArgs false
set_option linter.unusedVariables false
theorem q4u (ro : Option Nat) : (Fw ro).round = ro := rfl
theorem x75 (ro : Option Nat) (f : FuncId) : (Fw ro).fn f = True := rfl
theorem q4v (ro : Option Nat) : (Fw ro).depth = none := rfl
attribute [local go_sem] q4u x75 q4v
def partsOf (r : List UInt8) : List (Nat × List UInt8) := if h : r.length > 22 then (1, r.take 22) :: partsOf (r.drop 22) else [(2, r)]
termination_by r.length
decreasing_by simp; omega
def yy (p : Nat × List UInt8) : List D := [.int .u8 (p.1 : Nat), .sl 1 (qd p.2)]
theorem jv {r : List UInt8} (h : r.length > 22) : partsOf r = (1, r.take 22) :: partsOf (r.drop 22) := by rw [partsOf, dif_pos h]
theorem jw {r : List UInt8} (h : ¬ r.length > 22) : partsOf r = [(2, r)] := by rw [partsOf, dif_neg h]
theorem qgb (r : List UInt8) : ∀ n, (0 < n → 22 * n < r.length) → (partsOf r).drop n = partsOf (r.drop (22 * n))
 | 0, _ => by simp
 | n + 1, h => by
  have h1 := h (by omega)
  have ih := qgb r n (fun _ => by omega)
  rw [← List.drop_drop, ih, jv (by rw [List.length_drop]; omega), List.drop_succ_cons, List.drop_zero, List.drop_drop]
  rfl
theorem qmy {r : List UInt8} {n : Nat} {p : Nat × List UInt8} {l : List (Nat × List UInt8)} (h : (partsOf r).drop n = p :: l) : ((partsOf r).map yy)[n]? = some (yy p) := by
 have : (partsOf r)[n]? = some p := by
  have := congrArg (fun l => l[0]?) h
  simpa using this
 rw [List.getElem?_map, this]; rfl
theorem qph {W : World} {b : Nat} {c : Array Value} {e : TypeId} {z : Nat × Nat} (v : Value) (h : W.heap[b]? = some (.cells c e z)) : (W.setCell ⟨b, 0, none⟩ v).heap[b]? = some (.cells (c.setIfInBounds 0 v) e z) := by
 simp [World.setCell, Array.getElem?_modify, h]
theorem qmz {W : World} {b k : Nat} (v : Value) (h : k ≠ b) : (W.setCell ⟨b, 0, none⟩ v).heap[k]? = W.heap[k]? := by
 simp [World.setCell, Array.getElem?_modify, Ne.symm h]
theorem qyw {g : Ghost} {w : World} {b off cap len : Nat} {r : List UInt8} (h : RV g w (.slice (some ⟨b, off, none⟩) len cap) (.sl 1 (qd r))) (n m c : Nat) (hn : n + m ≤ r.length) (hc : m ≤ c) (h0 : r ≠ []) :
  RV g w (.slice (some ⟨b, off + n, none⟩) m c) (.sl 1 (qd ((r.drop n).take m))) := by
 generalize hvd : qd r = rows at h
 have hne : rows ≠ [] := by rw [← hvd]; cases r <;> simp [qd] at h0 ⊢
 cases h with
 | nilsl => exact (hne rfl).elim
 | sl _ _ _ _ n0 o _ f hg hnn hcap hes hcl hcell hrv =>
 subst hvd
 have hfl : (qd ((r.drop n).take m)).flatten = (((qd r).flatten).drop n).take m := by simp only [qab, List.map_take, List.map_drop]
 have hlen : (qd ((r.drop n).take m)).length = m := by rw [zr, List.length_take, List.length_drop]; omega
 have hsub : ∀ (j : Nat) (d : D), (qd ((r.drop n).take m)).flatten[j]? = some d → (qd r).flatten[n + j]? = some d := by
  intro j d hj
  rw [hfl, List.getElem?_take] at hj
  split at hj
  ·rwa [List.getElem?_drop] at hj
  ·cases hj
 have := RV.sl (g := g) (w := w) b (off + n) c 1 n0 o (qd ((r.drop n).take m)) (fun j => f (n + j)) hg (by
   rw [hfl, List.length_take, List.length_drop]
   have h1 : (qd r).flatten.length = r.length := by simp [qab]
   rw [h1] at hnn ⊢
   omega) (by rw [hlen]; exact hc) (by intro x hx; obtain ⟨c, _, rfl⟩ := List.mem_map.1 hx; rfl) (by
   intro d hd
   obtain ⟨j, hj⟩ := List.getElem?_of_mem hd
   exact hcl d (List.mem_of_getElem? (hsub j d hj))) (fun j d hj => by rw [Nat.add_assoc]; exact hcell _ d (hsub j d hj)) (fun j d hj => hrv _ d (hsub j d hj))
 rwa [hlen] at this
set_option maxRecDepth 100000 in
set_option maxHeartbeats 1000000 in
theorem qvr (r : List UInt8) (hl : r.length ≤ 1000000000) : ASeq Tryz.prog 150 [.ptr 0 0] [.row [.d (.sl 1 (qd r))]] ((partsOf r).map yy) := by
 refine ⟨by rw [Tryz.func150]; rfl, ?_⟩
 intro g w lb l J hd hlb hrv hobj hab hY h0
 match lb, hlb with
 | [v0], _ =>
 have hp := hrv 0 v0 _ rfl rfl
 cases hp with
 | ptr b _ _ hg =>
 obtain ⟨b', hb', hro⟩ := (hobj.objs 0 _ rfl (by simp)).resolve_right (fun h => by cases h.1)
 have : b' = b := hobj.inj b' b 0 hb' hg
 subst this
 obtain ⟨c, e, hh, hsz, hc⟩ := hro
 obtain ⟨v, hv0, _, hv⟩ := hc 0 _ rfl
 have hv : RV g w v (.sl 1 (qd r)) := hv
 refine callsIn_of_wp Tryz.func150 rfl trivial ?_ rfl
 simp only [Tryz.ntmps150, List.size_toArray, List.length_cons, List.length_nil, Nat.reduceAdd, Nat.reduceSub, Array.replicate_succ, Array.replicate_zero, List.push_toArray, List.append_toArray, List.nil_append, List.cons_append]
 generalize hvd : qd r = rows at hv
 cases hv with
 | nilsl a cc _ hn =>
  have hr0 : r = [] := by cases r <;> simp [qd] at hvd ⊢
  subst hr0
  have hsp : (partsOf []).drop 0 = [(2, [])] := by rw [List.drop_zero, jw (by simp)]
  refine wpIn_seq (wpIn_block ?_)
  refine qd3 (fun m a W => (∃ t3 t4 t5 t6 t7 t8 t9 t10 t11 t12 t13 t14 t15, a = { tmps := #[.func (.yield l) #[] #[], .pointer (some ⟨b', 0, none⟩), undef, t3, t4, t5, t6, t7, t8, t9, t10, t11, t12, t13, t14, t15], defers := [] }) ∧ W.heap[b']? = some (.cells c e (0, 0)) ∧ J 0 W) (n0 := 0)
   ⟨⟨_, _, _, _, _, _, _, _, _, _, _, _, _, rfl⟩, hh, h0⟩ ?_
  rintro m ac W ⟨⟨t3, t4, t5, t6, t7, t8, t9, t10, t11, t12, t13, t14, t15, rfl⟩, hhW, hJ⟩
  have hcW : W.cell? ⟨b', 0, none⟩ = some (.slice a 0 cc) := by simp [World.cell?, hhW, hv0]
  have hfW : W.frozen? ⟨b', 0, none⟩ = false := by simp [World.frozen?, hhW]
  obtain ⟨fn, tmps, assign, body, hy, hR⟩ := hY 0 _ [.int .u8 2, .slice a 0 cc] W (qmy hsp) hJ rfl (by
   intro i v d hi hd
   match i with
   | 0 => simp [yy] at hi hd; subst hi; subst hd; exact .int _ _
   | 1 => simp [yy] at hi hd; subst hi; subst hd; exact .nilsl a cc 1 hn
   | i + 2 => simp at hi)
  gi_wp2
  refine hR.mono ?_
  rintro e1 W1 ⟨rfl, hJ1, hk1⟩
  gi_wp2
  go_end0
  have hln : (partsOf []).length = 1 := by have := congrArg List.length hsp; simpa using this
  exact ⟨⟨_, rfl⟩, by rw [List.length_map, hln]; exact hJ1⟩
 | sl bb off cap _ n0 o _ f hgb hnn hcap hes hcl hcell hrvv =>
 subst hvd
 have hv : RV g w (.slice (some ⟨bb, off, none⟩) (qd r).length cap) (.sl 1 (qd r)) := hv
 refine wpIn_seq (wpIn_block ?_)
 refine qd3 (fun m a W => ∃ n, m = r.length - 22 * n ∧ 22 * n ≤ r.length ∧ (0 < n → 22 * n < r.length) ∧ (∃ t3 t4 t5 t6 t7 t8 t9 t10 t11 t12 t13 t14 t15, a = { tmps := #[.func (.yield l) #[] #[], .pointer (some ⟨b', 0, none⟩), undef, t3, t4, t5, t6, t7, t8, t9, t10, t11, t12, t13, t14, t15], defers := [] }) ∧
  W.heap[b']? = some (.cells (c.setIfInBounds 0 (.slice (some ⟨bb, off + 22 * n, none⟩) (r.length - 22 * n) (cap - 22 * n))) e (0, 0)) ∧ J n W) (n0 := r.length) ⟨0, by omega, by omega, by omega, ⟨_, _, _, _, _, _, _, _, _, _, _, _, _, rfl⟩, ?_, h0⟩ ?_
 ·rw [zr] at hv0
  rw [hh, show off + 22 * 0 = off by omega, show r.length - 22 * 0 = r.length by omega, show cap - 22 * 0 = cap by omega]
  congr 2
  apply Array.ext
  ·simp
  ·intro i h1 h2
   rw [Array.getElem_setIfInBounds]
   split
   ·rename_i h; subst h; simpa [Array.getElem?_eq_getElem h1] using hv0
   ·rfl
 rintro m a W ⟨n, rfl, hn1, hn2, ⟨t3, t4, t5, t6, t7, t8, t9, t10, t11, t12, t13, t14, t15, rfl⟩, hhW, hJ⟩
 have hcW : W.cell? ⟨b', 0, none⟩ = some (.slice (some ⟨bb, off + 22 * n, none⟩) (r.length - 22 * n) (cap - 22 * n)) := by
  have : 0 < c.size := by simp at hsz; omega
  simp [World.cell?, hhW, this]
 have hfW : W.frozen? ⟨b', 0, none⟩ = false := by simp [World.frozen?, hhW]
 by_cases hmore : r.length - 22 * n > 22
 ·have hmi : ((r.length - 22 * n : Nat) : Int) > 22 := by omega
  have hlc : r.length ≤ cap := by simpa [zr] using hcap
  have hci : (22 : Int) ≤ ((cap - 22 * n : Nat) : Int) := by omega
  have hci2 : (22 : Int) ≤ ((r.length - 22 * n : Nat) : Int) := by omega
  have hci3 : ((r.length - 22 * n : Nat) : Int) ≤ ((cap - 22 * n : Nat) : Int) := by omega
  have hsp : (partsOf r).drop n = (1, (r.drop (22 * n)).take 22) :: partsOf ((r.drop (22 * n)).drop 22) := by rw [qgb r n hn2, jv (by rw [List.length_drop]; exact hmore)]
  obtain ⟨fn, tmps, assign, body, hy, hR⟩ := hY n _ [.int .u8 1, .slice (some ⟨bb, off + 22 * n, none⟩) 22 (cap - 22 * n)] W (qmy hsp) hJ rfl (by
   intro i v d hi hd
   match i with
   | 0 => simp [yy] at hi hd; subst hi; subst hd; exact .int _ _
   | 1 => simp [yy] at hi hd; subst hi; subst hd; exact qyw hv (22 * n) 22 _ (by omega) (by omega) (by intro h; rw [h] at hmore; simp at hmore)
   | i + 2 => simp at hi)
  gi_wp2
  refine hR.mono ?_
  rintro e1 W1 ⟨rfl, hJ1, hk1⟩
  have hhW1 := (hk1 b' 0 hg).trans hhW
  have hcW1 : W1.cell? ⟨b', 0, none⟩ = some (.slice (some ⟨bb, off + 22 * n, none⟩) (r.length - 22 * n) (cap - 22 * n)) := by
   have : 0 < c.size := by simp at hsz; omega
   simp [World.cell?, hhW1, this]
  have hfW1 : W1.frozen? ⟨b', 0, none⟩ = false := by simp [World.frozen?, hhW1]
  gi_wp2
  refine ⟨_, ?_, n + 1, rfl, by omega, by omega, ⟨_, _, _, _, _, _, _, _, _, _, _, _, _, rfl⟩, ?_, ?_⟩
  ·omega
  ·rw [qph _ hhW1, Array.setIfInBounds_setIfInBounds]
   have e1 : off + 22 * n + 22 = off + 22 * (n + 1) := by omega
   have e2 : r.length - 22 * n - 22 = r.length - 22 * (n + 1) := by omega
   have e3 : cap - 22 * n - 22 = cap - 22 * (n + 1) := by omega
   rw [e1, e2, e3]
  ·refine hab (n + 1) W1 _ hJ1 rfl rfl rfl (by simp [World.setCell]) (fun k hk => qmz _ (fun h => hk 0 (h ▸ hg)))
 ·have hmi : ¬ ((r.length - 22 * n : Nat) : Int) > 22 := by omega
  have hsp : (partsOf r).drop n = [(2, r.drop (22 * n))] := by rw [qgb r n hn2, jw (by rw [List.length_drop]; exact hmore)]
  have hln : (partsOf r).length = n + 1 := by
   have := congrArg List.length hsp
   simp at this; omega
  obtain ⟨fn, tmps, assign, body, hy, hR⟩ := hY n _ [.int .u8 2, .slice (some ⟨bb, off + 22 * n, none⟩) (r.length - 22 * n) (cap - 22 * n)] W (qmy hsp) hJ rfl (by
   intro i v d hi hd
   match i with
   | 0 => simp [yy] at hi hd; subst hi; subst hd; exact .int _ _
   | 1 =>
    simp [yy] at hi hd; subst hi; subst hd
    rcases Nat.eq_zero_or_pos n with rfl | hn0
    ·have e1 : cap - 22 * 0 = cap := by omega
     rw [e1]
     simpa [zr] using hv
    ·have h1 := hn2 hn0
     have := qyw hv (22 * n) (r.length - 22 * n) (cap - 22 * n) (by omega) (by
      have : r.length ≤ cap := by simpa [zr] using hcap
      omega) (by intro h; rw [h] at h1; simp at h1)
     rwa [List.take_of_length_le (by rw [List.length_drop]; omega)] at this
   | i + 2 => simp at hi)
  gi_wp2
  refine hR.mono ?_
  rintro e1 W1 ⟨rfl, hJ1, hk1⟩
  gi_wp2
  go_end0
  exact ⟨⟨_, rfl⟩, by rw [List.length_map, hln]; exact hJ1⟩
end Go.Proofs.YtinnaedmdoengaaGreat
namespace Go.Proofs.YtinnaedmdoengaaGreat
open Go.Abs
set_option linter.unusedSimpArgs false
noncomputable section
set_option maxRecDepth 100000
def q8j : List SOper := [
 ⟨some 1, .box 1 (.t 0), none⟩,
 ⟨some 2, .mov (.k (.d .nilfunc)), none⟩]
def q8k : List SOper := [
 ⟨some 3, .mkFunc (.func 150) [] [(.t 1)], none⟩,
 ⟨some 2, .mov (.t 3), none⟩]
def s102 : SCode := (.seq (.region q8j 1 []) (.seq (.region q8k 0 []) .ret))
theorem zhr : qg s102.eq_1 := qh s102.eq_1
theorem xox : qa q8j.eq_1 := qc
theorem xoy : qa q8k.eq_1 := qc
attribute [go_sem] xox xoy zhr
theorem zge : FnIs Tryz.prog 102 Tryz.f102 [] news s102 [.tmp 2] 4 := zc follows Tryz.func102
def xoz : List SOper := [
 ⟨some 2, .box 2 (.t 0), none⟩,
 ⟨some 4, .alloc 1 [(.d .nilsl), (.d (.int .i64 0))], none⟩,
 ⟨some 5, .mov (.k (.d (.int .i64 0))), none⟩]
def xo0 : List SOper := [
 ⟨some 14, .mov (.t 1), none⟩,
 ⟨some 15, .len (.t 14), none⟩,
 ⟨some 16, .bin .gtr (.t 15) (.k (.d (.int .i64 2000))), none⟩]
def xo1 : List SOper := [
 ⟨some 17, .build [.nilsl, (.int .i64 0)] [], none⟩,
 ⟨none, .store (some 2) (.t 4) (.t 17), none⟩,
 ⟨some 5, .mov (.k (.d (.int .i64 6))), none⟩]
def xo2 : List SOper := [
 ⟨some 18, .faddr 0 (.t 2), none⟩,
 ⟨some 19, .load none (.t 18), none⟩,
 ⟨some 20, .len (.t 19), none⟩,
 ⟨some 6, .mov (.t 20), none⟩]
def xo3 : List SOper := [
 ⟨some 21, .faddr 0 (.t 2), none⟩,
 ⟨some 22, .load none (.t 21), none⟩,
 ⟨some 23, .call (.k (.d (.func (.func 101) [] []))) [(.t 22)], none⟩,
 ⟨some 7, .alloc 1 [(.d (.int .u64 0))], none⟩,
 ⟨none, .store none (.t 7) (.t 23), none⟩]
def xo4 : List SOper := [
 ⟨some 24, .faddr 0 (.t 2), none⟩,
 ⟨some 25, .load none (.t 24), none⟩,
 ⟨some 26, .mov (.t 6), none⟩,
 ⟨some 27, .mov (.t 6), none⟩,
 ⟨some 28, .slice 1 (.t 25) none (some (.t 26)) (some (.t 27)), none⟩,
 ⟨some 8, .alloc 1 [(.d .nilsl)], none⟩,
 ⟨none, .store none (.t 8) (.t 28), none⟩]
def xo5 : List SOper := [
 ⟨some 29, .mov (.t 1), none⟩,
 ⟨some 30, .call (.k (.d (.func (.func 102) [] []))) [(.t 29)], none⟩]
def xo6 : List SOper := [
 ⟨some 9, .mov (.t 31), none⟩]
def xo7 : List SOper := [
 ⟨some 10, .mov (.t 32), none⟩]
def xo8 : List SOper := [
 ⟨some 11, .alloc 1 [(.d (.int .u8 0)), (.d (.int .u8 0)), (.d (.int .u8 0)), (.d (.int .u8 0)), (.d (.int .u8 0)), (.d (.int .u8 0)), (.d (.int .u8 0)), (.d (.int .u8 0)), (.d (.int .u8 0)), (.d (.int .u8 0)), (.d (.int .u8 0)), (.d (.int .u8 0)), (.d (.int .u8 0)), (.d (.int .u8 0)), (.d (.int .u8 0)), (.d (.int .u8 0)), (.d (.int .u8 0)), (.d (.int .u8 0)), (.d (.int .u8 0)), (.d (.int .u8 0)), (.d (.int .u8 0)), (.d (.int .u8 0)), (.d (.int .u8 0)), (.d (.int .u8 0))], none⟩]
def q8l : List SOper := [
 ⟨some 33, .mov (.t 9), none⟩,
 ⟨some 34, .mov (.t 10), none⟩,
 ⟨some 35, .len (.t 34), none⟩,
 ⟨some 36, .conv .u8 (.t 35), none⟩,
 ⟨some 37, .iaddrA 24 1 (.t 11) (.k (.d (.int .i64 0))), none⟩,
 ⟨none, .store none (.t 37) (.t 33), none⟩,
 ⟨some 38, .iaddrA 24 1 (.t 11) (.k (.d (.int .i64 1))), none⟩,
 ⟨none, .store none (.t 38) (.t 36), none⟩]
def q8m : List SOper := [
 ⟨some 39, .sliceA 24 1 (.t 11) (some (.k (.d (.int .i64 2)))) none none, none⟩,
 ⟨some 40, .mov (.t 10), none⟩,
 ⟨some 41, .copy 1 (.t 39) (.t 40), none⟩]
def q8n : List SOper := [
 ⟨some 43, .load none (.t 7), none⟩,
 ⟨some 44, .sliceA 24 1 (.t 11) none none none, none⟩,
 ⟨some 45, .call (.k (.d (.func (.func 103) [] []))) [(.t 43), (.t 44)], none⟩,
 ⟨some 42, .mov (.t 45), none⟩,
 ⟨some 46, .extract 0 (.t 42), none⟩,
 ⟨some 47, .extract 1 (.t 42), none⟩,
 ⟨some 13, .alloc 1 [(.d (.int .u8 0)), (.d (.int .u8 0)), (.d (.int .u8 0)), (.d (.int .u8 0)), (.d (.int .u8 0)), (.d (.int .u8 0)), (.d (.int .u8 0)), (.d (.int .u8 0))], none⟩,
 ⟨some 12, .mov (.t 46), none⟩,
 ⟨none, .store (some 8) (.t 13) (.t 47), none⟩]
def q8o : List SOper := [
 ⟨some 48, .load none (.t 8), none⟩,
 ⟨some 49, .sliceA 24 1 (.t 11) none none none, none⟩,
 ⟨some 50, .append false 1 1 (.t 48) (.t 49), none⟩,
 ⟨some 51, .sliceA 8 1 (.t 13) none none none, none⟩,
 ⟨some 52, .append false 1 1 (.t 50) (.t 51), none⟩,
 ⟨some 53, .mov (.t 12), none⟩,
 ⟨none, .store none (.t 8) (.t 52), none⟩,
 ⟨none, .store none (.t 7) (.t 53), none⟩]
def qyx : SCode := (.seq (.region xo6 0 []) (.region xo7 0 []))
theorem xo9 : qg qyx.eq_1 := qh qyx.eq_1
def qyy : SCode := (.block 1 (.seq (.region xo8 1 []) (.seq (.region q8l 0 []) (.seq (.region q8m 0 []) (.seq (.region q8n 1 [(0, 6), (1, 6), (2, 6)]) (.region q8o 0 []))))))
theorem xpa : qg qyy.eq_1 := qh qyy.eq_1
def q8p : List SOper := [
 ⟨some 54, .load none (.t 8), none⟩,
 ⟨some 55, .faddr 1 (.t 2), none⟩,
 ⟨some 56, .load none (.t 55), none⟩,
 ⟨some 57, .build [.nilsl, (.int .i64 0)] [(0, 1, (.t 54)), (1, 1, (.t 56))], none⟩,
 ⟨none, .store (some 2) (.t 4) (.t 57), none⟩,
 ⟨some 5, .mov (.k (.d (.int .i64 0))), none⟩]
def s53 : SCode := (.seq (.region xoz 2 []) (.seq (.seq (.region xo0 0 []) (.cond (.t 16) (.seq (.region xo1 0 []) .ret) .skip)) (.seq (.region xo2 0 []) (.seq (.region xo3 1 []) (.seq (.region xo4 1 []) (.seq (.seq (.region xo5 1 []) (.block 0 (.rangeFunc (.t 30) [31, 32] qyx qyy))) (.seq (.region q8p 0 []) .ret)))))))
theorem e53 : qg s53.eq_1 := qh s53.eq_1
theorem x76 : qa xoz.eq_1 := qc
theorem x77 : qa xo0.eq_1 := qc
theorem x78 : qa xo1.eq_1 := qc
theorem x79 : qa xo2.eq_1 := qc
theorem x8a : qa xo3.eq_1 := qc
theorem x8b : qa xo4.eq_1 := qc
theorem x8c : qa xo5.eq_1 := qc
theorem x8d : qa xo6.eq_1 := qc
theorem x8e : qa xo7.eq_1 := qc
theorem x8f : qa xo8.eq_1 := qc
theorem xpb : qa q8l.eq_1 := qc
theorem xpc : qa q8m.eq_1 := qc
theorem xpd : qa q8n.eq_1 := qc
theorem xpe : qa q8o.eq_1 := qc
theorem xpf : qa q8p.eq_1 := qc
attribute [go_sem] x76 x77 x78 x79 x8a x8b x8c x8d x8e x8f xpb xpc xpd xpe xo9 xpa xpf e53
theorem F53 : FnIs Tryz.prog 53 Tryz.f53 [] news s53 [.cell 4 (some 2), .tmp 5] 58 := zc follows Tryz.func53
end
theorem q4w (r : List UInt8) : qo Tryz.prog 102 [.d (.sl 1 (qd r))] [] (.d (.func (.func 150) [] [.ptr 0 0])) [.row [.d (.sl 1 (qd r))]] := by
 refine zge.go ?_
 try (refine ev ?_; try exact True.intro)
 exact ⟨_, rfl⟩
def xm (p : Nat × List UInt8) : List UInt8 := [UInt8.ofNat p.1, UInt8.ofNat p.2.length] ++ p.2 ++ List.replicate (22 - p.2.length) 0
def qbi (x : List UInt8 × Nat) (p : Nat × List UInt8) : List UInt8 × Nat := (x.1 ++ xm p ++ be8 (fnv x.2 (xm p)), fnv x.2 (xm p))
def ji (x : List UInt8 × Nat) (l : List (Nat × List UInt8)) : List UInt8 × Nat := l.foldl qbi x
def jz (file r : List UInt8) : List UInt8 := (ji (file, jh file) (partsOf r)).1
theorem jj : ∀ (n : Nat) (r : List UInt8), r.length ≤ n → ∀ p ∈ partsOf r, (p.1 = 1 ∨ p.1 = 2) ∧ p.2.length ≤ 22
 | n, r, hn => by
  intro p hp
  by_cases h : r.length > 22
  ·rw [jv h] at hp
   rcases List.mem_cons.1 hp with rfl | hp
   ·exact ⟨.inl rfl, by simp; omega⟩
   ·cases n with
    | zero => omega
    | succ n => exact jj n (r.drop 22) (by rw [List.length_drop]; omega) p hp
  ·rw [jw h] at hp
   have : p = (2, r) := by simpa using hp
   subst this
   exact ⟨.inr rfl, by simp only; omega⟩
theorem qja : ∀ (n : Nat) (r : List UInt8), r.length ≤ n → (partsOf r).length ≤ r.length + 1
 | n, r, hn => by
  by_cases h : r.length > 22
  ·rw [jv h]
   cases n with
   | zero => omega
   | succ n =>
    have := qja n (r.drop 22) (by rw [List.length_drop]; omega)
    rw [List.length_drop] at this
    rw [List.length_cons]
    omega
  ·rw [jw h]; simp
theorem k9 {p : Nat × List UInt8} (h : p.2.length ≤ 22) : (xm p).length = 24 := by simp [xm]; omega
theorem qpi (x : List UInt8 × Nat) (l : List (Nat × List UInt8)) (p : Nat × List UInt8) : ji x (l ++ [p]) = qbi (ji x l) p := by unfold ji; rw [List.foldl_append, List.foldl_cons, List.foldl_nil]
theorem qjb (x : List UInt8 × Nat) : ∀ l : List (Nat × List UInt8), (∀ p ∈ l, p.2.length ≤ 22) → (ji x l).1.length = x.1.length + 32 * l.length := by
 intro l h
 induction l generalizing x with
 | nil => simp [ji]
 | cons p l ih =>
  have := ih (qbi x p) (fun q hq => h q (List.mem_cons_of_mem _ hq))
  have h1 := k9 (h p List.mem_cons_self)
  have h2 : ji x (p :: l) = ji (qbi x p) l := rfl
  rw [h2, this, qbi]
  simp only [List.length_append, ja, h1, List.length_cons]
  omega
theorem qtm (file : List UInt8) : jh file < 18446744073709551616 := by
 unfold jh
 split
 ·omega
 ·have := qmx 8 (file.drop (file.length - 8)) (by rw [List.length_drop]; omega)
  have e : (256 : Nat) ^ 8 = 18446744073709551616 := by decide
  omega
theorem qvs (x : List UInt8 × Nat) (hx : x.2 < 18446744073709551616) (l : List (Nat × List UInt8)) : (ji x l).2 < 18446744073709551616 := by
 induction l generalizing x with
 | nil => exact hx
 | cons p l ih =>
  have h1 : (qbi x p).2 = fnv x.2 (xm p) := by rw [qbi]
  have h2 : (qbi x p).2 < 18446744073709551616 := by rw [h1]; exact qe8 hx _
  have h3 : ji x (p :: l) = ji (qbi x p) l := rfl
  rw [h3]; exact ih _ h2
theorem qr5 {cs new : List ASlot} {off : Nat} (h : off + new.length ≤ cs.length) : wd cs off new = cs.take off ++ new ++ cs.drop (off + new.length) := by
 apply List.ext_getElem?
 intro i
 rw [qa0 new cs off i h]
 split
 ·rename_i hi
  rw [List.append_assoc, List.getElem?_append_right (by rw [List.length_take]; omega), List.length_take, Nat.min_eq_left (by omega), List.getElem?_append_left (by omega)]
 ·rename_i hi
  rcases Nat.lt_or_ge i off with h1 | h1
  ·rw [List.append_assoc, List.getElem?_append_left (by rw [List.length_take]; omega), List.getElem?_take, if_pos h1]
  ·rw [List.getElem?_append_right (by simp only [List.length_append, List.length_take]; omega), List.getElem?_drop]
   congr 1
   simp only [List.length_append, List.length_take]; omega
theorem qvt (p : Nat × List UInt8) (h1 : p.1 = 1 ∨ p.1 = 2) (h2 : p.2.length ≤ 22) :
  wd [ASlot.d (D.int .u8 (p.1 : Nat)), ASlot.d (D.int .u8 (IntKind.u8.wrap (p.2.length : Nat))), ASlot.d (D.int .u8 0), ASlot.d (D.int .u8 0), ASlot.d (D.int .u8 0), ASlot.d (D.int .u8 0), ASlot.d (D.int .u8 0), ASlot.d (D.int .u8 0), ASlot.d (D.int .u8 0), ASlot.d (D.int .u8 0), ASlot.d (D.int .u8 0), ASlot.d (D.int .u8 0), ASlot.d (D.int .u8 0), ASlot.d (D.int .u8 0), ASlot.d (D.int .u8 0), ASlot.d (D.int .u8 0), ASlot.d (D.int .u8 0), ASlot.d (D.int .u8 0), ASlot.d (D.int .u8 0), ASlot.d (D.int .u8 0), ASlot.d (D.int .u8 0), ASlot.d (D.int .u8 0), ASlot.d (D.int .u8 0), ASlot.d (D.int .u8 0)] 2 (List.map ASlot.d (List.take 22 (qd p.2)).flatten) = ((xm p).map jp).map ASlot.d := by
 have e1 : (List.take 22 (qd p.2)).flatten = p.2.map jp := by rw [List.take_of_length_le (by rw [zr]; exact h2), qab]
 have e2 : [ASlot.d (D.int .u8 (p.1 : Nat)), ASlot.d (D.int .u8 (IntKind.u8.wrap (p.2.length : Nat))), ASlot.d (D.int .u8 0), ASlot.d (D.int .u8 0), ASlot.d (D.int .u8 0), ASlot.d (D.int .u8 0), ASlot.d (D.int .u8 0), ASlot.d (D.int .u8 0), ASlot.d (D.int .u8 0), ASlot.d (D.int .u8 0), ASlot.d (D.int .u8 0), ASlot.d (D.int .u8 0), ASlot.d (D.int .u8 0), ASlot.d (D.int .u8 0), ASlot.d (D.int .u8 0), ASlot.d (D.int .u8 0), ASlot.d (D.int .u8 0), ASlot.d (D.int .u8 0), ASlot.d (D.int .u8 0), ASlot.d (D.int .u8 0), ASlot.d (D.int .u8 0), ASlot.d (D.int .u8 0), ASlot.d (D.int .u8 0), ASlot.d (D.int .u8 0)] = ([UInt8.ofNat p.1, UInt8.ofNat p.2.length] ++ List.replicate 22 0).map (fun c => ASlot.d (jp c)) := by
  have a1 : ((p.1 : Nat) : Int) = ((UInt8.ofNat p.1).toNat : Int) := by rcases h1 with h | h <;> rw [h] <;> rfl
  have a2 := qmu p.2.length
  rw [a1, a2]
  rfl
 rw [e1, e2, qr5 (by simp; omega)]
 have a3 : ([UInt8.ofNat p.1, UInt8.ofNat p.2.length] ++ List.replicate 22 (0 : UInt8)).drop (2 + p.2.length) = List.replicate (22 - p.2.length) 0 := by
  rw [List.drop_append, List.drop_of_length_le (by simp), List.nil_append, List.drop_replicate]
  congr 1
  simp only [List.length_cons, List.length_nil]; omega
 rw [← List.map_take, ← List.map_drop, List.length_map, List.length_map, a3, xm]
 simp only [List.cons_append, List.nil_append, List.take_succ_cons, List.take_zero, List.map_cons, List.map_nil, List.map_append, List.map_map]
 rfl
theorem qpj (h : Nat) : wd [ASlot.d (D.int .u8 0), ASlot.d (D.int .u8 0), ASlot.d (D.int .u8 0), ASlot.d (D.int .u8 0), ASlot.d (D.int .u8 0), ASlot.d (D.int .u8 0), ASlot.d (D.int .u8 0), ASlot.d (D.int .u8 0)] 0 (((be8 h).map jp).map ASlot.d) = ((be8 h).map jp).map .d := rfl
theorem qr6 (s : List UInt8) (n : Nat) : (List.take n (s.map jp)).all D.isCell = true := by rw [← List.map_take]; exact qd9 _
theorem qgc {os : List AObj} {id n : Nat} {s : List UInt8} (h : qf os id = (s.map jp).map .d) (hn : s.length = n) : wg os id 0 1 n = qd s := by
 unfold wg
 rw [h, List.drop_zero, qk8, ← hn, qpg]
theorem qyz (a b c d : AObj) (l : List AObj) (s : List UInt8) (h : s.length = 24) : wg (a :: b :: c :: d :: .row ((s.map jp).map .d) :: l) 4 0 1 24 = qd s := qgc rfl h
theorem qy0 (a b c d e : AObj) (l : List AObj) (s : List UInt8) (h : s.length = 8) : wg (a :: b :: c :: d :: e :: .row ((s.map jp).map .d) :: l) 5 0 1 8 = qd s := qgc rfl h
def Sapp (file r : List UInt8) (synced : Int) (k : Nat) : St :=
 ⟨[(2, true, .d (.ptr 0 0)), (4, true, .d (.ptr 1 0)), (5, true, .d (.int .i64 0)), (7, true, .d (.ptr 2 0)), (8, true, .d (.ptr 3 0))],
  [.row [.d (.sl 1 (qd file)), .d (.int .i64 synced)], .row [.d .nilsl, .d (.int .i64 0)], .row [.d (.int .u64 ((ji (file, jh file) ((partsOf r).take k)).2 : Nat))], .row [.own 0 1 (qd (ji (file, jh file) ((partsOf r).take k)).1)]], [0], 1⟩
def zt (file : List UInt8) (synced : Int) : List D := [.sl 1 (qd file), .int .i64 synced]
theorem qpk (file : List UInt8) (synced : Int) : D.noPtrL (zt file synced) = true := by simp only [zt, D.noPtrL, D.noPtr, jb, Bool.and_self]
attribute [go_sem] qpk
set_option maxRecDepth 10000 in
theorem qe9 (file r : List UInt8) (synced : Int) (hf : file.length ≤ 100000000) (hr : r.length ≤ 2000) :
  qo Tryz.prog 53 [.d (.agg (zt file synced)), .d (.sl 1 (qd r))] [] (.tup [.d (.agg (zt (jz file r) synced)), .d (.int .i64 0)]) [] := by
 refine F53.goT ?_
 have hr0 : decide ((r.length : Int) > 2000) = false := by simp; omega
 try (refine ev1 @zt.eq_1 ?_; try exact True.intro)
 try (refine ev1 @hr0 ?_; try exact True.intro)
 (repeat (with_reducible refine ob ?_)); refine no_ ?_
 try (refine ev ?_; try exact True.intro)
 (repeat (with_reducible refine ob ?_)); refine cl zgd (xip file (by omega)) ?_
 try (refine ev ?_; try exact True.intro)
 (repeat (with_reducible refine ob ?_))
 refine clO [4] zge (q4w r) ?_
 try (refine ev ?_; try exact True.intro)
 have hft : List.take (file.length - 0) (qd file) = qd file := List.take_of_length_le (by rw [zr]; omega)
 try (refine ev1 @hft ?_; try exact True.intro)
 refine xlc 150 [.ptr 0 0] [4] [.row [.d (.sl 1 (qd r))]] ((partsOf r).map yy) (Sapp file r synced) [(2, true, .d (.ptr 0 0)), (4, true, .d (.ptr 1 0)), (5, true, .d (.int .i64 0)), (7, true, .d (.ptr 2 0)), (8, true, .d (.ptr 3 0))]
  (qvr r (by omega)) ?_ ?_ ?_ ?_ ?_ ?_
 ·try (refine ev4 @Sapp.eq_1 @List.take_zero.{0} @ji.eq_1 @List.foldl_nil.{0,0} ?_; try exact True.intro)
 ·intro k vs hk
  rw [List.getElem?_map, Option.map_eq_some_iff] at hk
  obtain ⟨p, hp, rfl⟩ := hk
  obtain ⟨p1, p2⟩ := jj _ r (Nat.le_refl _) p (List.mem_of_getElem? hp)
  obtain ⟨hk, hpk⟩ := List.getElem?_eq_some_iff.1 hp
  have htk : (partsOf r).take (k + 1) = (partsOf r).take k ++ [p] := by rw [List.take_succ_eq_append_getElem hk, hpk]
  have hh := qvs (file, jh file) (qtm file) ((partsOf r).take k)
  have hln : (ji (file, jh file) ((partsOf r).take k)).1.length ≤ 200000000 := by
   rw [qjb _ _ (fun q hq => (jj _ r (Nat.le_refl _) q (List.mem_of_mem_take hq)).2), List.length_take]
   have := qja _ r (Nat.le_refl _)
   simp only; omega
  have h24 := k9 p2
  generalize hx : ji (file, jh file) ((partsOf r).take k) = x at hh hln
  have hx1 : ji (file, jh file) ((partsOf r).take (k + 1)) = qbi x p := by rw [htk, qpi, hx]
  have hc := qvt p p1 p2
  have hck := qyu x.2 (xm p) hh (by omega)
  rw [h24] at hck
  try (refine ev5 @Sapp.eq_1 @yy.eq_1 @hx @hx1 @hc ?_; try exact True.intro)
  (repeat (with_reducible refine ob ?_))
  refine clO [4] x6i hck ?_
  try simp only [qpj, qr6, qyz _ _ _ _ _ _ h24, qy0 _ _ _ _ _ _ _ (ja _), ja, h24, xd, go_sem, Nat.reduceAdd, Nat.reduceMul, Nat.reduceSub, Nat.reduceEqDiff, Nat.reduceLT, Nat.reduceLeDiff, Nat.reduceBEq, reduceIte, reduceCtorEq, Int.reduceAdd, Int.reduceLT, Int.reduceLE, Int.reduceGT, Int.reduceGE, Int.reduceEq, Int.reduceNe, Int.reduceBEq, Int.reduceBNe, Int.reduceToNat, Int.reduceNeg]
  refine ⟨by omega, by omega, .weak ?_ (.refl _)⟩
  try (refine ev1 @qbi.eq_1 ?_; try exact True.intro)
 ·have hw : ji (file, jh file) (List.take (partsOf r).length (partsOf r)) = ji (file, jh file) (partsOf r) := by rw [List.take_length]
  try (refine ev3 @Sapp.eq_1 @hw @jz.eq_1 ?_; try exact True.intro)
 ·intro vs hvs
  obtain ⟨p, _, rfl⟩ := List.mem_map.1 hvs
  exact ⟨rfl, by simp [yy, D.noPtrL, D.noPtr, jb]⟩
 ·try (refine ev ?_; try exact True.intro)
 ·intro k id hid
  have : id = 4 := by simpa using hid
  subst this
  rfl
end Go.Proofs.YtinnaedmdoengaaGreat
namespace Go.Proofs.YtinnaedmdoengaaGreat
open Go.Abs
set_option linter.unusedSimpArgs false
set_option linter.unusedVariables false
noncomputable section
set_option maxRecDepth 100000
def xpg : List SOper := [
 ⟨some 2, .mov (.k (.d .nilsl)), none⟩]
def xph : List SOper := [
 ⟨some 3, .mov (.t 0), none⟩,
 ⟨some 4, .eqnilS false (.t 3), none⟩]
def xpi : List SOper := [
 ⟨some 2, .mov (.k (.d .nilsl)), none⟩]
def xpj : List SOper := [
 ⟨some 5, .buildSlice false 1 0 [(.int .u8 0)] [], none⟩,
 ⟨some 6, .mov (.t 0), none⟩,
 ⟨some 7, .append false 1 1 (.t 5) (.t 6), none⟩,
 ⟨some 2, .mov (.t 7), none⟩]
def s63 : SCode := (.seq (.region xpg 0 []) (.seq (.seq (.region xph 0 []) (.cond (.t 4) (.seq (.region xpi 0 []) .ret) .skip)) (.seq (.region xpj 0 []) .ret)))
theorem e63 : qg s63.eq_1 := qh s63.eq_1
theorem x8g : qa xpg.eq_1 := qc
theorem x8h : qa xph.eq_1 := qc
theorem x8i : qa xpi.eq_1 := qc
theorem x8j : qa xpj.eq_1 := qc
attribute [go_sem] x8g x8h x8i x8j e63
theorem F63 : FnIs Tryz.prog 63 Tryz.f63 [] news s63 [.tmp 2] 8 := zc follows Tryz.func63
def xpk : List SOper := [
 ⟨some 2, .mov (.k (.d .nilmap)), none⟩]
def xpl : List SOper := [
 ⟨some 3, .mov (.t 0), none⟩,
 ⟨some 4, .eqnil false .map (.t 3), none⟩]
def xpm : List SOper := [
 ⟨some 2, .mov (.k (.d .nilmap)), none⟩]
def xpn : List SOper := [
 ⟨some 5, .mov (.t 0), none⟩,
 ⟨some 6, .mkIface 96 (.t 5), none⟩,
 ⟨some 7, .call (.k (.d (.func (.func 100) [] []))) [(.t 6)], none⟩,
 ⟨some 8, .assertT 96 false (.t 7), none⟩,
 ⟨some 2, .mov (.t 8), none⟩]
def s51 : SCode := (.seq (.region xpk 0 []) (.seq (.seq (.region xpl 0 []) (.cond (.t 4) (.seq (.region xpm 0 []) .ret) .skip)) (.seq (.region xpn 0 []) .ret)))
theorem e51 : qg s51.eq_1 := qh s51.eq_1
theorem x8k : qa xpk.eq_1 := qc
theorem x8l : qa xpl.eq_1 := qc
theorem x8m : qa xpm.eq_1 := qc
theorem x8n : qa xpn.eq_1 := qc
attribute [go_sem] x8k x8l x8m x8n e51
theorem F51 : FnIs Tryz.prog 51 Tryz.f51 [] news s51 [.tmp 2] 9 := zc follows Tryz.func51
end
theorem ky (s : List UInt8) (hl : s.length ≤ 1000000000) : qo Tryz.prog 63 [.d (.sl 1 (qd s))] [] (.d (.sl 1 (qd s))) [] := by
 refine F63.go ?_
 try (refine ev ?_; try exact True.intro)
 refine xhx rfl rfl (fun b hb => ?_)
 try (refine ev ?_; try exact True.intro)
 (repeat (with_reducible refine ob ?_)); refine zk _ (fun h => ?_) (fun h => ?_)
 ·try (refine ev1 (hb h) ?_; try exact True.intro)
 ·try (refine ev ?_; try exact True.intro)
  omega
theorem qvu (w : World) (t : TypeId) (b : Nat) (es : Array MapEntry) (clock : Nat) (hb : w.heap[b]? = some (.map es clock)) :
  (callFunc 100 #[.iface t (.map (some b))]).run Tryz.prog w = .ok (.value (.iface t (.map (some w.heap.size)))) (w.alloc (.map es clock)) := by
 rw [run_callFunc_extern Tryz.func100 rfl (by kernel_rfl) (by kernel_rfl) (e := Extern.MapsClone.clone) (by kernel_rfl)]
 have e : Extern.MapsClone.clone #[.iface t (.map (some b))] = (getObj b >>= fun o => match o with
   | .map entries clock => (newObj (.map entries clock) >>= fun n => pure (.iface t (.map (some n))))
   | _ => stuck "maps.clone: a map expected") := rfl
 rw [e]
 simp [MapKept.run_getObj_map hb, Result.andThen]
set_option maxRecDepth 100000 in
set_option maxHeartbeats 1000000 in
theorem qpl (es : Ents) (c : Nat) : qo Tryz.prog 51 [.d (.map 0)] [.map es c] (.d (.map 1)) [.map es c, .map es c] := by
 intro g w vs hd hlen hv ho
 match vs, hlen with
 | [v0], _ =>
 have h0 := qgv (jy (x6 (hv 0 v0 _ rfl rfl)))
 obtain ⟨b, rfl, hg⟩ := h0
 obtain ⟨b', hb', l, hh, hl, he⟩ := (ho.objs 0 _ rfl (by simp)).resolve_right (fun h => by cases h.1)
 have : b' = b := ho.inj b' b 0 hb' hg
 subst this
 go_enter Tryz.func51, Tryz.ntmps51
 have hcl := qvu w 96 b' l.toArray c hh
 have hbin : (binOp .eql 96 (.map (some b')) (.map none)).run Tryz.prog w = .ok (.bool false) w := by
  simp [binOp, qeq Tryz.underlying96]
 have hta : ∀ W, (Instr.typeAssert (.iface 96 (.map (some w.heap.size))) 20 96 false).run Tryz.prog W = .ok (.map (some w.heap.size)) W := fun W => by
  simp [Instr.typeAssert, run_underlying Tryz.underlying96]
 go_wp2_with (first | simp only [hbin, Result.andThen_ok] | simp only [hcl] | simp only [hta, Result.andThen_ok])
 go_ret
 have hs : SR 0 (fun _ => False) g w ⟨[], [.map es c, .none], [], 1⟩ { tmps := #[], defers := [] } := by
  refine ⟨hd, trivial, rfl, fun k v s h => by simp [Fr.get] at h, fun id o hid hn => ?_, ho.inj, fun b id hb => ?_, ⟨by simp, fun k s h => by simp [Fr.get] at h, fun id o hid s hs => ?_⟩⟩
  ·match id with
   | 0 => exact ho.objs 0 o hid hn
   | 1 => simp at hid; exact (hn hid.symm).elim
   | i + 2 => simp at hid
  ·obtain ⟨o, h1, h2⟩ := ho.ids b id hb
   refine ⟨o, ?_, h2⟩
   match id with
   | 0 => exact h1
   | i + 1 => simp at h1
  ·match id with
   | 0 => simp at hid; subst hid; simp [AObj.cells] at hs
   | 1 => simp at hid; subst hid; simp [AObj.cells] at hs
   | i + 2 => simp at hid
 obtain ⟨q1, q2⟩ := hs.newObjA (id := 1) (o := .map es c) (blk := .map l.toArray c) rfl (by simp) (fun hG hr _ => ⟨l, heap_alloc_new w _, hl, fun i e x h1 h2 => (he i e x h1 h2).mono hr⟩) (by simp [AObj.cells])
 refine ⟨_, _, [], rfl, q1, q2.dom, by simp [ASlot.toks], .map _ 1 (Ghost.at_same _ _ _), ⟨fun id o hid hn => q2.objs id o hid hn, q2.inj, fun b id hb => q2.ids b id hb⟩⟩
end Go.Proofs.YtinnaedmdoengaaGreat
namespace Go.Proofs.YtinnaedmdoengaaGreat
open Go.Abs
set_option linter.unusedSimpArgs false
set_option linter.unusedVariables false
abbrev KV := Nat × List UInt8 × List UInt8
structure Cont where
 l : List KV
 c : Nat
 deriving DecidableEq, Inhabited
def yk (x : KV) : Nat × D × D := (x.1, .str x.2.1, .sl 1 (qd x.2.2))
def mapO (m : Cont) : AObj := .map (m.l.map yk) m.c
def xr (k : List UInt8) (x : KV) : Bool := k == x.2.1
def mPut (k v : List UInt8) (m : Cont) : Cont := match m.l.findIdx? (xr k) with
 | some j => ⟨m.l.modify j fun e => (e.1, k, v), m.c⟩
 | none => ⟨m.l ++ [(m.c, k, v)], m.c + 1⟩
def mDel (k : List UInt8) (m : Cont) : Cont := match m.l.findIdx? (xr k) with
 | some j => ⟨m.l.eraseIdx j, m.c⟩
 | none => m
def mGet (k : List UInt8) (m : Cont) : Option (List UInt8) := (m.l.find? (xr k)).map (·.2.2)
theorem qea (k : List UInt8) (l : List KV) : (l.map yk).findIdx? (qcg (.str k)) = l.findIdx? (xr k) := by
 rw [List.findIdx?_map]; rfl
theorem qvv (k v : List UInt8) (m : Cont) : qhz (.str k) (.sl 1 (qd v)) m.c (m.l.map yk) = (mPut k v m).l.map yk := by
 unfold qhz mPut
 rw [qea]
 cases h : m.l.findIdx? (xr k) with
 | none => simp [yk]
 | some j =>
  simp only
  apply List.ext_getElem?
  intro i
  rw [List.getElem?_modify, List.getElem?_map, List.getElem?_map, List.getElem?_modify]
  cases m.l[i]? with
  | none => rfl
  | some x =>
   show some (if j = i then _ else _) = some (yk (if j = i then _ else _))
   split <;> rfl
theorem qpm (k v : List UInt8) (m : Cont) : qbs (.str k) m.c (m.l.map yk) = (mPut k v m).c := by
 unfold qbs mPut
 rw [qea]
 cases m.l.findIdx? (xr k) <;> rfl
theorem qvw (k : List UInt8) (m : Cont) : qh0 (.str k) (m.l.map yk) = (mDel k m).l.map yk := by
 unfold qh0 mDel
 rw [qea]
 cases m.l.findIdx? (xr k) with
 | none => rfl
 | some j =>
  simp only
  apply List.ext_getElem?
  intro i
  rw [List.getElem?_eraseIdx, List.getElem?_map, List.getElem?_map, List.getElem?_map, List.getElem?_eraseIdx]
  split <;> rfl
theorem q8q (k : List UInt8) (m : Cont) : (mDel k m).c = m.c := by unfold mDel; split <;> rfl
theorem qvx (k : List UInt8) (l : List KV) : qgq .str (.str k) (l.map yk) = true := by
 simp only [qgq, KD.is, Bool.true_and, List.all_map]
 exact List.all_eq_true.2 fun x _ => rfl
theorem qr7 (k : List UInt8) (m : Cont) : yv (.str k) (m.l.map yk) = (mGet k m).map fun v => .sl 1 (qd v) := by
 unfold yv mGet
 rw [List.find?_map]
 have : qcg (.str k) ∘ yk = xr k := rfl
 rw [this]
 cases m.l.find? (xr k) <;> rfl
attribute [go_sem] qvx
def jn : Cont → List OpS → Cont × Bool
 | m, [] => (m, true)
 | m, o :: l => if o.del then jn (mDel o.key m) l else if (mPut o.key o.val m).l.length > 400 then (mPut o.key o.val m, false) else jn (mPut o.key o.val m) l
noncomputable section
set_option maxRecDepth 100000
def xpp : List SOper := [
 ⟨some 4, .mov (.k (.d (.bool false))), none⟩]
def xpq : List SOper := [
 ⟨some 7, .mov (.t 1), none⟩,
 ⟨some 8, .len (.t 7), none⟩,
 ⟨some 9, .mov (.k (.d (.int .i64 0))), none⟩]
def xpr : List SOper := [
 ⟨some 10, .bin .lss (.t 9) (.t 8), none⟩]
def xps : List SOper := [
 ⟨some 11, .iaddr 3 (.t 7) (.t 9), none⟩,
 ⟨some 12, .load (some 3) (.t 11), none⟩,
 ⟨some 6, .alloc 1 [(.d (.str [])), (.d (.bool false)), (.d .nilsl)], none⟩,
 ⟨none, .store (some 3) (.t 6) (.t 12), none⟩]
def xpt : List SOper := [
 ⟨some 13, .faddr 1 (.t 6), none⟩,
 ⟨some 14, .load none (.t 13), none⟩]
def xpu : List SOper := [
 ⟨some 15, .mov (.t 0), none⟩,
 ⟨some 16, .faddr 0 (.t 6), none⟩,
 ⟨some 17, .load none (.t 16), none⟩,
 ⟨none, .delete .str (.t 15) (.t 17), none⟩]
def xpv : List SOper := [
 ⟨some 18, .mov (.t 0), none⟩,
 ⟨some 19, .faddr 0 (.t 6), none⟩,
 ⟨some 20, .load none (.t 19), none⟩,
 ⟨some 21, .faddr 2 (.t 6), none⟩,
 ⟨some 22, .load none (.t 21), none⟩,
 ⟨some 23, .call (.k (.d (.func (.func 63) [] []))) [(.t 22)], none⟩,
 ⟨none, .mapUpdate .str (.t 18) (.t 20) (.t 23), none⟩]
def xpw : List SOper := [
 ⟨some 24, .mov (.t 0), none⟩,
 ⟨some 25, .lenM (.t 24), none⟩,
 ⟨some 26, .bin .gtr (.t 25) (.k (.d (.int .i64 400))), none⟩]
def xpx : List SOper := [
 ⟨some 4, .mov (.k (.d (.bool false))), none⟩]
def xpy : List SOper := [
 ⟨some 27, .bin .add (.t 9) (.k (.d (.int .i64 1))), none⟩,
 ⟨some 9, .mov (.t 27), none⟩]
def qy1 : SCode := (.seq (.region xpr 0 []) (.seq (.cond (.t 10) .skip (.exit 0)) (.seq (.block 1 (.seq (.region xps 1 []) (.seq (.seq (.region xpt 0 []) (.cond (.t 14) (.seq (.region xpu 0 []) (.exit 1)) .skip)) (.seq (.region xpv 0 [(2, 5)]) (.seq (.region xpw 0 []) (.cond (.t 26) (.seq (.region xpx 0 []) .ret) .skip)))))) (.region xpy 0 []))))
theorem xpz : qg qy1.eq_1 := qh qy1.eq_1
def q8r : List SOper := [
 ⟨some 4, .mov (.k (.d (.bool true))), none⟩]
def s52 : SCode := (.seq (.region xpp 0 []) (.seq (.seq (.region xpq 0 []) (.block 0 (.loop qy1))) (.seq (.region q8r 0 []) .ret)))
theorem e52 : qg s52.eq_1 := qh s52.eq_1
theorem x8o : qa xpp.eq_1 := qc
theorem x8p : qa xpq.eq_1 := qc
theorem x8q : qa xpr.eq_1 := qc
theorem x8r : qa xps.eq_1 := qc
theorem x8s : qa xpt.eq_1 := qc
theorem x8t : qa xpu.eq_1 := qc
theorem x8u : qa xpv.eq_1 := qc
theorem x8v : qa xpw.eq_1 := qc
theorem x8w : qa xpx.eq_1 := qc
theorem x8x : qa xpy.eq_1 := qc
theorem xp0 : qa q8r.eq_1 := qc
attribute [go_sem] x8o x8p x8q x8r x8s x8t x8u x8v x8w x8x xpz xp0 e52
theorem F52 : FnIs Tryz.prog 52 Tryz.f52 [] news s52 [.tmp 4] 28 := zc follows Tryz.func52
end
def qpn (m : Cont) (l : List OpS) (i : { i : Nat × Cont // i.1 ≤ l.length ∧ jn i.2 (l.drop i.1) = jn m l }) : St :=
 ⟨[(0, true, .d (.map 0)), (7, true, .d (.sl 3 (l.map qk))), (8, true, .d (.int .i64 l.length)), (9, true, .d (.int .i64 (i.val.1 : Nat)))], [mapO i.val.2], [], 1⟩
theorem qtn (m : Cont) (l : List OpS) (hl : l.length ≤ 100000) (hv : ∀ o ∈ l, o.val.length ≤ 1000000) : qo Tryz.prog 52 [.d (.map 0), .d (.sl 3 (l.map qk))] [mapO m] (.d (.bool (jn m l).2)) [mapO (jn m l).1] := by
 refine F52.go ?_
 try (refine ev1 @mapO.eq_1 ?_; try exact True.intro)
 refine xc (qpn m l) (fun i => l.length - i.val.1) ⟨(0, m), Nat.zero_le _, rfl⟩ ?_ (fun i => ?_)
 ·try (refine ev2 @qpn.eq_1 @mapO.eq_1 ?_; try exact True.intro)
 obtain ⟨⟨i, mi⟩, hi, ha⟩ := i
 simp only at hi ha
 try (refine ev2 @qpn.eq_1 @mapO.eq_1 ?_; try exact True.intro)
 refine zk _ (fun hc => ?_) (fun hc => ?_)
 ·have hil : i < l.length := by simpa using hc
  have hd : l.drop i = l[i] :: l.drop (i + 1) := List.drop_eq_getElem_cons hil
  rw [hd, jn] at ha
  try (refine ev2 (xi qk l hil) @qk.eq_1 ?_; try exact True.intro)
  (repeat (with_reducible refine ob ?_))
  (repeat (with_reducible refine ob ?_)); refine zk _ (fun h => ?_) (fun h => ?_)
  ·rw [if_pos h] at ha
   try (refine ev1 @qvw ?_; try exact True.intro)
   refine ⟨⟨(i + 1, mDel l[i].key mi), hil, ha⟩, ?_, by dsimp only; omega⟩
   try (refine ev4 @qpn.eq_1 @mapO.eq_1 @q8q (qt (show i < 9223372036854775807 by omega)) ?_; try exact True.intro)
  ·rw [if_neg (by simp [h])] at ha
   try (refine ev ?_; try exact True.intro)
   (repeat (with_reducible refine ob ?_)); first | refine cl F63 (ky l[i].val (by have := hv l[i] (List.getElem_mem hil); omega)) ?_ | refine clF F63 (ky l[i].val (by have := hv l[i] (List.getElem_mem hil); omega)) (fun _ => by (refine ev1 @qk.eq_1 ?_; try exact True.intro)) ?_
   try simp only [qvv, qpm _ l[i].val, go_sem, Nat.reduceAdd, Nat.reduceMul, Nat.reduceSub, Nat.reduceEqDiff, Nat.reduceLT, Nat.reduceLeDiff, Nat.reduceBEq, reduceIte, reduceCtorEq, Int.reduceAdd, Int.reduceLT, Int.reduceLE, Int.reduceGT, Int.reduceGE, Int.reduceEq, Int.reduceNe, Int.reduceBEq, Int.reduceBNe, Int.reduceToNat, Int.reduceNeg]
   refine zk _ (fun h4 => ?_) (fun h4 => ?_)
   ·rw [if_pos (by simp at h4; omega)] at ha
    try (refine ev1 ha.symm ?_; try exact True.intro)
   ·rw [if_neg (by simp at h4; omega)] at ha
    try (refine ev ?_; try exact True.intro)
    refine ⟨⟨(i + 1, mPut l[i].key l[i].val mi), hil, ha⟩, ?_, by dsimp only; omega⟩
    try (refine ev3 @qpn.eq_1 @mapO.eq_1 (qt (show i < 9223372036854775807 by omega)) ?_; try exact True.intro)
 ·have hie : i = l.length := by simp at hc; omega
  subst hie
  rw [List.drop_length, jn] at ha
  try (refine ev1 ha.symm ?_; try exact True.intro)
end Go.Proofs.YtinnaedmdoengaaGreat
namespace Go.Proofs.YtinnaedmdoengaaGreat
open Go.Abs
set_option linter.unusedSimpArgs false
set_option linter.unusedVariables false
structure Sto where
 file : List UInt8
 synced : Int
 m : Cont
 deriving DecidableEq, Inhabited
def stoO (s : Sto) (id : Nat) : AObj := .row [.d (.sl 1 (qd s.file)), .d (.int .i64 s.synced), .d (.map id)]
def y5 : Cont := ⟨[], 0⟩
def newS : Sto := ⟨[], 0, y5⟩
noncomputable section
set_option maxRecDepth 100000
def xp1 : List SOper := [
 ⟨some 0, .mov (.k (.d .nilptr)), none⟩]
def xp2 : List SOper := [
 ⟨some 1, .makeMap 2, none⟩,
 ⟨some 2, .build [.nilsl, (.int .i64 0), .nilmap] [(2, 1, (.t 1))], none⟩,
 ⟨some 3, .box 1 (.t 2), none⟩,
 ⟨some 0, .mov (.t 3), none⟩]
def s10 : SCode := (.seq (.region xp1 0 []) (.seq (.region xp2 2 []) .ret))
theorem e10 : qg s10.eq_1 := qh s10.eq_1
theorem x8y : qa xp1.eq_1 := qc
theorem x8z : qa xp2.eq_1 := qc
attribute [go_sem] x8y x8z e10
theorem F10 : FnIs Tryz.prog 10 Tryz.f10 [] news s10 [.tmp 0] 4 := zc follows Tryz.func10
def xp3 : List SOper := [
 ⟨some 4, .mov (.k (.d (.int .i64 0))), none⟩]
def xp4 : List SOper := [
 ⟨some 8, .mov (.t 0), none⟩,
 ⟨some 9, .eqnil false .ptr (.t 8), none⟩]
def xp5 : List SOper := [
 ⟨some 4, .mov (.k (.d (.int .i64 7))), none⟩]
def xp6 : List SOper := [
 ⟨some 11, .mov (.t 1), none⟩,
 ⟨some 12, .call (.k (.d (.func (.func 50) [] []))) [(.t 11)], none⟩,
 ⟨some 10, .mov (.t 12), none⟩,
 ⟨some 13, .extract 0 (.t 10), none⟩,
 ⟨some 14, .extract 1 (.t 10), none⟩,
 ⟨some 5, .mov (.t 13), none⟩,
 ⟨some 6, .mov (.t 14), none⟩]
def xp7 : List SOper := [
 ⟨some 15, .mov (.t 6), none⟩,
 ⟨some 16, .bin .neq (.t 15) (.k (.d (.int .i64 0))), none⟩]
def xp8 : List SOper := [
 ⟨some 17, .mov (.t 6), none⟩,
 ⟨some 4, .mov (.t 17), none⟩]
def xp9 : List SOper := [
 ⟨some 18, .mov (.t 0), none⟩,
 ⟨some 19, .nilCheck (.t 18), none⟩,
 ⟨some 20, .faddr 2 (.t 19), none⟩,
 ⟨some 21, .load none (.t 20), none⟩,
 ⟨some 22, .call (.k (.d (.func (.func 51) [] []))) [(.t 21)], none⟩,
 ⟨some 7, .mov (.t 22), none⟩]
def xqa : List SOper := [
 ⟨some 23, .mov (.t 7), none⟩,
 ⟨some 24, .mov (.t 1), none⟩,
 ⟨some 25, .call (.k (.d (.func (.func 52) [] []))) [(.t 23), (.t 24)], none⟩,
 ⟨some 26, .not (.t 25), none⟩]
def xqb : List SOper := [
 ⟨some 4, .mov (.k (.d (.int .i64 28))), none⟩]
def xqc : List SOper := [
 ⟨some 28, .mov (.t 0), none⟩,
 ⟨some 29, .mov (.t 0), none⟩,
 ⟨some 30, .nilCheck (.t 29), none⟩,
 ⟨some 31, .faddr 0 (.t 30), none⟩,
 ⟨some 32, .load (some 2) (.t 31), none⟩,
 ⟨some 33, .mov (.t 5), none⟩,
 ⟨some 34, .call (.k (.d (.func (.func 53) [] []))) [(.t 32), (.t 33)], none⟩,
 ⟨some 27, .mov (.t 34), none⟩,
 ⟨some 35, .extract 0 (.t 27), none⟩,
 ⟨some 36, .extract 1 (.t 27), none⟩,
 ⟨some 37, .nilCheck (.t 28), none⟩,
 ⟨some 38, .faddr 0 (.t 37), none⟩,
 ⟨none, .store (some 2) (.t 38) (.t 35), none⟩]
def q8s : List SOper := [
 ⟨some 39, .mov (.t 0), none⟩,
 ⟨some 40, .mov (.t 7), none⟩,
 ⟨some 41, .nilCheck (.t 39), none⟩,
 ⟨some 42, .faddr 2 (.t 41), none⟩,
 ⟨none, .store none (.t 42) (.t 40), none⟩]
def q8t : List SOper := [
 ⟨some 4, .mov (.k (.d (.int .i64 0))), none⟩]
def s14 : SCode := (.seq (.region xp3 0 []) (.seq (.seq (.region xp4 0 []) (.cond (.t 9) (.seq (.region xp5 0 []) .ret) .skip)) (.seq (.region xp6 0 []) (.seq (.seq (.region xp7 0 []) (.cond (.t 16) (.seq (.region xp8 0 []) .ret) .skip)) (.seq (.region xp9 1 []) (.seq (.seq (.region xqa 0 []) (.cond (.t 26) (.seq (.region xqb 0 []) .ret) .skip)) (.seq (.region xqc 0 []) (.seq (.region q8s 0 []) (.seq (.region q8t 0 []) .ret)))))))))
theorem e14 : qg s14.eq_1 := qh s14.eq_1
theorem x80 : qa xp3.eq_1 := qc
theorem x81 : qa xp4.eq_1 := qc
theorem x82 : qa xp5.eq_1 := qc
theorem x83 : qa xp6.eq_1 := qc
theorem x84 : qa xp7.eq_1 := qc
theorem x85 : qa xp8.eq_1 := qc
theorem x86 : qa xp9.eq_1 := qc
theorem x87 : qa xqa.eq_1 := qc
theorem x88 : qa xqb.eq_1 := qc
theorem x89 : qa xqc.eq_1 := qc
theorem xqd : qa q8s.eq_1 := qc
theorem xqe : qa q8t.eq_1 := qc
attribute [go_sem] x80 x81 x82 x83 x84 x85 x86 x87 x88 x89 xqd xqe e14
theorem F14 : FnIs Tryz.prog 14 Tryz.f14 [] news s14 [.tmp 4] 43 := zc follows Tryz.func14
def xqf : List SOper := [
 ⟨some 4, .mov (.k (.d .nilsl)), none⟩,
 ⟨some 5, .mov (.k (.d (.bool false))), none⟩]
def xqg : List SOper := [
 ⟨some 8, .mov (.t 0), none⟩,
 ⟨some 9, .eqnil false .ptr (.t 8), none⟩]
def xqh : List SOper := [
 ⟨some 4, .mov (.k (.d .nilsl)), none⟩,
 ⟨some 5, .mov (.k (.d (.bool false))), none⟩]
def xqi : List SOper := [
 ⟨some 11, .mov (.t 0), none⟩,
 ⟨some 12, .nilCheck (.t 11), none⟩,
 ⟨some 13, .faddr 2 (.t 12), none⟩,
 ⟨some 14, .load none (.t 13), none⟩,
 ⟨some 15, .mov (.t 1), none⟩,
 ⟨some 16, .lookup .str (.d .nilsl) true (.t 14) (.t 15), none⟩,
 ⟨some 10, .mov (.t 16), none⟩,
 ⟨some 17, .extract 0 (.t 10), none⟩,
 ⟨some 18, .extract 1 (.t 10), none⟩,
 ⟨some 6, .mov (.t 17), none⟩,
 ⟨some 7, .mov (.t 18), none⟩]
def xqj : List SOper := [
 ⟨some 19, .mov (.t 6), none⟩,
 ⟨some 20, .call (.k (.d (.func (.func 63) [] []))) [(.t 19)], none⟩,
 ⟨some 21, .mov (.t 7), none⟩,
 ⟨some 4, .mov (.t 20), none⟩,
 ⟨some 5, .mov (.t 21), none⟩]
def s26 : SCode := (.seq (.region xqf 0 []) (.seq (.seq (.region xqg 0 []) (.cond (.t 9) (.seq (.region xqh 0 []) .ret) .skip)) (.seq (.region xqi 0 []) (.seq (.region xqj 0 []) .ret))))
theorem e26 : qg s26.eq_1 := qh s26.eq_1
theorem x9a : qa xqf.eq_1 := qc
theorem x9b : qa xqg.eq_1 := qc
theorem x9c : qa xqh.eq_1 := qc
theorem x9d : qa xqi.eq_1 := qc
theorem x9e : qa xqj.eq_1 := qc
attribute [go_sem] x9a x9b x9c x9d x9e e26
theorem F26 : FnIs Tryz.prog 26 Tryz.f26 [] news s26 [.tmp 4, .tmp 5] 22 := zc follows Tryz.func26
def xqk : List SOper := [
 ⟨some 2, .alloc 1 [(.d .nilsl), (.d (.int .i64 0))], none⟩]
def xql : List SOper := [
 ⟨some 3, .mov (.t 0), none⟩,
 ⟨some 4, .eqnil false .ptr (.t 3), none⟩]
def xqm : List SOper := [
 ⟨some 5, .build [.nilsl, (.int .i64 0)] [], none⟩,
 ⟨none, .store (some 2) (.t 2) (.t 5), none⟩]
def xqn : List SOper := [
 ⟨some 6, .mov (.t 0), none⟩,
 ⟨some 7, .nilCheck (.t 6), none⟩,
 ⟨some 8, .faddr 0 (.t 7), none⟩,
 ⟨some 9, .faddr 0 (.t 8), none⟩,
 ⟨some 10, .load none (.t 9), none⟩,
 ⟨some 11, .call (.k (.d (.func (.func 63) [] []))) [(.t 10)], none⟩,
 ⟨some 12, .mov (.t 0), none⟩,
 ⟨some 13, .nilCheck (.t 12), none⟩,
 ⟨some 14, .faddr 0 (.t 13), none⟩,
 ⟨some 15, .faddr 1 (.t 14), none⟩,
 ⟨some 16, .load none (.t 15), none⟩,
 ⟨some 17, .build [.nilsl, (.int .i64 0)] [(0, 1, (.t 11)), (1, 1, (.t 16))], none⟩,
 ⟨none, .store (some 2) (.t 2) (.t 17), none⟩]
def s22 : SCode := (.seq (.region xqk 1 []) (.seq (.seq (.region xql 0 []) (.cond (.t 4) (.seq (.region xqm 0 []) .ret) .skip)) (.seq (.region xqn 0 [(5, 10)]) .ret)))
theorem e22 : qg s22.eq_1 := qh s22.eq_1
theorem x9f : qa xqk.eq_1 := qc
theorem x9g : qa xql.eq_1 := qc
theorem x9h : qa xqm.eq_1 := qc
theorem x9i : qa xqn.eq_1 := qc
attribute [go_sem] x9f x9g x9h x9i e22
theorem F22 : FnIs Tryz.prog 22 Tryz.f22 [] news s22 [.cell 2 (some 2)] 18 := zc follows Tryz.func22
def q8u : List SOper := [
 ⟨some 1, .box 2 (.t 0), none⟩,
 ⟨some 2, .alloc 1 [(.d .nilsl), (.d (.int .i64 0))], none⟩]
def q8v : List SOper := [
 ⟨some 3, .faddr 0 (.t 1), none⟩,
 ⟨some 4, .load none (.t 3), none⟩,
 ⟨some 5, .call (.k (.d (.func (.func 63) [] []))) [(.t 4)], none⟩,
 ⟨some 6, .faddr 0 (.t 1), none⟩,
 ⟨some 7, .load none (.t 6), none⟩,
 ⟨some 8, .len (.t 7), none⟩,
 ⟨some 9, .build [.nilsl, (.int .i64 0)] [(0, 1, (.t 5)), (1, 1, (.t 8))], none⟩,
 ⟨none, .store (some 2) (.t 2) (.t 9), none⟩]
def s123 : SCode := (.seq (.region q8u 2 []) (.seq (.region q8v 0 [(2, 4)]) .ret))
theorem zhs : qg s123.eq_1 := qh s123.eq_1
theorem xqo : qa q8u.eq_1 := qc
theorem xqp : qa q8v.eq_1 := qc
attribute [go_sem] xqo xqp zhs
theorem xqq : FnIs Tryz.prog 123 Tryz.f123 [] news s123 [.cell 2 (some 2)] 10 := zc follows Tryz.func123
def xqr : List SOper := [
 ⟨some 2, .mov (.k (.d (.int .i64 0))), none⟩]
def xqs : List SOper := [
 ⟨some 3, .mov (.t 0), none⟩,
 ⟨some 4, .eqnil false .ptr (.t 3), none⟩]
def xqt : List SOper := [
 ⟨some 2, .mov (.k (.d (.int .i64 7))), none⟩]
def xqu : List SOper := [
 ⟨some 5, .mov (.t 0), none⟩,
 ⟨some 6, .mov (.t 0), none⟩,
 ⟨some 7, .nilCheck (.t 6), none⟩,
 ⟨some 8, .faddr 0 (.t 7), none⟩,
 ⟨some 9, .load (some 2) (.t 8), none⟩,
 ⟨some 10, .call (.k (.d (.func (.func 123) [] []))) [(.t 9)], none⟩,
 ⟨some 11, .nilCheck (.t 5), none⟩,
 ⟨some 12, .faddr 0 (.t 11), none⟩,
 ⟨none, .store (some 2) (.t 12) (.t 10), none⟩]
def xqv : List SOper := [
 ⟨some 2, .mov (.k (.d (.int .i64 0))), none⟩]
def s65 : SCode := (.seq (.region xqr 0 []) (.seq (.seq (.region xqs 0 []) (.cond (.t 4) (.seq (.region xqt 0 []) .ret) .skip)) (.seq (.region xqu 0 []) (.seq (.region xqv 0 []) .ret))))
theorem e65 : qg s65.eq_1 := qh s65.eq_1
theorem x9j : qa xqr.eq_1 := qc
theorem x9k : qa xqs.eq_1 := qc
theorem x9l : qa xqt.eq_1 := qc
theorem x9m : qa xqu.eq_1 := qc
theorem x9n : qa xqv.eq_1 := qc
attribute [go_sem] x9j x9k x9l x9m x9n e65
theorem F65 : FnIs Tryz.prog 65 Tryz.f65 [] news s65 [.tmp 2] 13 := zc follows Tryz.func65
end
theorem xqw : qo Tryz.prog 10 [] [] (.d (.ptr 1 0)) [mapO y5, stoO newS 0] := by
 refine F10.go ?_
 try (refine ev6 @mapO.eq_1 @stoO.eq_1 @y5.eq_1 @newS.eq_1 @List.map_nil.{0,0} @qu ?_; try exact True.intro)
def xf (s : Sto) (l : List OpS) : Sto × Int :=
 if (ql l).2 ≠ 0 then (s, (ql l).2) else if (jn s.m l).2 = false then (s, 28) else (⟨jz s.file (ql l).1, s.synced, (jn s.m l).1⟩, 0)
def qfa (s : Sto) (l : List OpS) : List AObj := if (xf s l).2 = 0 then [stoO (xf s l).1 2, mapO s.m, mapO (xf s l).1.m] else [stoO s 1, mapO s.m, .none]
theorem x9 (l : List OpS) : (ql l).1.length ≤ 2000 := by
 unfold ql
 split
 ·simp
 ·split
  ·simp
  ·rename_i h
   simp only [Bool.or_eq_true, decide_eq_true_eq, not_or] at h
   simp only; omega
theorem jk {l : List OpS} (h : (ql l).2 = 0) : l.length ≤ 20 ∧ (∀ o ∈ l, zu o = true) ∧ ql l = (wOps l, 0) := by
 unfold ql at h ⊢
 split at h
 ·simp at h
 ·rename_i h1
  split at h
  ·simp at h
  ·rename_i h2
   rw [if_neg h1, if_neg h2]
   simp only [Bool.or_eq_true, decide_eq_true_eq, not_or, List.any_eq_true, not_exists, not_and] at h1 h2
   exact ⟨by omega, fun o ho => by simpa using h1.2 o ho, rfl⟩
set_option maxRecDepth 10000 in
theorem qpo (s : Sto) (l : List OpS) (hl : l.length ≤ 100000) (hf : s.file.length ≤ 100000000) :
  qo Tryz.prog 14 [.d (.ptr 0 0), .d (.sl 3 (l.map qk))] [stoO s 1, mapO s.m] (.d (.int .i64 (xf s l).2)) (qfa s l) := by
 refine F14.go ?_
 try (refine ev2 @stoO.eq_1 @mapO.eq_1 ?_; try exact True.intro)
 (repeat (with_reducible refine ob ?_)); refine no_ ?_
 try (refine ev ?_; try exact True.intro)
 (repeat (with_reducible refine ob ?_)); first | refine cl F50 (qdb l hl) ?_ | refine clF F50 (qdb l hl) (fun _ => by (refine ev1 @qk.eq_1 ?_; try exact True.intro)) ?_
 try (refine ev ?_; try exact True.intro)
 (repeat (with_reducible refine ob ?_)); refine zk _ (fun h => ?_) (fun h => ?_)
 ·have hne : (ql l).2 ≠ 0 := by simpa using h
  have hb : xf s l = (s, (ql l).2) := by unfold xf; rw [if_pos hne]
  have hb2 : qfa s l = [stoO s 1, mapO s.m, .none] := by unfold qfa; rw [hb, if_neg hne]
  try (refine ev4 @hb @hb2 @stoO.eq_1 @mapO.eq_1 ?_; try exact True.intro)
 have he0 : (ql l).2 = 0 := by simpa using h
 obtain ⟨h20, hpr, henc⟩ := jk he0
 try (refine ev ?_; try exact True.intro)
 refine clO [1, 2] F51 (qpl (s.m.l.map yk) s.m.c) ?_
 try (refine ev ?_; try exact True.intro)
 have hap := qtn s.m l hl (fun o ho => by have := (jg.1 (hpr o ho)).2.2.1; omega)
 simp only [mapO] at hap
 (repeat (with_reducible refine ob ?_)); refine clO [2] F52 (hap) ?_ (hfit := by first | exact ⟨qe, trivial⟩ | exact ⟨qe, qe, trivial⟩ | (refine ev1 @qk.eq_1 ?_; try exact True.intro))
 try (refine ev ?_; try exact True.intro)
 (repeat (with_reducible refine ob ?_)); refine zk _ (fun h => ?_) (fun h => ?_)
 ·have hb : xf s l = (s, 28) := by unfold xf; rw [if_neg (by simp [he0]), if_pos (by simpa using h)]
  have hb2 : qfa s l = [stoO s 1, mapO s.m, .none] := by unfold qfa; rw [hb, if_neg (by simp)]
  try (refine ev4 @hb @hb2 @stoO.eq_1 @mapO.eq_1 ?_; try exact True.intro)
 have hb : xf s l = (⟨jz s.file (ql l).1, s.synced, (jn s.m l).1⟩, 0) := by unfold xf; rw [if_neg (by simp [he0]), if_neg (by simpa using h)]
 have hb2 : qfa s l = [stoO (xf s l).1 2, mapO s.m, mapO (xf s l).1.m] := by unfold qfa; rw [if_pos (by rw [hb])]
 try (refine ev ?_; try exact True.intro)
 (repeat (with_reducible refine ob ?_)); first | refine cl F53 (qe9 s.file (ql l).1 s.synced hf (x9 l)) ?_ | refine clF F53 (qe9 s.file (ql l).1 s.synced hf (x9 l)) (fun _ => by (refine ev1 @qk.eq_1 ?_; try exact True.intro)) ?_
 try (refine ev5 @zt.eq_1 @hb2 @hb @stoO.eq_1 @mapO.eq_1 ?_; try exact True.intro)
def optV (o : Option (List UInt8)) : List UInt8 := o.getD []
theorem xqx (s : Sto) (k : List UInt8) (hm : ∀ x ∈ s.m.l, x.2.2.length ≤ 1000000) :
  qo Tryz.prog 26 [.d (.ptr 0 0), .d (.str k)] [stoO s 1, mapO s.m] (.tup [.d (.sl 1 (qd (optV (mGet k s.m)))), .d (.bool (mGet k s.m).isSome)]) [stoO s 1, mapO s.m] := by
 refine F26.goT ?_
 try (refine ev2 @stoO.eq_1 @mapO.eq_1 ?_; try exact True.intro)
 (repeat (with_reducible refine ob ?_)); refine no_ ?_
 try (refine ev1 @qr7 ?_; try exact True.intro)
 cases hg : mGet k s.m with
 | none =>
  try (refine ev1 @Option.map_none.{0,0} ?_; try exact True.intro)
  have := ky [] (by simp)
  simp only [qu] at this
  (repeat (with_reducible refine ob ?_)); first | refine cl F63 (this) ?_ | refine clF F63 (this) (fun _ => by (refine ev1 @qk.eq_1 ?_; try exact True.intro)) ?_
  try (refine ev4 @optV.eq_1 @Option.getD_none.{0} @qu @Option.isSome_none.{0} ?_; try exact True.intro)
 | some v =>
  have hv : v.length ≤ 1000000 := by
   unfold mGet at hg
   rw [Option.map_eq_some_iff] at hg
   obtain ⟨x, hx, rfl⟩ := hg
   exact hm x (List.mem_of_find?_eq_some hx)
  try (refine ev1 @Option.map_some.{0,0} ?_; try exact True.intro)
  (repeat (with_reducible refine ob ?_)); first | refine cl F63 (ky v (by omega)) ?_ | refine clF F63 (ky v (by omega)) (fun _ => by (refine ev1 @qk.eq_1 ?_; try exact True.intro)) ?_
  try (refine ev3 @optV.eq_1 @Option.getD_some.{0} @Option.isSome_some.{0} ?_; try exact True.intro)
theorem qpp (s : Sto) (hf : s.file.length ≤ 1000000000) :
  qo Tryz.prog 22 [.d (.ptr 0 0)] [stoO s 1, mapO s.m] (.d (.agg (zt s.file s.synced))) [stoO s 1, mapO s.m] := by
 refine F22.go ?_
 try (refine ev2 @stoO.eq_1 @mapO.eq_1 ?_; try exact True.intro)
 (repeat (with_reducible refine ob ?_)); refine no_ ?_
 try (refine ev ?_; try exact True.intro)
 (repeat (with_reducible refine ob ?_)); first | refine cl F63 (ky s.file hf) ?_ | refine clF F63 (ky s.file hf) (fun _ => by (refine ev1 @qk.eq_1 ?_; try exact True.intro)) ?_
 try (refine ev1 @zt.eq_1 ?_; try exact True.intro)
theorem qdc (file : List UInt8) (synced : Int) (hf : file.length ≤ 1000000000) :
  qo Tryz.prog 123 [.d (.agg (zt file synced))] [] (.d (.agg (zt file file.length))) [] := by
 refine xqq.go ?_
 try (refine ev1 @zt.eq_1 ?_; try exact True.intro)
 (repeat (with_reducible refine ob ?_)); first | refine cl F63 (ky file hf) ?_ | refine clF F63 (ky file hf) (fun _ => by (refine ev1 @qk.eq_1 ?_; try exact True.intro)) ?_
 try (refine ev ?_; try exact True.intro)
def qfb (s : Sto) : Sto := ⟨s.file, s.file.length, s.m⟩
theorem xiq (s : Sto) (hf : s.file.length ≤ 1000000000) :
  qo Tryz.prog 65 [.d (.ptr 0 0)] [stoO s 1, mapO s.m] (.d (.int .i64 0)) [stoO (qfb s) 1, mapO s.m] := by
 refine F65.go ?_
 try (refine ev2 @stoO.eq_1 @mapO.eq_1 ?_; try exact True.intro)
 (repeat (with_reducible refine ob ?_)); refine no_ ?_
 try (refine ev ?_; try exact True.intro)
 (repeat (with_reducible refine ob ?_)); first | refine cl xqq (qdc s.file s.synced hf) ?_ | refine clF xqq (qdc s.file s.synced hf) (fun _ => by (refine ev1 @qk.eq_1 ?_; try exact True.intro)) ?_
 try (refine ev2 @zt.eq_1 @qfb.eq_1 ?_; try exact True.intro)
end Go.Proofs.YtinnaedmdoengaaGreat
