/- Texts Wd, We, Wf, Wg, Wh, Va. -/
import Derived.Test.YtinnaedmdoengaaMnl
import Derived.Calls
import Derived.Orders
import Derived.Tactics
import Derived.Laws.AppendOwn
import Derived.Laws.Slices
import Derived.Laws.Closers25
import Derived.Laws.StructEq
import Derived.Laws.BytesString
import Derived.Laws.CopyRow
import Derived.MapKept
import Derived.Maps.RangeRun
import Derived.TacticsIn
import Derived.OrdersIn
import Derived.RangeFuncRecord
import Derived.RangeFuncLeaves
import Derived.IntWalk
import Derived.ProofKit
import Derived.OpenShut
import Derived.Carry
import Derived.Test.YtinnaedmdoengaaProg
import Derived.KernelRfl
import Derived.OwnWalkIn
import Derived.TacticsInMore
import Derived.LoopIn
import Derived.WalkKit

namespace Go.Proofs.Ytinnaedmdoengaa
open Go.Abs Go.RowKit
set_option linter.unusedSimpArgs false
set_option linter.unusedVariables false
theorem q3m (ro : Option Nat) : (Fw ro).round = ro := rfl
theorem x86 (ro : Option Nat) (f : FuncId) : (Fw ro).fn f = True := rfl
theorem q3n (ro : Option Nat) : (Fw ro).depth = none := rfl
attribute [local go_sem] q3m x86 q3n
def partsOf (r : List UInt8) : List (Nat × List UInt8) := if h : r.length > 22 then (1, r.take 22) :: partsOf (r.drop 22) else [(2, r)]
termination_by r.length
decreasing_by simp; omega
def yj (p : Nat × List UInt8) : List D := [.int .u8 (p.1 : Nat), .sl 1 (qe p.2)]
theorem qat {r : List UInt8} (h : r.length > 22) : partsOf r = (1, r.take 22) :: partsOf (r.drop 22) := by rw [partsOf, dif_pos h]
theorem qau {r : List UInt8} (h : ¬ r.length > 22) : partsOf r = [(2, r)] := by rw [partsOf, dif_neg h]
theorem qf9 (r : List UInt8) : ∀ n, (0 < n → 22 * n < r.length) → (partsOf r).drop n = partsOf (r.drop (22 * n))
 | 0, _ => by simp
 | n + 1, h => by
  have h1 := h (by omega)
  have ih := qf9 r n (fun _ => by omega)
  rw [← List.drop_drop, ih, qat (by rw [List.length_drop]; omega), List.drop_succ_cons, List.drop_zero, List.drop_drop]
  rfl
theorem qmy {r : List UInt8} {n : Nat} {p : Nat × List UInt8} {l : List (Nat × List UInt8)} (h : (partsOf r).drop n = p :: l) : ((partsOf r).map yj)[n]? = some (yj p) := by
 have : (partsOf r)[n]? = some p := by
  have := congrArg (fun l => l[0]?) h
  simpa using this
 rw [List.getElem?_map, this]; rfl
theorem qpa {W : World} {b : Nat} {c : Array Value} {e : TypeId} {z : Nat × Nat} (v : Value) (h : W.heap[b]? = some (.cells c e z)) : (W.setCell ⟨b, 0, none⟩ v).heap[b]? = some (.cells (c.setIfInBounds 0 v) e z) := by
 simp [World.setCell, Array.getElem?_modify, h]
theorem qmz {W : World} {b k : Nat} (v : Value) (h : k ≠ b) : (W.setCell ⟨b, 0, none⟩ v).heap[k]? = W.heap[k]? := by
 simp [World.setCell, Array.getElem?_modify, Ne.symm h]
theorem qyd {g : Ghost} {w : World} {b off cap len : Nat} {r : List UInt8} (h : RV g w (.slice (some ⟨b, off, none⟩) len cap) (.sl 1 (qe r))) (n m c : Nat) (hn : n + m ≤ r.length) (hc : m ≤ c) (h0 : r ≠ []) :
  RV g w (.slice (some ⟨b, off + n, none⟩) m c) (.sl 1 (qe ((r.drop n).take m))) := by
 generalize hvd : qe r = rows at h
 have hne : rows ≠ [] := by rw [← hvd]; cases r <;> simp [qe] at h0 ⊢
 cases h with
 | nilsl => exact (hne rfl).elim
 | sl _ _ _ _ n0 o _ f hg hnn hcap hes hcl hcell hrv =>
 subst hvd
 have hfl : (qe ((r.drop n).take m)).flatten = (((qe r).flatten).drop n).take m := by simp only [yt, List.map_take, List.map_drop]
 have hlen : (qe ((r.drop n).take m)).length = m := by rw [x9, List.length_take, List.length_drop]; omega
 have hsub : ∀ (j : Nat) (d : D), (qe ((r.drop n).take m)).flatten[j]? = some d → (qe r).flatten[n + j]? = some d := by
  intro j d hj
  rw [hfl, List.getElem?_take] at hj
  split at hj
  ·rwa [List.getElem?_drop] at hj
  ·cases hj
 have := RV.sl (g := g) (w := w) b (off + n) c 1 n0 o (qe ((r.drop n).take m)) (fun j => f (n + j)) hg (by
   rw [hfl, List.length_take, List.length_drop]
   have h1 : (qe r).flatten.length = r.length := by simp [yt]
   rw [h1] at hnn ⊢
   omega) (by rw [hlen]; exact hc) (by intro x hx; obtain ⟨c, _, rfl⟩ := List.mem_map.1 hx; rfl) (by
   intro d hd
   obtain ⟨j, hj⟩ := List.getElem?_of_mem hd
   exact hcl d (List.mem_of_getElem? (hsub j d hj))) (fun j d hj => by rw [Nat.add_assoc]; exact hcell _ d (hsub j d hj)) (fun j d hj => hrv _ d (hsub j d hj))
 rwa [hlen] at this
set_option maxRecDepth 100000 in
set_option maxHeartbeats 1000000 in
theorem qvc (r : List UInt8) (hl : r.length ≤ 1000000000) : ASeq Try.prog 122 [.ptr 0 0] [.row [.d (.sl 1 (qe r))]] ((partsOf r).map yj) := by
 refine ⟨by rw [Try.func122]; rfl, ?_⟩
 intro g w lb l J hd hlb hrv hobj hab hY h0
 match lb, hlb with
 | [v0], _ =>
 have hp := hrv 0 v0 _ rfl rfl
 cases hp with
 | ptr b _ _ hg =>
 obtain ⟨b', hb', hro⟩ := (hobj.objs 0 _ rfl (by simp)).resolve_right (fun h => by cases h.1)
 have : b' = b := hobj.inj b' b 0 hb' hg
 subst this
 obtain ⟨c, e, hh, hsz, hc⟩ := hro
 obtain ⟨v, hv0, _, hv⟩ := hc 0 _ rfl
 have hv : RV g w v (.sl 1 (qe r)) := hv
 refine callsIn_of_wp Try.func122 rfl trivial ?_ rfl
 simp only [Try.ntmps122, List.size_toArray, List.length_cons, List.length_nil, Nat.reduceAdd, Nat.reduceSub, Array.replicate_succ, Array.replicate_zero, List.push_toArray, List.append_toArray, List.nil_append, List.cons_append]
 generalize hvd : qe r = rows at hv
 cases hv with
 | nilsl a cc _ hn =>
  have hr0 : r = [] := by cases r <;> simp [qe] at hvd ⊢
  subst hr0
  have hsp : (partsOf []).drop 0 = [(2, [])] := by rw [List.drop_zero, qau (by simp)]
  refine wpIn_seq (wpIn_block ?_)
  refine qdv (fun m a W => (∃ t3 t4 t5 t6 t7 t8 t9 t10 t11 t12 t13 t14 t15, a = { tmps := #[.func (.yield l) #[] #[], .pointer (some ⟨b', 0, none⟩), undef, t3, t4, t5, t6, t7, t8, t9, t10, t11, t12, t13, t14, t15], defers := [] }) ∧ W.heap[b']? = some (.cells c e (0, 0)) ∧ J 0 W) (n0 := 0)
   ⟨⟨_, _, _, _, _, _, _, _, _, _, _, _, _, rfl⟩, hh, h0⟩ ?_
  rintro m ac W ⟨⟨t3, t4, t5, t6, t7, t8, t9, t10, t11, t12, t13, t14, t15, rfl⟩, hhW, hJ⟩
  have hcW : W.cell? ⟨b', 0, none⟩ = some (.slice a 0 cc) := by simp [World.cell?, hhW, hv0]
  have hfW : W.frozen? ⟨b', 0, none⟩ = false := by simp [World.frozen?, hhW]
  obtain ⟨fn, tmps, assign, body, hy, hR⟩ := hY 0 _ [.int .u8 2, .slice a 0 cc] W (qmy hsp) hJ rfl (by
   intro i v d hi hd
   match i with
   | 0 => simp [yj] at hi hd; subst hi; subst hd; exact .int _ _
   | 1 => simp [yj] at hi hd; subst hi; subst hd; exact .nilsl a cc 1 hn
   | i + 2 => simp at hi)
  gi_wp2
  refine hR.mono ?_
  rintro e1 W1 ⟨rfl, hJ1, hk1⟩
  gi_wp2
  go_end0
  have hln : (partsOf []).length = 1 := by have := congrArg List.length hsp; simpa using this
  exact ⟨⟨_, rfl⟩, by rw [List.length_map, hln]; exact hJ1⟩
 | sl bb off cap _ n0 o _ f hgb hnn hcap hes hcl hcell hrvv =>
 subst hvd
 have hv : RV g w (.slice (some ⟨bb, off, none⟩) (qe r).length cap) (.sl 1 (qe r)) := hv
 refine wpIn_seq (wpIn_block ?_)
 refine qdv (fun m a W => ∃ n, m = r.length - 22 * n ∧ 22 * n ≤ r.length ∧ (0 < n → 22 * n < r.length) ∧ (∃ t3 t4 t5 t6 t7 t8 t9 t10 t11 t12 t13 t14 t15, a = { tmps := #[.func (.yield l) #[] #[], .pointer (some ⟨b', 0, none⟩), undef, t3, t4, t5, t6, t7, t8, t9, t10, t11, t12, t13, t14, t15], defers := [] }) ∧
  W.heap[b']? = some (.cells (c.setIfInBounds 0 (.slice (some ⟨bb, off + 22 * n, none⟩) (r.length - 22 * n) (cap - 22 * n))) e (0, 0)) ∧ J n W) (n0 := r.length) ⟨0, by omega, by omega, by omega, ⟨_, _, _, _, _, _, _, _, _, _, _, _, _, rfl⟩, ?_, h0⟩ ?_
 ·rw [x9] at hv0
  rw [hh, show off + 22 * 0 = off by omega, show r.length - 22 * 0 = r.length by omega, show cap - 22 * 0 = cap by omega]
  congr 2
  apply Array.ext
  ·simp
  ·intro i h1 h2
   rw [Array.getElem_setIfInBounds]
   split
   ·rename_i h; subst h; simpa [Array.getElem?_eq_getElem h1] using hv0
   ·rfl
 rintro m a W ⟨n, rfl, hn1, hn2, ⟨t3, t4, t5, t6, t7, t8, t9, t10, t11, t12, t13, t14, t15, rfl⟩, hhW, hJ⟩
 have hcW : W.cell? ⟨b', 0, none⟩ = some (.slice (some ⟨bb, off + 22 * n, none⟩) (r.length - 22 * n) (cap - 22 * n)) := by
  have : 0 < c.size := by simp at hsz; omega
  simp [World.cell?, hhW, this]
 have hfW : W.frozen? ⟨b', 0, none⟩ = false := by simp [World.frozen?, hhW]
 by_cases hmore : r.length - 22 * n > 22
 ·have hmi : ((r.length - 22 * n : Nat) : Int) > 22 := by omega
  have hlc : r.length ≤ cap := by simpa [x9] using hcap
  have hci : (22 : Int) ≤ ((cap - 22 * n : Nat) : Int) := by omega
  have hci2 : (22 : Int) ≤ ((r.length - 22 * n : Nat) : Int) := by omega
  have hci3 : ((r.length - 22 * n : Nat) : Int) ≤ ((cap - 22 * n : Nat) : Int) := by omega
  have hsp : (partsOf r).drop n = (1, (r.drop (22 * n)).take 22) :: partsOf ((r.drop (22 * n)).drop 22) := by rw [qf9 r n hn2, qat (by rw [List.length_drop]; exact hmore)]
  obtain ⟨fn, tmps, assign, body, hy, hR⟩ := hY n _ [.int .u8 1, .slice (some ⟨bb, off + 22 * n, none⟩) 22 (cap - 22 * n)] W (qmy hsp) hJ rfl (by
   intro i v d hi hd
   match i with
   | 0 => simp [yj] at hi hd; subst hi; subst hd; exact .int _ _
   | 1 => simp [yj] at hi hd; subst hi; subst hd; exact qyd hv (22 * n) 22 _ (by omega) (by omega) (by intro h; rw [h] at hmore; simp at hmore)
   | i + 2 => simp at hi)
  gi_wp2
  refine hR.mono ?_
  rintro e1 W1 ⟨rfl, hJ1, hk1⟩
  have hhW1 := (hk1 b' 0 hg).trans hhW
  have hcW1 : W1.cell? ⟨b', 0, none⟩ = some (.slice (some ⟨bb, off + 22 * n, none⟩) (r.length - 22 * n) (cap - 22 * n)) := by
   have : 0 < c.size := by simp at hsz; omega
   simp [World.cell?, hhW1, this]
  have hfW1 : W1.frozen? ⟨b', 0, none⟩ = false := by simp [World.frozen?, hhW1]
  gi_wp2
  refine ⟨_, ?_, n + 1, rfl, by omega, by omega, ⟨_, _, _, _, _, _, _, _, _, _, _, _, _, rfl⟩, ?_, ?_⟩
  ·omega
  ·rw [qpa _ hhW1, Array.setIfInBounds_setIfInBounds]
   have e1 : off + 22 * n + 22 = off + 22 * (n + 1) := by omega
   have e2 : r.length - 22 * n - 22 = r.length - 22 * (n + 1) := by omega
   have e3 : cap - 22 * n - 22 = cap - 22 * (n + 1) := by omega
   rw [e1, e2, e3]
  ·refine hab (n + 1) W1 _ hJ1 rfl rfl rfl (by simp [World.setCell]) (fun k hk => qmz _ (fun h => hk 0 (h ▸ hg)))
 ·have hmi : ¬ ((r.length - 22 * n : Nat) : Int) > 22 := by omega
  have hsp : (partsOf r).drop n = [(2, r.drop (22 * n))] := by rw [qf9 r n hn2, qau (by rw [List.length_drop]; exact hmore)]
  have hln : (partsOf r).length = n + 1 := by
   have := congrArg List.length hsp
   simp at this; omega
  obtain ⟨fn, tmps, assign, body, hy, hR⟩ := hY n _ [.int .u8 2, .slice (some ⟨bb, off + 22 * n, none⟩) (r.length - 22 * n) (cap - 22 * n)] W (qmy hsp) hJ rfl (by
   intro i v d hi hd
   match i with
   | 0 => simp [yj] at hi hd; subst hi; subst hd; exact .int _ _
   | 1 =>
    simp [yj] at hi hd; subst hi; subst hd
    rcases Nat.eq_zero_or_pos n with rfl | hn0
    ·have e1 : cap - 22 * 0 = cap := by omega
     rw [e1]
     simpa [x9] using hv
    ·have h1 := hn2 hn0
     have := qyd hv (22 * n) (r.length - 22 * n) (cap - 22 * n) (by omega) (by
      have : r.length ≤ cap := by simpa [x9] using hcap
      omega) (by intro h; rw [h] at h1; simp at h1)
     rwa [List.take_of_length_le (by rw [List.length_drop]; omega)] at this
   | i + 2 => simp at hi)
  gi_wp2
  refine hR.mono ?_
  rintro e1 W1 ⟨rfl, hJ1, hk1⟩
  gi_wp2
  go_end0
  exact ⟨⟨_, rfl⟩, by rw [List.length_map, hln]; exact hJ1⟩
end Go.Proofs.Ytinnaedmdoengaa
namespace Go.Proofs.Ytinnaedmdoengaa
open Go.Abs
set_option linter.unusedSimpArgs false
noncomputable section
set_option maxRecDepth 100000
def xo3 : List SOper := [
 ⟨some 1, .box 1 (.t 0), none⟩,
 ⟨some 2, .mov (.k (.d .nilfunc)), none⟩]
def xo4 : List SOper := [
 ⟨some 3, .mkFunc (.func 122) [] [(.t 1)], none⟩,
 ⟨some 2, .mov (.t 3), none⟩]
def s93 : SCode := (.seq (.region xo3 1 []) (.seq (.region xo4 0 []) .ret))
theorem e93 : qg s93.eq_1 := qh s93.eq_1
theorem x87 : qa xo3.eq_1 := qc
theorem x88 : qa xo4.eq_1 := qc
attribute [go_sem] x87 x88 e93
theorem F93 : FnIs Try.prog 93 Try.f93 [] news s93 [.tmp 2] 4 := x5 follows Try.func93
def xo5 : List SOper := [
 ⟨some 2, .box 2 (.t 0), none⟩,
 ⟨some 4, .alloc 1 [(.d .nilsl), (.d (.int .i64 0))], none⟩,
 ⟨some 5, .mov (.k (.d (.int .i64 0))), none⟩]
def xo6 : List SOper := [
 ⟨some 14, .mov (.t 1), none⟩,
 ⟨some 15, .len (.t 14), none⟩,
 ⟨some 16, .bin .gtr (.t 15) (.k (.d (.int .i64 2000))), none⟩]
def xo7 : List SOper := [
 ⟨some 17, .build [.nilsl, (.int .i64 0)] [], none⟩,
 ⟨none, .store (some 2) (.t 4) (.t 17), none⟩,
 ⟨some 5, .mov (.k (.d (.int .i64 6))), none⟩]
def xo8 : List SOper := [
 ⟨some 18, .faddr 0 (.t 2), none⟩,
 ⟨some 19, .load none (.t 18), none⟩,
 ⟨some 20, .len (.t 19), none⟩,
 ⟨some 6, .mov (.t 20), none⟩]
def xo9 : List SOper := [
 ⟨some 21, .faddr 0 (.t 2), none⟩,
 ⟨some 22, .load none (.t 21), none⟩,
 ⟨some 23, .call (.k (.d (.func (.func 92) [] []))) [(.t 22)], none⟩,
 ⟨some 7, .alloc 1 [(.d (.int .u64 0))], none⟩,
 ⟨none, .store none (.t 7) (.t 23), none⟩]
def xpa : List SOper := [
 ⟨some 24, .faddr 0 (.t 2), none⟩,
 ⟨some 25, .load none (.t 24), none⟩,
 ⟨some 26, .mov (.t 6), none⟩,
 ⟨some 27, .mov (.t 6), none⟩,
 ⟨some 28, .slice 1 (.t 25) none (some (.t 26)) (some (.t 27)), none⟩,
 ⟨some 8, .alloc 1 [(.d .nilsl)], none⟩,
 ⟨none, .store none (.t 8) (.t 28), none⟩]
def xpb : List SOper := [
 ⟨some 29, .mov (.t 1), none⟩,
 ⟨some 30, .call (.k (.d (.func (.func 93) [] []))) [(.t 29)], none⟩]
def xpc : List SOper := [
 ⟨some 9, .mov (.t 31), none⟩]
def xpd : List SOper := [
 ⟨some 10, .mov (.t 32), none⟩]
def xpe : List SOper := [
 ⟨some 11, .alloc 1 [(.d (.int .u8 0)), (.d (.int .u8 0)), (.d (.int .u8 0)), (.d (.int .u8 0)), (.d (.int .u8 0)), (.d (.int .u8 0)), (.d (.int .u8 0)), (.d (.int .u8 0)), (.d (.int .u8 0)), (.d (.int .u8 0)), (.d (.int .u8 0)), (.d (.int .u8 0)), (.d (.int .u8 0)), (.d (.int .u8 0)), (.d (.int .u8 0)), (.d (.int .u8 0)), (.d (.int .u8 0)), (.d (.int .u8 0)), (.d (.int .u8 0)), (.d (.int .u8 0)), (.d (.int .u8 0)), (.d (.int .u8 0)), (.d (.int .u8 0)), (.d (.int .u8 0))], none⟩]
def q7i : List SOper := [
 ⟨some 33, .mov (.t 9), none⟩,
 ⟨some 34, .mov (.t 10), none⟩,
 ⟨some 35, .len (.t 34), none⟩,
 ⟨some 36, .conv .u8 (.t 35), none⟩,
 ⟨some 37, .iaddrA 24 1 (.t 11) (.k (.d (.int .i64 0))), none⟩,
 ⟨none, .store none (.t 37) (.t 33), none⟩,
 ⟨some 38, .iaddrA 24 1 (.t 11) (.k (.d (.int .i64 1))), none⟩,
 ⟨none, .store none (.t 38) (.t 36), none⟩]
def q7j : List SOper := [
 ⟨some 39, .sliceA 24 1 (.t 11) (some (.k (.d (.int .i64 2)))) none none, none⟩,
 ⟨some 40, .mov (.t 10), none⟩,
 ⟨some 41, .copy 1 (.t 39) (.t 40), none⟩]
def q7k : List SOper := [
 ⟨some 43, .load none (.t 7), none⟩,
 ⟨some 44, .sliceA 24 1 (.t 11) none none none, none⟩,
 ⟨some 45, .call (.k (.d (.func (.func 94) [] []))) [(.t 43), (.t 44)], none⟩,
 ⟨some 42, .mov (.t 45), none⟩,
 ⟨some 46, .extract 0 (.t 42), none⟩,
 ⟨some 47, .extract 1 (.t 42), none⟩,
 ⟨some 13, .alloc 1 [(.d (.int .u8 0)), (.d (.int .u8 0)), (.d (.int .u8 0)), (.d (.int .u8 0)), (.d (.int .u8 0)), (.d (.int .u8 0)), (.d (.int .u8 0)), (.d (.int .u8 0))], none⟩,
 ⟨some 12, .mov (.t 46), none⟩,
 ⟨none, .store (some 8) (.t 13) (.t 47), none⟩]
def q7l : List SOper := [
 ⟨some 48, .load none (.t 8), none⟩,
 ⟨some 49, .sliceA 24 1 (.t 11) none none none, none⟩,
 ⟨some 50, .append false 1 1 (.t 48) (.t 49), none⟩,
 ⟨some 51, .sliceA 8 1 (.t 13) none none none, none⟩,
 ⟨some 52, .append false 1 1 (.t 50) (.t 51), none⟩,
 ⟨some 53, .mov (.t 12), none⟩,
 ⟨none, .store none (.t 8) (.t 52), none⟩,
 ⟨none, .store none (.t 7) (.t 53), none⟩]
def qye : SCode := (.seq (.region xpc 0 []) (.region xpd 0 []))
theorem xpf : qg qye.eq_1 := qh qye.eq_1
def qyf : SCode := (.block 1 (.seq (.region xpe 1 []) (.seq (.region q7i 0 []) (.seq (.region q7j 0 []) (.seq (.region q7k 1 [(0, 6), (1, 6), (2, 6)]) (.region q7l 0 []))))))
theorem xpg : qg qyf.eq_1 := qh qyf.eq_1
def q7m : List SOper := [
 ⟨some 54, .load none (.t 8), none⟩,
 ⟨some 55, .faddr 1 (.t 2), none⟩,
 ⟨some 56, .load none (.t 55), none⟩,
 ⟨some 57, .build [.nilsl, (.int .i64 0)] [(0, 1, (.t 54)), (1, 1, (.t 56))], none⟩,
 ⟨none, .store (some 2) (.t 4) (.t 57), none⟩,
 ⟨some 5, .mov (.k (.d (.int .i64 0))), none⟩]
def s42 : SCode := (.seq (.region xo5 2 []) (.seq (.seq (.region xo6 0 []) (.cond (.t 16) (.seq (.region xo7 0 []) .ret) .skip)) (.seq (.region xo8 0 []) (.seq (.region xo9 1 []) (.seq (.region xpa 1 []) (.seq (.seq (.region xpb 1 []) (.block 0 (.rangeFunc (.t 30) [31, 32] qye qyf))) (.seq (.region q7m 0 []) .ret)))))))
theorem e42 : qg s42.eq_1 := qh s42.eq_1
theorem x89 : qa xo5.eq_1 := qc
theorem x9a : qa xo6.eq_1 := qc
theorem x9b : qa xo7.eq_1 := qc
theorem x9c : qa xo8.eq_1 := qc
theorem x9d : qa xo9.eq_1 := qc
theorem x9e : qa xpa.eq_1 := qc
theorem x9f : qa xpb.eq_1 := qc
theorem x9g : qa xpc.eq_1 := qc
theorem x9h : qa xpd.eq_1 := qc
theorem x9i : qa xpe.eq_1 := qc
theorem xph : qa q7i.eq_1 := qc
theorem xpi : qa q7j.eq_1 := qc
theorem xpj : qa q7k.eq_1 := qc
theorem xpk : qa q7l.eq_1 := qc
theorem xpl : qa q7m.eq_1 := qc
attribute [go_sem] x89 x9a x9b x9c x9d x9e x9f x9g x9h x9i xph xpi xpj xpk xpf xpg xpl e42
theorem F42 : FnIs Try.prog 42 Try.f42 [] news s42 [.cell 4 (some 2), .tmp 5] 58 := x5 follows Try.func42
end
theorem q3o (r : List UInt8) : ql Try.prog 93 [.d (.sl 1 (qe r))] [] (.d (.func (.func 122) [] [.ptr 0 0])) [.row [.d (.sl 1 (qe r))]] := by
 refine F93.go ?_
 try (refine ev ?_; try exact True.intro)
 exact ⟨_, rfl⟩
def qe2 (p : Nat × List UInt8) : List UInt8 := [UInt8.ofNat p.1, UInt8.ofNat p.2.length] ++ p.2 ++ List.replicate (22 - p.2.length) 0
def qcq (x : List UInt8 × Nat) (p : Nat × List UInt8) : List UInt8 × Nat := (x.1 ++ qe2 p ++ be8 (fnv x.2 (qe2 p)), fnv x.2 (qe2 p))
def j0 (x : List UInt8 × Nat) (l : List (Nat × List UInt8)) : List UInt8 × Nat := l.foldl qcq x
def qcr (file r : List UInt8) : List UInt8 := (j0 (file, qdc file) (partsOf r)).1
theorem qby : ∀ (n : Nat) (r : List UInt8), r.length ≤ n → ∀ p ∈ partsOf r, (p.1 = 1 ∨ p.1 = 2) ∧ p.2.length ≤ 22
 | n, r, hn => by
  intro p hp
  by_cases h : r.length > 22
  ·rw [qat h] at hp
   rcases List.mem_cons.1 hp with rfl | hp
   ·exact ⟨.inl rfl, by simp; omega⟩
   ·cases n with
    | zero => omega
    | succ n => exact qby n (r.drop 22) (by rw [List.length_drop]; omega) p hp
  ·rw [qau h] at hp
   have : p = (2, r) := by simpa using hp
   subst this
   exact ⟨.inr rfl, by simp only; omega⟩
theorem qi9 : ∀ (n : Nat) (r : List UInt8), r.length ≤ n → (partsOf r).length ≤ r.length + 1
 | n, r, hn => by
  by_cases h : r.length > 22
  ·rw [qat h]
   cases n with
   | zero => omega
   | succ n =>
    have := qi9 n (r.drop 22) (by rw [List.length_drop]; omega)
    rw [List.length_drop] at this
    rw [List.length_cons]
    omega
  ·rw [qau h]; simp
theorem qlc {p : Nat × List UInt8} (h : p.2.length ≤ 22) : (qe2 p).length = 24 := by simp [qe2]; omega
theorem qpb (x : List UInt8 × Nat) (l : List (Nat × List UInt8)) (p : Nat × List UInt8) : j0 x (l ++ [p]) = qcq (j0 x l) p := by unfold j0; rw [List.foldl_append, List.foldl_cons, List.foldl_nil]
theorem qja (x : List UInt8 × Nat) : ∀ l : List (Nat × List UInt8), (∀ p ∈ l, p.2.length ≤ 22) → (j0 x l).1.length = x.1.length + 32 * l.length := by
 intro l h
 induction l generalizing x with
 | nil => simp [j0]
 | cons p l ih =>
  have := ih (qcq x p) (fun q hq => h q (List.mem_cons_of_mem _ hq))
  have h1 := qlc (h p List.mem_cons_self)
  have h2 : j0 x (p :: l) = j0 (qcq x p) l := rfl
  rw [h2, this, qcq]
  simp only [List.length_append, k8, h1, List.length_cons]
  omega
theorem q3p (file : List UInt8) : qdc file < 18446744073709551616 := by
 unfold qdc
 split
 ·omega
 ·have := qmv 8 (file.drop (file.length - 8)) (by rw [List.length_drop]; omega)
  have e : (256 : Nat) ^ 8 = 18446744073709551616 := by decide
  omega
theorem qvd (x : List UInt8 × Nat) (hx : x.2 < 18446744073709551616) (l : List (Nat × List UInt8)) : (j0 x l).2 < 18446744073709551616 := by
 induction l generalizing x with
 | nil => exact hx
 | cons p l ih =>
  have h1 : (qcq x p).2 = fnv x.2 (qe2 p) := by rw [qcq]
  have h2 : (qcq x p).2 < 18446744073709551616 := by rw [h1]; exact qo4 hx _
  have h3 : j0 x (p :: l) = j0 (qcq x p) l := rfl
  rw [h3]; exact ih _ h2
theorem qr5 {cs new : List ASlot} {off : Nat} (h : off + new.length ≤ cs.length) : vt cs off new = cs.take off ++ new ++ cs.drop (off + new.length) := by
 apply List.ext_getElem?
 intro i
 rw [qan new cs off i h]
 split
 ·rename_i hi
  rw [List.append_assoc, List.getElem?_append_right (by rw [List.length_take]; omega), List.length_take, Nat.min_eq_left (by omega), List.getElem?_append_left (by omega)]
 ·rename_i hi
  rcases Nat.lt_or_ge i off with h1 | h1
  ·rw [List.append_assoc, List.getElem?_append_left (by rw [List.length_take]; omega), List.getElem?_take, if_pos h1]
  ·rw [List.getElem?_append_right (by simp only [List.length_append, List.length_take]; omega), List.getElem?_drop]
   congr 1
   simp only [List.length_append, List.length_take]; omega
theorem qve (p : Nat × List UInt8) (h1 : p.1 = 1 ∨ p.1 = 2) (h2 : p.2.length ≤ 22) :
  vt [ASlot.d (D.int .u8 (p.1 : Nat)), ASlot.d (D.int .u8 (IntKind.u8.wrap (p.2.length : Nat))), ASlot.d (D.int .u8 0), ASlot.d (D.int .u8 0), ASlot.d (D.int .u8 0), ASlot.d (D.int .u8 0), ASlot.d (D.int .u8 0), ASlot.d (D.int .u8 0), ASlot.d (D.int .u8 0), ASlot.d (D.int .u8 0), ASlot.d (D.int .u8 0), ASlot.d (D.int .u8 0), ASlot.d (D.int .u8 0), ASlot.d (D.int .u8 0), ASlot.d (D.int .u8 0), ASlot.d (D.int .u8 0), ASlot.d (D.int .u8 0), ASlot.d (D.int .u8 0), ASlot.d (D.int .u8 0), ASlot.d (D.int .u8 0), ASlot.d (D.int .u8 0), ASlot.d (D.int .u8 0), ASlot.d (D.int .u8 0), ASlot.d (D.int .u8 0)] 2 (List.map ASlot.d (List.take 22 (qe p.2)).flatten) = ((qe2 p).map zh).map ASlot.d := by
 have e1 : (List.take 22 (qe p.2)).flatten = p.2.map zh := by rw [List.take_of_length_le (by rw [x9]; exact h2), yt]
 have e2 : [ASlot.d (D.int .u8 (p.1 : Nat)), ASlot.d (D.int .u8 (IntKind.u8.wrap (p.2.length : Nat))), ASlot.d (D.int .u8 0), ASlot.d (D.int .u8 0), ASlot.d (D.int .u8 0), ASlot.d (D.int .u8 0), ASlot.d (D.int .u8 0), ASlot.d (D.int .u8 0), ASlot.d (D.int .u8 0), ASlot.d (D.int .u8 0), ASlot.d (D.int .u8 0), ASlot.d (D.int .u8 0), ASlot.d (D.int .u8 0), ASlot.d (D.int .u8 0), ASlot.d (D.int .u8 0), ASlot.d (D.int .u8 0), ASlot.d (D.int .u8 0), ASlot.d (D.int .u8 0), ASlot.d (D.int .u8 0), ASlot.d (D.int .u8 0), ASlot.d (D.int .u8 0), ASlot.d (D.int .u8 0), ASlot.d (D.int .u8 0), ASlot.d (D.int .u8 0)] = ([UInt8.ofNat p.1, UInt8.ofNat p.2.length] ++ List.replicate 22 0).map (fun c => ASlot.d (zh c)) := by
  have a1 : ((p.1 : Nat) : Int) = ((UInt8.ofNat p.1).toNat : Int) := by rcases h1 with h | h <;> rw [h] <;> rfl
  have a2 := qmq p.2.length
  rw [a1, a2]
  rfl
 rw [e1, e2, qr5 (by simp; omega)]
 have a3 : ([UInt8.ofNat p.1, UInt8.ofNat p.2.length] ++ List.replicate 22 (0 : UInt8)).drop (2 + p.2.length) = List.replicate (22 - p.2.length) 0 := by
  rw [List.drop_append, List.drop_of_length_le (by simp), List.nil_append, List.drop_replicate]
  congr 1
  simp only [List.length_cons, List.length_nil]; omega
 rw [← List.map_take, ← List.map_drop, List.length_map, List.length_map, a3, qe2]
 simp only [List.cons_append, List.nil_append, List.take_succ_cons, List.take_zero, List.map_cons, List.map_nil, List.map_append, List.map_map]
 rfl
theorem qpc (h : Nat) : vt [ASlot.d (D.int .u8 0), ASlot.d (D.int .u8 0), ASlot.d (D.int .u8 0), ASlot.d (D.int .u8 0), ASlot.d (D.int .u8 0), ASlot.d (D.int .u8 0), ASlot.d (D.int .u8 0), ASlot.d (D.int .u8 0)] 0 (((be8 h).map zh).map ASlot.d) = ((be8 h).map zh).map .d := rfl
theorem qjb (s : List UInt8) (n : Nat) : (List.take n (s.map zh)).all D.isCell = true := by rw [← List.map_take]; exact qi7 _
theorem qga {os : List AObj} {id n : Nat} {s : List UInt8} (h : qf os id = (s.map zh).map .d) (hn : s.length = n) : vk os id 0 1 n = qe s := by
 unfold vk
 rw [h, List.drop_zero, qk6, ← hn, qo5]
theorem qyg (a b c d : AObj) (l : List AObj) (s : List UInt8) (h : s.length = 24) : vk (a :: b :: c :: d :: .row ((s.map zh).map .d) :: l) 4 0 1 24 = qe s := qga rfl h
theorem qyh (a b c d e : AObj) (l : List AObj) (s : List UInt8) (h : s.length = 8) : vk (a :: b :: c :: d :: e :: .row ((s.map zh).map .d) :: l) 5 0 1 8 = qe s := qga rfl h
def Sapp (file r : List UInt8) (synced : Int) (k : Nat) : St :=
 ⟨[(2, true, .d (.ptr 0 0)), (4, true, .d (.ptr 1 0)), (5, true, .d (.int .i64 0)), (7, true, .d (.ptr 2 0)), (8, true, .d (.ptr 3 0))],
  [.row [.d (.sl 1 (qe file)), .d (.int .i64 synced)], .row [.d .nilsl, .d (.int .i64 0)], .row [.d (.int .u64 ((j0 (file, qdc file) ((partsOf r).take k)).2 : Nat))], .row [.own 0 1 (qe (j0 (file, qdc file) ((partsOf r).take k)).1)]], [0], 1⟩
def qav (file : List UInt8) (synced : Int) : List D := [.sl 1 (qe file), .int .i64 synced]
theorem qpd (file : List UInt8) (synced : Int) : D.noPtrL (qav file synced) = true := by simp only [qav, D.noPtrL, D.noPtr, vo, Bool.and_self]
attribute [go_sem] qpd
set_option maxRecDepth 10000 in
theorem qpe (file r : List UInt8) (synced : Int) (hf : file.length ≤ 100000000) (hr : r.length ≤ 2000) :
  ql Try.prog 42 [.d (.agg (qav file synced)), .d (.sl 1 (qe r))] [] (.tup [.d (.agg (qav (qcr file r) synced)), .d (.int .i64 0)]) [] := by
 refine F42.goT ?_
 have hr0 : decide ((r.length : Int) > 2000) = false := by simp; omega
 try (refine ev1 @qav.eq_1 ?_; try exact True.intro)
 try (refine ev1 @hr0 ?_; try exact True.intro)
 (repeat (with_reducible refine ob ?_)); refine no_ ?_
 try (refine ev ?_; try exact True.intro)
 (repeat (with_reducible refine ob ?_)); refine cl F92 (xfx file (by omega)) ?_
 try (refine ev ?_; try exact True.intro)
 (repeat (with_reducible refine ob ?_))
 refine clO [4] F93 (q3o r) ?_
 try (refine ev ?_; try exact True.intro)
 have hft : List.take (file.length - 0) (qe file) = qe file := List.take_of_length_le (by rw [x9]; omega)
 try (refine ev1 @hft ?_; try exact True.intro)
 refine xim 122 [.ptr 0 0] [4] [.row [.d (.sl 1 (qe r))]] ((partsOf r).map yj) (Sapp file r synced) [(2, true, .d (.ptr 0 0)), (4, true, .d (.ptr 1 0)), (5, true, .d (.int .i64 0)), (7, true, .d (.ptr 2 0)), (8, true, .d (.ptr 3 0))]
  (qvc r (by omega)) ?_ ?_ ?_ ?_ ?_ ?_
 ·try (refine ev4 @Sapp.eq_1 @List.take_zero.{0} @j0.eq_1 @List.foldl_nil.{0,0} ?_; try exact True.intro)
 ·intro k vs hk
  rw [List.getElem?_map, Option.map_eq_some_iff] at hk
  obtain ⟨p, hp, rfl⟩ := hk
  obtain ⟨p1, p2⟩ := qby _ r (Nat.le_refl _) p (List.mem_of_getElem? hp)
  obtain ⟨hk, hpk⟩ := List.getElem?_eq_some_iff.1 hp
  have htk : (partsOf r).take (k + 1) = (partsOf r).take k ++ [p] := by rw [List.take_succ_eq_append_getElem hk, hpk]
  have hh := qvd (file, qdc file) (q3p file) ((partsOf r).take k)
  have hln : (j0 (file, qdc file) ((partsOf r).take k)).1.length ≤ 200000000 := by
   rw [qja _ _ (fun q hq => (qby _ r (Nat.le_refl _) q (List.mem_of_mem_take hq)).2), List.length_take]
   have := qi9 _ r (Nat.le_refl _)
   simp only; omega
  have h24 := qlc p2
  generalize hx : j0 (file, qdc file) ((partsOf r).take k) = x at hh hln
  have hx1 : j0 (file, qdc file) ((partsOf r).take (k + 1)) = qcq x p := by rw [htk, qpb, hx]
  have hc := qve p p1 p2
  have hck := qx7 x.2 (qe2 p) hh (by omega)
  rw [h24] at hck
  try (refine ev5 @Sapp.eq_1 @yj.eq_1 @hx @hx1 @hc ?_; try exact True.intro)
  (repeat (with_reducible refine ob ?_))
  refine clO [4] F94 hck ?_
  try simp only [qpc, qjb, qyg _ _ _ _ _ _ h24, qyh _ _ _ _ _ _ _ (k8 _), k8, h24, xi, go_sem, Nat.reduceAdd, Nat.reduceMul, Nat.reduceSub, Nat.reduceEqDiff, Nat.reduceLT, Nat.reduceLeDiff, Nat.reduceBEq, reduceIte, reduceCtorEq, Int.reduceAdd, Int.reduceLT, Int.reduceLE, Int.reduceGT, Int.reduceGE, Int.reduceEq, Int.reduceNe, Int.reduceBEq, Int.reduceBNe, Int.reduceToNat, Int.reduceNeg]
  refine ⟨by omega, by omega, .weak ?_ (.refl _)⟩
  try (refine ev1 @qcq.eq_1 ?_; try exact True.intro)
 ·have hw : j0 (file, qdc file) (List.take (partsOf r).length (partsOf r)) = j0 (file, qdc file) (partsOf r) := by rw [List.take_length]
  try (refine ev3 @Sapp.eq_1 @hw @qcr.eq_1 ?_; try exact True.intro)
 ·intro vs hvs
  obtain ⟨p, _, rfl⟩ := List.mem_map.1 hvs
  exact ⟨rfl, by simp [yj, D.noPtrL, D.noPtr, vo]⟩
 ·try (refine ev ?_; try exact True.intro)
 ·intro k id hid
  have : id = 4 := by simpa using hid
  subst this
  rfl
end Go.Proofs.Ytinnaedmdoengaa
namespace Go.Proofs.Ytinnaedmdoengaa
open Go.Abs
set_option linter.unusedSimpArgs false
set_option linter.unusedVariables false
noncomputable section
set_option maxRecDepth 100000
def xpm : List SOper := [
 ⟨some 2, .mov (.k (.d .nilsl)), none⟩]
def xpn : List SOper := [
 ⟨some 3, .mov (.t 0), none⟩,
 ⟨some 4, .eqnilS false (.t 3), none⟩]
def xpo : List SOper := [
 ⟨some 2, .mov (.k (.d .nilsl)), none⟩]
def xpp : List SOper := [
 ⟨some 5, .buildSlice false 1 0 [(.int .u8 0)] [], none⟩,
 ⟨some 6, .mov (.t 0), none⟩,
 ⟨some 7, .append false 1 1 (.t 5) (.t 6), none⟩,
 ⟨some 2, .mov (.t 7), none⟩]
def s43 : SCode := (.seq (.region xpm 0 []) (.seq (.seq (.region xpn 0 []) (.cond (.t 4) (.seq (.region xpo 0 []) .ret) .skip)) (.seq (.region xpp 0 []) .ret)))
theorem e43 : qg s43.eq_1 := qh s43.eq_1
theorem x9j : qa xpm.eq_1 := qc
theorem x9k : qa xpn.eq_1 := qc
theorem x9l : qa xpo.eq_1 := qc
theorem x9m : qa xpp.eq_1 := qc
attribute [go_sem] x9j x9k x9l x9m e43
theorem F43 : FnIs Try.prog 43 Try.f43 [] news s43 [.tmp 2] 8 := x5 follows Try.func43
def xpq : List SOper := [
 ⟨some 2, .mov (.k (.d .nilmap)), none⟩]
def xpr : List SOper := [
 ⟨some 3, .mov (.t 0), none⟩,
 ⟨some 4, .eqnil false .map (.t 3), none⟩]
def xps : List SOper := [
 ⟨some 2, .mov (.k (.d .nilmap)), none⟩]
def xpt : List SOper := [
 ⟨some 5, .mov (.t 0), none⟩,
 ⟨some 6, .mkIface 90 (.t 5), none⟩,
 ⟨some 7, .call (.k (.d (.func (.func 91) [] []))) [(.t 6)], none⟩,
 ⟨some 8, .assertT 90 false (.t 7), none⟩,
 ⟨some 2, .mov (.t 8), none⟩]
def s40 : SCode := (.seq (.region xpq 0 []) (.seq (.seq (.region xpr 0 []) (.cond (.t 4) (.seq (.region xps 0 []) .ret) .skip)) (.seq (.region xpt 0 []) .ret)))
theorem e40 : qg s40.eq_1 := qh s40.eq_1
theorem x9n : qa xpq.eq_1 := qc
theorem x9o : qa xpr.eq_1 := qc
theorem x9p : qa xps.eq_1 := qc
theorem x9q : qa xpt.eq_1 := qc
attribute [go_sem] x9n x9o x9p x9q e40
theorem F40 : FnIs Try.prog 40 Try.f40 [] news s40 [.tmp 2] 9 := x5 follows Try.func40
end
theorem k9 (s : List UInt8) (hl : s.length ≤ 1000000000) : ql Try.prog 43 [.d (.sl 1 (qe s))] [] (.d (.sl 1 (qe s))) [] := by
 refine F43.go ?_
 try (refine ev ?_; try exact True.intro)
 refine qrl rfl rfl (fun b hb => ?_)
 try (refine ev ?_; try exact True.intro)
 (repeat (with_reducible refine ob ?_)); refine jj _ (fun h => ?_) (fun h => ?_)
 ·try (refine ev1 (hb h) ?_; try exact True.intro)
 ·try (refine ev ?_; try exact True.intro)
  omega
theorem qvf (w : World) (t : TypeId) (b : Nat) (es : Array MapEntry) (clock : Nat) (hb : w.heap[b]? = some (.map es clock)) :
  (callFunc 91 #[.iface t (.map (some b))]).run Try.prog w = .ok (.value (.iface t (.map (some w.heap.size)))) (w.alloc (.map es clock)) := by
 rw [run_callFunc_extern Try.func91 rfl (by kernel_rfl) (by kernel_rfl) (e := Extern.MapsClone.clone) (by kernel_rfl)]
 have e : Extern.MapsClone.clone #[.iface t (.map (some b))] = (getObj b >>= fun o => match o with
   | .map entries clock => (newObj (.map entries clock) >>= fun n => pure (.iface t (.map (some n))))
   | _ => stuck "maps.clone: a map expected") := rfl
 rw [e]
 simp [MapKept.run_getObj_map hb, Result.andThen]
set_option maxRecDepth 100000 in
set_option maxHeartbeats 1000000 in
theorem qyi (es : Ents) (c : Nat) : ql Try.prog 40 [.d (.map 0)] [.map es c] (.d (.map 1)) [.map es c, .map es c] := by
 intro g w vs hd hlen hv ho
 match vs, hlen with
 | [v0], _ =>
 have h0 := qgv (jg (xz (hv 0 v0 _ rfl rfl)))
 obtain ⟨b, rfl, hg⟩ := h0
 obtain ⟨b', hb', l, hh, hl, he⟩ := (ho.objs 0 _ rfl (by simp)).resolve_right (fun h => by cases h.1)
 have : b' = b := ho.inj b' b 0 hb' hg
 subst this
 go_enter Try.func40, Try.ntmps40
 have hcl := qvf w 90 b' l.toArray c hh
 have hbin : (binOp .eql 90 (.map (some b')) (.map none)).run Try.prog w = .ok (.bool false) w := by
  simp [binOp, qeh Try.underlying90]
 have hta : ∀ W, (Instr.typeAssert (.iface 90 (.map (some w.heap.size))) 20 90 false).run Try.prog W = .ok (.map (some w.heap.size)) W := fun W => by
  simp [Instr.typeAssert, run_underlying Try.underlying90]
 go_wp2_with (first | simp only [hbin, Result.andThen_ok] | simp only [hcl] | simp only [hta, Result.andThen_ok])
 go_ret
 have hs : SR 0 (fun _ => False) g w ⟨[], [.map es c, .none], [], 1⟩ { tmps := #[], defers := [] } := by
  refine ⟨hd, trivial, rfl, fun k v s h => by simp [Fr.get] at h, fun id o hid hn => ?_, ho.inj, fun b id hb => ?_, ⟨by simp, fun k s h => by simp [Fr.get] at h, fun id o hid s hs => ?_⟩⟩
  ·match id with
   | 0 => exact ho.objs 0 o hid hn
   | 1 => simp at hid; exact (hn hid.symm).elim
   | i + 2 => simp at hid
  ·obtain ⟨o, h1, h2⟩ := ho.ids b id hb
   refine ⟨o, ?_, h2⟩
   match id with
   | 0 => exact h1
   | i + 1 => simp at h1
  ·match id with
   | 0 => simp at hid; subst hid; simp [AObj.cells] at hs
   | 1 => simp at hid; subst hid; simp [AObj.cells] at hs
   | i + 2 => simp at hid
 obtain ⟨q1, q2⟩ := hs.newObjA (id := 1) (o := .map es c) (blk := .map l.toArray c) rfl (by simp) (fun hG hr _ => ⟨l, heap_alloc_new w _, hl, fun i e x h1 h2 => (he i e x h1 h2).mono hr⟩) (by simp [AObj.cells])
 refine ⟨_, _, [], rfl, q1, q2.dom, by simp [ASlot.toks], .map _ 1 (Ghost.at_same _ _ _), ⟨fun id o hid hn => q2.objs id o hid hn, q2.inj, fun b id hb => q2.ids b id hb⟩⟩
end Go.Proofs.Ytinnaedmdoengaa
namespace Go.Proofs.Ytinnaedmdoengaa
open Go.Abs
set_option linter.unusedSimpArgs false
set_option linter.unusedVariables false
abbrev KV := Nat × List UInt8 × List UInt8
structure Cont where
 l : List KV
 c : Nat
 deriving DecidableEq, Inhabited
def qai (x : KV) : Nat × D × D := (x.1, .str x.2.1, .sl 1 (qe x.2.2))
def mapO (m : Cont) : AObj := .map (m.l.map qai) m.c
def xp (k : List UInt8) (x : KV) : Bool := k == x.2.1
def mPut (k v : List UInt8) (m : Cont) : Cont := match m.l.findIdx? (xp k) with
 | some j => ⟨m.l.modify j fun e => (e.1, k, v), m.c⟩
 | none => ⟨m.l ++ [(m.c, k, v)], m.c + 1⟩
def mDel (k : List UInt8) (m : Cont) : Cont := match m.l.findIdx? (xp k) with
 | some j => ⟨m.l.eraseIdx j, m.c⟩
 | none => m
def mGet (k : List UInt8) (m : Cont) : Option (List UInt8) := (m.l.find? (xp k)).map (·.2.2)
theorem qd1 (k : List UInt8) (l : List KV) : (l.map qai).findIdx? (qb8 (.str k)) = l.findIdx? (xp k) := by
 rw [List.findIdx?_map]; rfl
theorem qvg (k v : List UInt8) (m : Cont) : qhz (.str k) (.sl 1 (qe v)) m.c (m.l.map qai) = (mPut k v m).l.map qai := by
 unfold qhz mPut
 rw [qd1]
 cases h : m.l.findIdx? (xp k) with
 | none => simp [qai]
 | some j =>
  simp only
  apply List.ext_getElem?
  intro i
  rw [List.getElem?_modify, List.getElem?_map, List.getElem?_map, List.getElem?_modify]
  cases m.l[i]? with
  | none => rfl
  | some x =>
   show some (if j = i then _ else _) = some (qai (if j = i then _ else _))
   split <;> rfl
theorem qpf (k v : List UInt8) (m : Cont) : qbl (.str k) m.c (m.l.map qai) = (mPut k v m).c := by
 unfold qbl mPut
 rw [qd1]
 cases m.l.findIdx? (xp k) <;> rfl
theorem qvh (k : List UInt8) (m : Cont) : qh0 (.str k) (m.l.map qai) = (mDel k m).l.map qai := by
 unfold qh0 mDel
 rw [qd1]
 cases m.l.findIdx? (xp k) with
 | none => rfl
 | some j =>
  simp only
  apply List.ext_getElem?
  intro i
  rw [List.getElem?_eraseIdx, List.getElem?_map, List.getElem?_map, List.getElem?_map, List.getElem?_eraseIdx]
  split <;> rfl
theorem q7n (k : List UInt8) (m : Cont) : (mDel k m).c = m.c := by unfold mDel; split <;> rfl
theorem qvi (k : List UInt8) (l : List KV) : qgq .str (.str k) (l.map qai) = true := by
 simp only [qgq, KD.is, Bool.true_and, List.all_map]
 exact List.all_eq_true.2 fun x _ => rfl
theorem qr6 (k : List UInt8) (m : Cont) : yg (.str k) (m.l.map qai) = (mGet k m).map fun v => .sl 1 (qe v) := by
 unfold yg mGet
 rw [List.find?_map]
 have : qb8 (.str k) ∘ qai = xp k := rfl
 rw [this]
 cases m.l.find? (xp k) <;> rfl
attribute [go_sem] qvi
def va : Cont → List OpS → Cont × Bool
 | m, [] => (m, true)
 | m, o :: l => if o.del then va (mDel o.key m) l else if (mPut o.key o.val m).l.length > 400 then (mPut o.key o.val m, false) else va (mPut o.key o.val m) l
noncomputable section
set_option maxRecDepth 100000
def xpv : List SOper := [
 ⟨some 4, .mov (.k (.d (.bool false))), none⟩]
def xpw : List SOper := [
 ⟨some 7, .mov (.t 1), none⟩,
 ⟨some 8, .len (.t 7), none⟩,
 ⟨some 9, .mov (.k (.d (.int .i64 0))), none⟩]
def xpx : List SOper := [
 ⟨some 10, .bin .lss (.t 9) (.t 8), none⟩]
def xpy : List SOper := [
 ⟨some 11, .iaddr 3 (.t 7) (.t 9), none⟩,
 ⟨some 12, .load (some 3) (.t 11), none⟩,
 ⟨some 6, .alloc 1 [(.d (.str [])), (.d (.bool false)), (.d .nilsl)], none⟩,
 ⟨none, .store (some 3) (.t 6) (.t 12), none⟩]
def xpz : List SOper := [
 ⟨some 13, .faddr 1 (.t 6), none⟩,
 ⟨some 14, .load none (.t 13), none⟩]
def xp0 : List SOper := [
 ⟨some 15, .mov (.t 0), none⟩,
 ⟨some 16, .faddr 0 (.t 6), none⟩,
 ⟨some 17, .load none (.t 16), none⟩,
 ⟨none, .delete .str (.t 15) (.t 17), none⟩]
def xp1 : List SOper := [
 ⟨some 18, .mov (.t 0), none⟩,
 ⟨some 19, .faddr 0 (.t 6), none⟩,
 ⟨some 20, .load none (.t 19), none⟩,
 ⟨some 21, .faddr 2 (.t 6), none⟩,
 ⟨some 22, .load none (.t 21), none⟩,
 ⟨some 23, .call (.k (.d (.func (.func 43) [] []))) [(.t 22)], none⟩,
 ⟨none, .mapUpdate .str (.t 18) (.t 20) (.t 23), none⟩]
def xp2 : List SOper := [
 ⟨some 24, .mov (.t 0), none⟩,
 ⟨some 25, .lenM (.t 24), none⟩,
 ⟨some 26, .bin .gtr (.t 25) (.k (.d (.int .i64 400))), none⟩]
def xp3 : List SOper := [
 ⟨some 4, .mov (.k (.d (.bool false))), none⟩]
def xp4 : List SOper := [
 ⟨some 27, .bin .add (.t 9) (.k (.d (.int .i64 1))), none⟩,
 ⟨some 9, .mov (.t 27), none⟩]
def qyj : SCode := (.seq (.region xpx 0 []) (.seq (.cond (.t 10) .skip (.exit 0)) (.seq (.block 1 (.seq (.region xpy 1 []) (.seq (.seq (.region xpz 0 []) (.cond (.t 14) (.seq (.region xp0 0 []) (.exit 1)) .skip)) (.seq (.region xp1 0 [(2, 5)]) (.seq (.region xp2 0 []) (.cond (.t 26) (.seq (.region xp3 0 []) .ret) .skip)))))) (.region xp4 0 []))))
theorem xp5 : qg qyj.eq_1 := qh qyj.eq_1
def q7o : List SOper := [
 ⟨some 4, .mov (.k (.d (.bool true))), none⟩]
def s41 : SCode := (.seq (.region xpv 0 []) (.seq (.seq (.region xpw 0 []) (.block 0 (.loop qyj))) (.seq (.region q7o 0 []) .ret)))
theorem e41 : qg s41.eq_1 := qh s41.eq_1
theorem x9r : qa xpv.eq_1 := qc
theorem x9s : qa xpw.eq_1 := qc
theorem x9t : qa xpx.eq_1 := qc
theorem x9u : qa xpy.eq_1 := qc
theorem x9v : qa xpz.eq_1 := qc
theorem x9w : qa xp0.eq_1 := qc
theorem x9x : qa xp1.eq_1 := qc
theorem x9y : qa xp2.eq_1 := qc
theorem x9z : qa xp3.eq_1 := qc
theorem x90 : qa xp4.eq_1 := qc
theorem xp6 : qa q7o.eq_1 := qc
attribute [go_sem] x9r x9s x9t x9u x9v x9w x9x x9y x9z x90 xp5 xp6 e41
theorem F41 : FnIs Try.prog 41 Try.f41 [] news s41 [.tmp 4] 28 := x5 follows Try.func41
end
def qpg (m : Cont) (l : List OpS) (i : { i : Nat × Cont // i.1 ≤ l.length ∧ va i.2 (l.drop i.1) = va m l }) : St :=
 ⟨[(0, true, .d (.map 0)), (7, true, .d (.sl 3 (l.map qs))), (8, true, .d (.int .i64 l.length)), (9, true, .d (.int .i64 (i.val.1 : Nat)))], [mapO i.val.2], [], 1⟩
theorem q3q (m : Cont) (l : List OpS) (hl : l.length ≤ 100000) (hv : ∀ o ∈ l, o.val.length ≤ 1000000) : ql Try.prog 41 [.d (.map 0), .d (.sl 3 (l.map qs))] [mapO m] (.d (.bool (va m l).2)) [mapO (va m l).1] := by
 refine F41.go ?_
 try (refine ev1 @mapO.eq_1 ?_; try exact True.intro)
 refine qy (qpg m l) (fun i => l.length - i.val.1) ⟨(0, m), Nat.zero_le _, rfl⟩ ?_ (fun i => ?_)
 ·try (refine ev2 @qpg.eq_1 @mapO.eq_1 ?_; try exact True.intro)
 obtain ⟨⟨i, mi⟩, hi, ha⟩ := i
 simp only at hi ha
 try (refine ev2 @qpg.eq_1 @mapO.eq_1 ?_; try exact True.intro)
 refine jj _ (fun hc => ?_) (fun hc => ?_)
 ·have hil : i < l.length := by simpa using hc
  have hd : l.drop i = l[i] :: l.drop (i + 1) := List.drop_eq_getElem_cons hil
  rw [hd, va] at ha
  try (refine ev2 (xg qs l hil) @qs.eq_1 ?_; try exact True.intro)
  (repeat (with_reducible refine ob ?_))
  (repeat (with_reducible refine ob ?_)); refine jj _ (fun h => ?_) (fun h => ?_)
  ·rw [if_pos h] at ha
   try (refine ev1 @qvh ?_; try exact True.intro)
   refine ⟨⟨(i + 1, mDel l[i].key mi), hil, ha⟩, ?_, by dsimp only; omega⟩
   try (refine ev4 @qpg.eq_1 @mapO.eq_1 @q7n (qv (show i < 9223372036854775807 by omega)) ?_; try exact True.intro)
  ·rw [if_neg (by simp [h])] at ha
   try (refine ev ?_; try exact True.intro)
   (repeat (with_reducible refine ob ?_)); first | refine cl F43 (k9 l[i].val (by have := hv l[i] (List.getElem_mem hil); omega)) ?_ | refine clF F43 (k9 l[i].val (by have := hv l[i] (List.getElem_mem hil); omega)) (fun _ => by (refine ev1 @qs.eq_1 ?_; try exact True.intro)) ?_
   try simp only [qvg, qpf _ l[i].val, go_sem, Nat.reduceAdd, Nat.reduceMul, Nat.reduceSub, Nat.reduceEqDiff, Nat.reduceLT, Nat.reduceLeDiff, Nat.reduceBEq, reduceIte, reduceCtorEq, Int.reduceAdd, Int.reduceLT, Int.reduceLE, Int.reduceGT, Int.reduceGE, Int.reduceEq, Int.reduceNe, Int.reduceBEq, Int.reduceBNe, Int.reduceToNat, Int.reduceNeg]
   refine jj _ (fun h4 => ?_) (fun h4 => ?_)
   ·rw [if_pos (by simp at h4; omega)] at ha
    try (refine ev1 ha.symm ?_; try exact True.intro)
   ·rw [if_neg (by simp at h4; omega)] at ha
    try (refine ev ?_; try exact True.intro)
    refine ⟨⟨(i + 1, mPut l[i].key l[i].val mi), hil, ha⟩, ?_, by dsimp only; omega⟩
    try (refine ev3 @qpg.eq_1 @mapO.eq_1 (qv (show i < 9223372036854775807 by omega)) ?_; try exact True.intro)
 ·have hie : i = l.length := by simp at hc; omega
  subst hie
  rw [List.drop_length, va] at ha
  try (refine ev1 ha.symm ?_; try exact True.intro)
end Go.Proofs.Ytinnaedmdoengaa
namespace Go.Proofs.Ytinnaedmdoengaa
open Go.Abs
set_option linter.unusedSimpArgs false
set_option linter.unusedVariables false
structure Sto where
 file : List UInt8
 synced : Int
 m : Cont
 deriving DecidableEq, Inhabited
def stoO (s : Sto) (id : Nat) : AObj := .row [.d (.sl 1 (qe s.file)), .d (.int .i64 s.synced), .d (.map id)]
def qph : Cont := ⟨[], 0⟩
def newS : Sto := ⟨[], 0, qph⟩
noncomputable section
set_option maxRecDepth 100000
def xp7 : List SOper := [
 ⟨some 0, .mov (.k (.d .nilptr)), none⟩]
def xp8 : List SOper := [
 ⟨some 1, .makeMap 2, none⟩,
 ⟨some 2, .build [.nilsl, (.int .i64 0), .nilmap] [(2, 1, (.t 1))], none⟩,
 ⟨some 3, .box 1 (.t 2), none⟩,
 ⟨some 0, .mov (.t 3), none⟩]
def s12 : SCode := (.seq (.region xp7 0 []) (.seq (.region xp8 2 []) .ret))
theorem e12 : qg s12.eq_1 := qh s12.eq_1
theorem x91 : qa xp7.eq_1 := qc
theorem x92 : qa xp8.eq_1 := qc
attribute [go_sem] x91 x92 e12
theorem F12 : FnIs Try.prog 12 Try.f12 [] news s12 [.tmp 0] 4 := x5 follows Try.func12
def xp9 : List SOper := [
 ⟨some 4, .mov (.k (.d (.int .i64 0))), none⟩]
def xqa : List SOper := [
 ⟨some 8, .mov (.t 0), none⟩,
 ⟨some 9, .eqnil false .ptr (.t 8), none⟩]
def xqb : List SOper := [
 ⟨some 4, .mov (.k (.d (.int .i64 7))), none⟩]
def xqc : List SOper := [
 ⟨some 11, .mov (.t 1), none⟩,
 ⟨some 12, .call (.k (.d (.func (.func 30) [] []))) [(.t 11)], none⟩,
 ⟨some 10, .mov (.t 12), none⟩,
 ⟨some 13, .extract 0 (.t 10), none⟩,
 ⟨some 14, .extract 1 (.t 10), none⟩,
 ⟨some 5, .mov (.t 13), none⟩,
 ⟨some 6, .mov (.t 14), none⟩]
def xqd : List SOper := [
 ⟨some 15, .mov (.t 6), none⟩,
 ⟨some 16, .bin .neq (.t 15) (.k (.d (.int .i64 0))), none⟩]
def xqe : List SOper := [
 ⟨some 17, .mov (.t 6), none⟩,
 ⟨some 4, .mov (.t 17), none⟩]
def xqf : List SOper := [
 ⟨some 18, .mov (.t 0), none⟩,
 ⟨some 19, .nilCheck (.t 18), none⟩,
 ⟨some 20, .faddr 2 (.t 19), none⟩,
 ⟨some 21, .load none (.t 20), none⟩,
 ⟨some 22, .call (.k (.d (.func (.func 40) [] []))) [(.t 21)], none⟩,
 ⟨some 7, .mov (.t 22), none⟩]
def xqg : List SOper := [
 ⟨some 23, .mov (.t 7), none⟩,
 ⟨some 24, .mov (.t 1), none⟩,
 ⟨some 25, .call (.k (.d (.func (.func 41) [] []))) [(.t 23), (.t 24)], none⟩,
 ⟨some 26, .not (.t 25), none⟩]
def xqh : List SOper := [
 ⟨some 4, .mov (.k (.d (.int .i64 28))), none⟩]
def xqi : List SOper := [
 ⟨some 28, .mov (.t 0), none⟩,
 ⟨some 29, .mov (.t 0), none⟩,
 ⟨some 30, .nilCheck (.t 29), none⟩,
 ⟨some 31, .faddr 0 (.t 30), none⟩,
 ⟨some 32, .load (some 2) (.t 31), none⟩,
 ⟨some 33, .mov (.t 5), none⟩,
 ⟨some 34, .call (.k (.d (.func (.func 42) [] []))) [(.t 32), (.t 33)], none⟩,
 ⟨some 27, .mov (.t 34), none⟩,
 ⟨some 35, .extract 0 (.t 27), none⟩,
 ⟨some 36, .extract 1 (.t 27), none⟩,
 ⟨some 37, .nilCheck (.t 28), none⟩,
 ⟨some 38, .faddr 0 (.t 37), none⟩,
 ⟨none, .store (some 2) (.t 38) (.t 35), none⟩]
def q7p : List SOper := [
 ⟨some 39, .mov (.t 0), none⟩,
 ⟨some 40, .mov (.t 7), none⟩,
 ⟨some 41, .nilCheck (.t 39), none⟩,
 ⟨some 42, .faddr 2 (.t 41), none⟩,
 ⟨none, .store none (.t 42) (.t 40), none⟩]
def q7q : List SOper := [
 ⟨some 4, .mov (.k (.d (.int .i64 0))), none⟩]
def s13 : SCode := (.seq (.region xp9 0 []) (.seq (.seq (.region xqa 0 []) (.cond (.t 9) (.seq (.region xqb 0 []) .ret) .skip)) (.seq (.region xqc 0 []) (.seq (.seq (.region xqd 0 []) (.cond (.t 16) (.seq (.region xqe 0 []) .ret) .skip)) (.seq (.region xqf 1 []) (.seq (.seq (.region xqg 0 []) (.cond (.t 26) (.seq (.region xqh 0 []) .ret) .skip)) (.seq (.region xqi 0 []) (.seq (.region q7p 0 []) (.seq (.region q7q 0 []) .ret)))))))))
theorem e13 : qg s13.eq_1 := qh s13.eq_1
theorem x93 : qa xp9.eq_1 := qc
theorem x94 : qa xqa.eq_1 := qc
theorem x95 : qa xqb.eq_1 := qc
theorem x96 : qa xqc.eq_1 := qc
theorem x97 : qa xqd.eq_1 := qc
theorem x98 : qa xqe.eq_1 := qc
theorem x99 : qa xqf.eq_1 := qc
theorem zaa : qa xqg.eq_1 := qc
theorem zab : qa xqh.eq_1 := qc
theorem zac : qa xqi.eq_1 := qc
theorem xqj : qa q7p.eq_1 := qc
theorem xqk : qa q7q.eq_1 := qc
attribute [go_sem] x93 x94 x95 x96 x97 x98 x99 zaa zab zac xqj xqk e13
theorem F13 : FnIs Try.prog 13 Try.f13 [] news s13 [.tmp 4] 43 := x5 follows Try.func13
def xql : List SOper := [
 ⟨some 4, .mov (.k (.d .nilsl)), none⟩,
 ⟨some 5, .mov (.k (.d (.bool false))), none⟩]
def xqm : List SOper := [
 ⟨some 8, .mov (.t 0), none⟩,
 ⟨some 9, .eqnil false .ptr (.t 8), none⟩]
def xqn : List SOper := [
 ⟨some 4, .mov (.k (.d .nilsl)), none⟩,
 ⟨some 5, .mov (.k (.d (.bool false))), none⟩]
def xqo : List SOper := [
 ⟨some 11, .mov (.t 0), none⟩,
 ⟨some 12, .nilCheck (.t 11), none⟩,
 ⟨some 13, .faddr 2 (.t 12), none⟩,
 ⟨some 14, .load none (.t 13), none⟩,
 ⟨some 15, .mov (.t 1), none⟩,
 ⟨some 16, .lookup .str (.d .nilsl) true (.t 14) (.t 15), none⟩,
 ⟨some 10, .mov (.t 16), none⟩,
 ⟨some 17, .extract 0 (.t 10), none⟩,
 ⟨some 18, .extract 1 (.t 10), none⟩,
 ⟨some 6, .mov (.t 17), none⟩,
 ⟨some 7, .mov (.t 18), none⟩]
def xqp : List SOper := [
 ⟨some 19, .mov (.t 6), none⟩,
 ⟨some 20, .call (.k (.d (.func (.func 43) [] []))) [(.t 19)], none⟩,
 ⟨some 21, .mov (.t 7), none⟩,
 ⟨some 4, .mov (.t 20), none⟩,
 ⟨some 5, .mov (.t 21), none⟩]
def s15 : SCode := (.seq (.region xql 0 []) (.seq (.seq (.region xqm 0 []) (.cond (.t 9) (.seq (.region xqn 0 []) .ret) .skip)) (.seq (.region xqo 0 []) (.seq (.region xqp 0 []) .ret))))
theorem e15 : qg s15.eq_1 := qh s15.eq_1
theorem zad : qa xql.eq_1 := qc
theorem zae : qa xqm.eq_1 := qc
theorem zaf : qa xqn.eq_1 := qc
theorem zag : qa xqo.eq_1 := qc
theorem zah : qa xqp.eq_1 := qc
attribute [go_sem] zad zae zaf zag zah e15
theorem F15 : FnIs Try.prog 15 Try.f15 [] news s15 [.tmp 4, .tmp 5] 22 := x5 follows Try.func15
def xqq : List SOper := [
 ⟨some 2, .alloc 1 [(.d .nilsl), (.d (.int .i64 0))], none⟩]
def xqr : List SOper := [
 ⟨some 3, .mov (.t 0), none⟩,
 ⟨some 4, .eqnil false .ptr (.t 3), none⟩]
def xqs : List SOper := [
 ⟨some 5, .build [.nilsl, (.int .i64 0)] [], none⟩,
 ⟨none, .store (some 2) (.t 2) (.t 5), none⟩]
def xqt : List SOper := [
 ⟨some 6, .mov (.t 0), none⟩,
 ⟨some 7, .nilCheck (.t 6), none⟩,
 ⟨some 8, .faddr 0 (.t 7), none⟩,
 ⟨some 9, .faddr 0 (.t 8), none⟩,
 ⟨some 10, .load none (.t 9), none⟩,
 ⟨some 11, .call (.k (.d (.func (.func 43) [] []))) [(.t 10)], none⟩,
 ⟨some 12, .mov (.t 0), none⟩,
 ⟨some 13, .nilCheck (.t 12), none⟩,
 ⟨some 14, .faddr 0 (.t 13), none⟩,
 ⟨some 15, .faddr 1 (.t 14), none⟩,
 ⟨some 16, .load none (.t 15), none⟩,
 ⟨some 17, .build [.nilsl, (.int .i64 0)] [(0, 1, (.t 11)), (1, 1, (.t 16))], none⟩,
 ⟨none, .store (some 2) (.t 2) (.t 17), none⟩]
def s28 : SCode := (.seq (.region xqq 1 []) (.seq (.seq (.region xqr 0 []) (.cond (.t 4) (.seq (.region xqs 0 []) .ret) .skip)) (.seq (.region xqt 0 [(5, 10)]) .ret)))
theorem e28 : qg s28.eq_1 := qh s28.eq_1
theorem zai : qa xqq.eq_1 := qc
theorem zaj : qa xqr.eq_1 := qc
theorem zak : qa xqs.eq_1 := qc
theorem zal : qa xqt.eq_1 := qc
attribute [go_sem] zai zaj zak zal e28
def xqu : List SOper := [
 ⟨some 1, .box 2 (.t 0), none⟩,
 ⟨some 2, .alloc 1 [(.d .nilsl), (.d (.int .i64 0))], none⟩]
def xqv : List SOper := [
 ⟨some 3, .faddr 0 (.t 1), none⟩,
 ⟨some 4, .load none (.t 3), none⟩,
 ⟨some 5, .call (.k (.d (.func (.func 43) [] []))) [(.t 4)], none⟩,
 ⟨some 6, .faddr 0 (.t 1), none⟩,
 ⟨some 7, .load none (.t 6), none⟩,
 ⟨some 8, .len (.t 7), none⟩,
 ⟨some 9, .build [.nilsl, (.int .i64 0)] [(0, 1, (.t 5)), (1, 1, (.t 8))], none⟩,
 ⟨none, .store (some 2) (.t 2) (.t 9), none⟩]
def s66 : SCode := (.seq (.region xqu 2 []) (.seq (.region xqv 0 [(2, 4)]) .ret))
theorem e66 : qg s66.eq_1 := qh s66.eq_1
theorem zam : qa xqu.eq_1 := qc
theorem zan : qa xqv.eq_1 := qc
attribute [go_sem] zam zan e66
def xqw : List SOper := [
 ⟨some 2, .mov (.k (.d (.int .i64 0))), none⟩]
def xqx : List SOper := [
 ⟨some 3, .mov (.t 0), none⟩,
 ⟨some 4, .eqnil false .ptr (.t 3), none⟩]
def xqy : List SOper := [
 ⟨some 2, .mov (.k (.d (.int .i64 7))), none⟩]
def xqz : List SOper := [
 ⟨some 5, .mov (.t 0), none⟩,
 ⟨some 6, .mov (.t 0), none⟩,
 ⟨some 7, .nilCheck (.t 6), none⟩,
 ⟨some 8, .faddr 0 (.t 7), none⟩,
 ⟨some 9, .load (some 2) (.t 8), none⟩,
 ⟨some 10, .call (.k (.d (.func (.func 66) [] []))) [(.t 9)], none⟩,
 ⟨some 11, .nilCheck (.t 5), none⟩,
 ⟨some 12, .faddr 0 (.t 11), none⟩,
 ⟨none, .store (some 2) (.t 12) (.t 10), none⟩]
def xq0 : List SOper := [
 ⟨some 2, .mov (.k (.d (.int .i64 0))), none⟩]
def s26 : SCode := (.seq (.region xqw 0 []) (.seq (.seq (.region xqx 0 []) (.cond (.t 4) (.seq (.region xqy 0 []) .ret) .skip)) (.seq (.region xqz 0 []) (.seq (.region xq0 0 []) .ret))))
theorem e26 : qg s26.eq_1 := qh s26.eq_1
theorem zao : qa xqw.eq_1 := qc
theorem zap : qa xqx.eq_1 := qc
theorem zaq : qa xqy.eq_1 := qc
theorem zar : qa xqz.eq_1 := qc
theorem zas : qa xq0.eq_1 := qc
attribute [go_sem] zao zap zaq zar zas e26
end
theorem xq1 : ql Try.prog 12 [] [] (.d (.ptr 1 0)) [mapO qph, stoO newS 0] := by
 refine F12.go ?_
 try (refine ev6 @mapO.eq_1 @stoO.eq_1 @qph.eq_1 @newS.eq_1 @List.map_nil.{0,0} @qx ?_; try exact True.intro)
def xm (s : Sto) (l : List OpS) : Sto × Int :=
 if (xa l).2 ≠ 0 then (s, (xa l).2) else if (va s.m l).2 = false then (s, 28) else (⟨qcr s.file (xa l).1, s.synced, (va s.m l).1⟩, 0)
def qe3 (s : Sto) (l : List OpS) : List AObj := if (xm s l).2 = 0 then [stoO (xm s l).1 2, mapO s.m, mapO (xm s l).1.m] else [stoO s 1, mapO s.m, .none]
theorem qbz (l : List OpS) : (xa l).1.length ≤ 2000 := by
 unfold xa
 split
 ·simp
 ·split
  ·simp
  ·rename_i h
   simp only [Bool.or_eq_true, decide_eq_true_eq, not_or] at h
   simp only; omega
theorem qb0 {l : List OpS} (h : (xa l).2 = 0) : l.length ≤ 20 ∧ (∀ o ∈ l, jh o = true) ∧ xa l = (wOps l, 0) := by
 unfold xa at h ⊢
 split at h
 ·simp at h
 ·rename_i h1
  split at h
  ·simp at h
  ·rename_i h2
   rw [if_neg h1, if_neg h2]
   simp only [Bool.or_eq_true, decide_eq_true_eq, not_or, List.any_eq_true, not_exists, not_and] at h1 h2
   exact ⟨by omega, fun o ho => by simpa using h1.2 o ho, rfl⟩
set_option maxRecDepth 10000 in
theorem qpi (s : Sto) (l : List OpS) (hl : l.length ≤ 100000) (hf : s.file.length ≤ 100000000) :
  ql Try.prog 13 [.d (.ptr 0 0), .d (.sl 3 (l.map qs))] [stoO s 1, mapO s.m] (.d (.int .i64 (xm s l).2)) (qe3 s l) := by
 refine F13.go ?_
 try (refine ev2 @stoO.eq_1 @mapO.eq_1 ?_; try exact True.intro)
 (repeat (with_reducible refine ob ?_)); refine no_ ?_
 try (refine ev ?_; try exact True.intro)
 (repeat (with_reducible refine ob ?_)); first | refine cl F30 (qc3 l hl) ?_ | refine clF F30 (qc3 l hl) (fun _ => by (refine ev1 @qs.eq_1 ?_; try exact True.intro)) ?_
 try (refine ev ?_; try exact True.intro)
 (repeat (with_reducible refine ob ?_)); refine jj _ (fun h => ?_) (fun h => ?_)
 ·have hne : (xa l).2 ≠ 0 := by simpa using h
  have hb : xm s l = (s, (xa l).2) := by unfold xm; rw [if_pos hne]
  have hb2 : qe3 s l = [stoO s 1, mapO s.m, .none] := by unfold qe3; rw [hb, if_neg hne]
  try (refine ev4 @hb @hb2 @stoO.eq_1 @mapO.eq_1 ?_; try exact True.intro)
 have he0 : (xa l).2 = 0 := by simpa using h
 obtain ⟨h20, hpr, henc⟩ := qb0 he0
 try (refine ev ?_; try exact True.intro)
 refine clO [1, 2] F40 (qyi (s.m.l.map qai) s.m.c) ?_
 try (refine ev ?_; try exact True.intro)
 have hap := q3q s.m l hl (fun o ho => by have := (vz.1 (hpr o ho)).2.2.1; omega)
 simp only [mapO] at hap
 (repeat (with_reducible refine ob ?_)); refine clO [2] F41 (hap) ?_ (hfit := by first | exact ⟨qd, trivial⟩ | exact ⟨qd, qd, trivial⟩ | (refine ev1 @qs.eq_1 ?_; try exact True.intro))
 try (refine ev ?_; try exact True.intro)
 (repeat (with_reducible refine ob ?_)); refine jj _ (fun h => ?_) (fun h => ?_)
 ·have hb : xm s l = (s, 28) := by unfold xm; rw [if_neg (by simp [he0]), if_pos (by simpa using h)]
  have hb2 : qe3 s l = [stoO s 1, mapO s.m, .none] := by unfold qe3; rw [hb, if_neg (by simp)]
  try (refine ev4 @hb @hb2 @stoO.eq_1 @mapO.eq_1 ?_; try exact True.intro)
 have hb : xm s l = (⟨qcr s.file (xa l).1, s.synced, (va s.m l).1⟩, 0) := by unfold xm; rw [if_neg (by simp [he0]), if_neg (by simpa using h)]
 have hb2 : qe3 s l = [stoO (xm s l).1 2, mapO s.m, mapO (xm s l).1.m] := by unfold qe3; rw [if_pos (by rw [hb])]
 try (refine ev ?_; try exact True.intro)
 (repeat (with_reducible refine ob ?_)); first | refine cl F42 (qpe s.file (xa l).1 s.synced hf (qbz l)) ?_ | refine clF F42 (qpe s.file (xa l).1 s.synced hf (qbz l)) (fun _ => by (refine ev1 @qs.eq_1 ?_; try exact True.intro)) ?_
 try (refine ev5 @qav.eq_1 @hb2 @hb @stoO.eq_1 @mapO.eq_1 ?_; try exact True.intro)
def optV (o : Option (List UInt8)) : List UInt8 := o.getD []
theorem xq2 (s : Sto) (k : List UInt8) (hm : ∀ x ∈ s.m.l, x.2.2.length ≤ 1000000) :
  ql Try.prog 15 [.d (.ptr 0 0), .d (.str k)] [stoO s 1, mapO s.m] (.tup [.d (.sl 1 (qe (optV (mGet k s.m)))), .d (.bool (mGet k s.m).isSome)]) [stoO s 1, mapO s.m] := by
 refine F15.goT ?_
 try (refine ev2 @stoO.eq_1 @mapO.eq_1 ?_; try exact True.intro)
 (repeat (with_reducible refine ob ?_)); refine no_ ?_
 try (refine ev1 @qr6 ?_; try exact True.intro)
 cases hg : mGet k s.m with
 | none =>
  try (refine ev1 @Option.map_none.{0,0} ?_; try exact True.intro)
  have := k9 [] (by simp)
  simp only [qx] at this
  (repeat (with_reducible refine ob ?_)); first | refine cl F43 (this) ?_ | refine clF F43 (this) (fun _ => by (refine ev1 @qs.eq_1 ?_; try exact True.intro)) ?_
  try (refine ev4 @optV.eq_1 @Option.getD_none.{0} @qx @Option.isSome_none.{0} ?_; try exact True.intro)
 | some v =>
  have hv : v.length ≤ 1000000 := by
   unfold mGet at hg
   rw [Option.map_eq_some_iff] at hg
   obtain ⟨x, hx, rfl⟩ := hg
   exact hm x (List.mem_of_find?_eq_some hx)
  try (refine ev1 @Option.map_some.{0,0} ?_; try exact True.intro)
  (repeat (with_reducible refine ob ?_)); first | refine cl F43 (k9 v (by omega)) ?_ | refine clF F43 (k9 v (by omega)) (fun _ => by (refine ev1 @qs.eq_1 ?_; try exact True.intro)) ?_
  try (refine ev3 @optV.eq_1 @Option.getD_some.{0} @Option.isSome_some.{0} ?_; try exact True.intro)
end Go.Proofs.Ytinnaedmdoengaa
namespace Go.Proofs.Ytinnaedmdoengaa
open Go.Abs
set_option linter.unusedSimpArgs false
set_option linter.unusedVariables false
noncomputable section
set_option maxRecDepth 100000
def q7s : List SOper := [
 ⟨some 4, .mov (.k (.d .nilsl)), none⟩]
def q7t : List SOper := [
 ⟨some 7, .mov (.t 0), none⟩,
 ⟨some 8, .mov (.t 1), none⟩,
 ⟨some 9, .len (.t 8), none⟩,
 ⟨some 10, .call (.k (.d (.func (.func 71) [] []))) [(.t 7), (.t 9)], none⟩,
 ⟨some 0, .mov (.t 10), none⟩]
def q7u : List SOper := [
 ⟨some 11, .mov (.t 1), none⟩,
 ⟨some 12, .len (.t 11), none⟩,
 ⟨some 13, .mov (.k (.d (.int .i64 0))), none⟩]
def q7v : List SOper := [
 ⟨some 14, .bin .lss (.t 13) (.t 12), none⟩]
def q7w : List SOper := [
 ⟨some 15, .iaddr 1 (.t 11) (.t 13), none⟩,
 ⟨some 16, .load none (.t 15), none⟩,
 ⟨some 6, .mov (.t 16), none⟩]
def q7x : List SOper := [
 ⟨some 17, .mov (.t 0), none⟩,
 ⟨some 18, .mov (.t 6), none⟩,
 ⟨some 19, .call (.k (.d (.func (.func 71) [] []))) [(.t 17), (.t 18)], none⟩,
 ⟨some 0, .mov (.t 19), none⟩]
def q7y : List SOper := [
 ⟨some 20, .bin .add (.t 13) (.k (.d (.int .i64 1))), none⟩,
 ⟨some 13, .mov (.t 20), none⟩]
def qyk : SCode := (.seq (.region q7v 0 []) (.seq (.cond (.t 14) .skip (.exit 0)) (.seq (.block 1 (.seq (.region q7w 0 []) (.region q7x 0 []))) (.region q7y 0 []))))
theorem xq6 : qg qyk.eq_1 := qh qyk.eq_1
def q7z : List SOper := [
 ⟨some 21, .mov (.t 0), none⟩,
 ⟨some 4, .mov (.t 21), none⟩]
def s139 : SCode := (.seq (.region q7s 0 []) (.seq (.region q7t 0 []) (.seq (.seq (.region q7u 0 []) (.block 0 (.loop qyk))) (.seq (.region q7z 0 []) .ret))))
theorem zh4 : qg s139.eq_1 := qh s139.eq_1
theorem xq7 : qa q7s.eq_1 := qc
theorem xq8 : qa q7t.eq_1 := qc
theorem xq9 : qa q7u.eq_1 := qc
theorem xra : qa q7v.eq_1 := qc
theorem xrb : qa q7w.eq_1 := qc
theorem xrc : qa q7x.eq_1 := qc
theorem xrd : qa q7y.eq_1 := qc
theorem xre : qa q7z.eq_1 := qc
attribute [go_sem] xq7 xq8 xq9 xra xrb xrc xrd xq6 xre zh4
theorem zgu : FnIs Try.prog 139 Try.f139 [] news s139 [.tmp 4] 22 := x5 follows Try.func139
def q70 : List SOper := [
 ⟨some 3, .box 1 (.t 1), none⟩,
 ⟨some 4, .mov (.k (.d .nilsl)), none⟩]
def q71 : List SOper := [
 ⟨some 5, .mov (.t 0), none⟩,
 ⟨some 6, .faddr 0 (.t 3), none⟩,
 ⟨some 7, .load none (.t 6), none⟩,
 ⟨some 8, .call (.k (.d (.func (.func 71) [] []))) [(.t 5), (.t 7)], none⟩,
 ⟨some 0, .mov (.t 8), none⟩]
def q72 : List SOper := [
 ⟨some 9, .faddr 0 (.t 3), none⟩,
 ⟨some 10, .load none (.t 9), none⟩]
def q73 : List SOper := [
 ⟨some 12, .bin .eql (.t 10) (.k (.d (.int .i64 1))), none⟩,
 ⟨some 11, .mov (.t 12), none⟩]
def q74 : List SOper := [
 ⟨some 13, .mov (.t 0), none⟩,
 ⟨some 14, .faddr 1 (.t 3), none⟩,
 ⟨some 15, .load none (.t 14), none⟩,
 ⟨some 16, .call (.k (.d (.func (.func 71) [] []))) [(.t 13), (.t 15)], none⟩,
 ⟨some 4, .mov (.t 16), none⟩]
def q75 : List SOper := [
 ⟨some 18, .bin .eql (.t 10) (.k (.d (.int .i64 2))), none⟩,
 ⟨some 17, .mov (.t 18), none⟩]
def q76 : List SOper := [
 ⟨some 19, .mov (.t 0), none⟩,
 ⟨some 20, .faddr 2 (.t 3), none⟩,
 ⟨some 21, .load none (.t 20), none⟩,
 ⟨some 22, .call (.k (.d (.func (.func 74) [] []))) [(.t 19), (.t 21)], none⟩,
 ⟨some 4, .mov (.t 22), none⟩]
def q77 : List SOper := [
 ⟨some 23, .mov (.t 0), none⟩,
 ⟨some 4, .mov (.t 23), none⟩]
def s166 : SCode := (.seq (.region q70 1 []) (.seq (.region q71 0 []) (.seq (.seq (.region q72 0 []) (.block 0 (.seq (.region q73 0 []) (.cond (.t 11) (.seq (.region q74 0 []) .ret) (.seq (.region q75 0 []) (.cond (.t 17) (.seq (.region q76 0 []) .ret) .skip)))))) (.seq (.region q77 0 []) .ret))))
theorem zh5 : qg s166.eq_1 := qh s166.eq_1
theorem xrf : qa q70.eq_1 := qc
theorem xrg : qa q71.eq_1 := qc
theorem xrh : qa q72.eq_1 := qc
theorem xri : qa q73.eq_1 := qc
theorem xrj : qa q74.eq_1 := qc
theorem xrk : qa q75.eq_1 := qc
theorem xrl : qa q76.eq_1 := qc
theorem xrm : qa q77.eq_1 := qc
attribute [go_sem] xrf xrg xrh xri xrj xrk xrl xrm zh5
theorem zgv : FnIs Try.prog 166 Try.f166 [] news s166 [.tmp 4] 24 := x5 follows Try.func166
def q78 : List SOper := [
 ⟨some 4, .mov (.k (.d .nilsl)), none⟩]
def q79 : List SOper := [
 ⟨some 7, .mov (.t 0), none⟩,
 ⟨some 8, .mov (.t 1), none⟩,
 ⟨some 9, .len (.t 8), none⟩,
 ⟨some 10, .call (.k (.d (.func (.func 71) [] []))) [(.t 7), (.t 9)], none⟩,
 ⟨some 0, .mov (.t 10), none⟩]
def q8a : List SOper := [
 ⟨some 11, .mov (.t 1), none⟩,
 ⟨some 12, .len (.t 11), none⟩,
 ⟨some 13, .mov (.k (.d (.int .i64 0))), none⟩]
def q8b : List SOper := [
 ⟨some 14, .bin .lss (.t 13) (.t 12), none⟩]
def q8c : List SOper := [
 ⟨some 15, .iaddr 3 (.t 11) (.t 13), none⟩,
 ⟨some 16, .load (some 3) (.t 15), none⟩,
 ⟨some 6, .alloc 1 [(.d (.int .i64 0)), (.d (.int .i64 0)), (.d (.str []))], none⟩,
 ⟨none, .store (some 3) (.t 6) (.t 16), none⟩]
def q8d : List SOper := [
 ⟨some 17, .mov (.t 0), none⟩,
 ⟨some 18, .load (some 3) (.t 6), none⟩,
 ⟨some 19, .call (.k (.d (.func (.func 166) [] []))) [(.t 17), (.t 18)], none⟩,
 ⟨some 0, .mov (.t 19), none⟩]
def q8e : List SOper := [
 ⟨some 20, .bin .add (.t 13) (.k (.d (.int .i64 1))), none⟩,
 ⟨some 13, .mov (.t 20), none⟩]
def qyl : SCode := (.seq (.region q8b 0 []) (.seq (.cond (.t 14) .skip (.exit 0)) (.seq (.block 1 (.seq (.region q8c 1 []) (.region q8d 0 []))) (.region q8e 0 []))))
theorem xrn : qg qyl.eq_1 := qh qyl.eq_1
def q8f : List SOper := [
 ⟨some 21, .mov (.t 0), none⟩,
 ⟨some 4, .mov (.t 21), none⟩]
def s140 : SCode := (.seq (.region q78 0 []) (.seq (.region q79 0 []) (.seq (.seq (.region q8a 0 []) (.block 0 (.loop qyl))) (.seq (.region q8f 0 []) .ret))))
theorem zh6 : qg s140.eq_1 := qh s140.eq_1
theorem xro : qa q78.eq_1 := qc
theorem xrp : qa q79.eq_1 := qc
theorem xrq : qa q8a.eq_1 := qc
theorem xrr : qa q8b.eq_1 := qc
theorem xrs : qa q8c.eq_1 := qc
theorem xrt : qa q8d.eq_1 := qc
theorem xru : qa q8e.eq_1 := qc
theorem xrv : qa q8f.eq_1 := qc
attribute [go_sem] xro xrp xrq xrr xrs xrt xru xrn xrv zh6
theorem zgw : FnIs Try.prog 140 Try.f140 [] news s140 [.tmp 4] 22 := x5 follows Try.func140
def q8g : List SOper := [
 ⟨some 2, .mov (.k (.d (.int .u64 0))), none⟩]
def q8h : List SOper := [
 ⟨some 3, .mov (.t 0), none⟩,
 ⟨some 4, .call (.k (.d (.func (.func 123) [] []))) [(.k (.d (.int .u64 14695981039346656037))), (.t 3)], none⟩,
 ⟨some 2, .mov (.t 4), none⟩]
def s143 : SCode := (.seq (.region q8g 0 []) (.seq (.region q8h 0 []) .ret))
theorem zh7 : qg s143.eq_1 := qh s143.eq_1
theorem xrw : qa q8g.eq_1 := qc
theorem xrx : qa q8h.eq_1 := qc
attribute [go_sem] xrw xrx zh7
theorem xry : FnIs Try.prog 143 Try.f143 [] news s143 [.tmp 2] 5 := x5 follows Try.func143
def q8i : List SOper := [
 ⟨some 2, .alloc 1 [(.d (.int .u8 0)), (.d (.int .u8 0)), (.d (.int .u8 0)), (.d (.int .u8 0)), (.d (.int .u8 0)), (.d (.int .u8 0)), (.d (.int .u8 0)), (.d (.int .u8 0))], none⟩]
def q8j : List SOper := [
 ⟨some 3, .alloc 1 [(.d (.int .u8 0)), (.d (.int .u8 0)), (.d (.int .u8 0)), (.d (.int .u8 0)), (.d (.int .u8 0)), (.d (.int .u8 0)), (.d (.int .u8 0)), (.d (.int .u8 0))], none⟩]
def q8k : List SOper := [
 ⟨some 5, .mov (.k (.d (.int .i64 0))), none⟩]
def q8l : List SOper := [
 ⟨some 6, .bin .lss (.t 5) (.k (.d (.int .i64 8))), none⟩]
def q8m : List SOper := [
 ⟨some 7, .mov (.t 5), none⟩,
 ⟨some 4, .mov (.t 7), none⟩]
def q8n : List SOper := [
 ⟨some 8, .mov (.t 4), none⟩,
 ⟨some 9, .mov (.t 0), none⟩,
 ⟨some 10, .mov (.t 4), none⟩,
 ⟨some 11, .bin .sub (.k (.d (.int .i64 7))) (.t 10), none⟩,
 ⟨some 12, .bin .mul (.k (.d (.int .i64 8))) (.t 11), none⟩,
 ⟨some 13, .bin .shr (.t 9) (.t 12), none⟩,
 ⟨some 14, .conv .u8 (.t 13), none⟩,
 ⟨some 15, .iaddrA 8 1 (.t 3) (.t 8), none⟩,
 ⟨none, .store none (.t 15) (.t 14), none⟩]
def q8o : List SOper := [
 ⟨some 16, .bin .add (.t 5) (.k (.d (.int .i64 1))), none⟩,
 ⟨some 5, .mov (.t 16), none⟩]
def qym : SCode := (.seq (.region q8l 0 []) (.seq (.cond (.t 6) .skip (.exit 0)) (.seq (.block 1 (.seq (.region q8m 0 []) (.region q8n 0 []))) (.region q8o 0 []))))
theorem xrz : qg qym.eq_1 := qh qym.eq_1
def q8p : List SOper := [
 ⟨some 17, .load (some 8) (.t 3), none⟩,
 ⟨none, .store (some 8) (.t 2) (.t 17), none⟩]
def s142 : SCode := (.seq (.region q8i 1 []) (.seq (.region q8j 1 []) (.seq (.seq (.region q8k 0 []) (.block 0 (.loop qym))) (.seq (.region q8p 0 []) .ret))))
theorem zh8 : qg s142.eq_1 := qh s142.eq_1
theorem xr0 : qa q8i.eq_1 := qc
theorem xr1 : qa q8j.eq_1 := qc
theorem xr2 : qa q8k.eq_1 := qc
theorem xr3 : qa q8l.eq_1 := qc
theorem xr4 : qa q8m.eq_1 := qc
theorem xr5 : qa q8n.eq_1 := qc
theorem xr6 : qa q8o.eq_1 := qc
theorem xr7 : qa q8p.eq_1 := qc
attribute [go_sem] xr0 xr1 xr2 xr3 xr4 xr5 xr6 xrz xr7 zh8
theorem xr8 : FnIs Try.prog 142 Try.f142 [] news s142 [.cell 2 (some 8)] 18 := x5 follows Try.func142
def q8q : List SOper := [
 ⟨some 2, .mov (.k (.d .nilsl)), none⟩]
def q8r : List SOper := [
 ⟨some 4, .mov (.t 0), none⟩,
 ⟨some 5, .call (.k (.d (.func (.func 143) [] []))) [(.t 4)], none⟩,
 ⟨some 6, .call (.k (.d (.func (.func 142) [] []))) [(.t 5)], none⟩,
 ⟨some 3, .alloc 1 [(.d (.int .u8 0)), (.d (.int .u8 0)), (.d (.int .u8 0)), (.d (.int .u8 0)), (.d (.int .u8 0)), (.d (.int .u8 0)), (.d (.int .u8 0)), (.d (.int .u8 0))], none⟩,
 ⟨none, .store (some 8) (.t 3) (.t 6), none⟩]
def q8s : List SOper := [
 ⟨some 7, .mov (.t 0), none⟩,
 ⟨some 8, .len (.t 7), none⟩,
 ⟨some 9, .bin .add (.t 8) (.k (.d (.int .i64 8))), none⟩,
 ⟨some 10, .makeSlice false 1 1 [(.int .u8 0)] (.k (.d (.int .i64 0))) (.t 9), none⟩,
 ⟨some 11, .mov (.t 0), none⟩,
 ⟨some 12, .append false 1 1 (.t 10) (.t 11), none⟩,
 ⟨some 13, .sliceA 8 1 (.t 3) none none none, none⟩,
 ⟨some 14, .append false 1 1 (.t 12) (.t 13), none⟩,
 ⟨some 2, .mov (.t 14), none⟩]
def s138 : SCode := (.seq (.region q8q 0 []) (.seq (.region q8r 1 []) (.seq (.region q8s 0 []) .ret)))
theorem zh9 : qg s138.eq_1 := qh s138.eq_1
theorem xr9 : qa q8q.eq_1 := qc
theorem xsa : qa q8r.eq_1 := qc
theorem xsb : qa q8s.eq_1 := qc
attribute [go_sem] xr9 xsa xsb zh9
theorem zau : FnIs Try.prog 138 Try.f138 [] news s138 [.tmp 2] 15 := x5 follows Try.func138
def q8t : List SOper := [
 ⟨some 1, .box 1 (.t 0), none⟩,
 ⟨some 2, .mov (.k (.d .nilsl)), none⟩,
 ⟨some 3, .mov (.k (.d (.int .i64 0))), none⟩]
def q8u : List SOper := [
 ⟨some 7, .load (some 9) (.t 1), none⟩,
 ⟨some 8, .call (.k (.d (.func (.func 101) [] []))) [(.t 7)], none⟩,
 ⟨some 9, .not (.t 8), none⟩]
def q8v : List SOper := [
 ⟨some 2, .mov (.k (.d .nilsl)), none⟩,
 ⟨some 3, .mov (.k (.d (.int .i64 1))), none⟩]
def q8w : List SOper := [
 ⟨some 4, .mov (.k (.d .nilsl)), none⟩]
def q8x : List SOper := [
 ⟨some 10, .faddr 0 (.t 1), none⟩,
 ⟨some 11, .load none (.t 10), none⟩,
 ⟨some 12, .faddr 1 (.t 1), none⟩,
 ⟨some 13, .load none (.t 12), none⟩,
 ⟨some 14, .faddr 2 (.t 1), none⟩,
 ⟨some 15, .load none (.t 14), none⟩,
 ⟨some 16, .faddr 3 (.t 1), none⟩,
 ⟨some 17, .load none (.t 16), none⟩,
 ⟨some 18, .faddr 4 (.t 1), none⟩,
 ⟨some 19, .load none (.t 18), none⟩,
 ⟨some 20, .faddr 5 (.t 1), none⟩,
 ⟨some 21, .load none (.t 20), none⟩,
 ⟨some 22, .faddr 6 (.t 1), none⟩,
 ⟨some 23, .load none (.t 22), none⟩,
 ⟨some 24, .buildSlice false 1 7 [(.int .i64 0)] [(0, 1, (.t 11)), (1, 1, (.t 13)), (2, 1, (.t 15)), (3, 1, (.t 17)), (4, 1, (.t 19)), (5, 1, (.t 21)), (6, 1, (.t 23))], none⟩,
 ⟨some 25, .len (.t 24), none⟩,
 ⟨some 26, .mov (.k (.d (.int .i64 0))), none⟩]
def q8y : List SOper := [
 ⟨some 27, .bin .lss (.t 26) (.t 25), none⟩]
def q8z : List SOper := [
 ⟨some 28, .iaddr 1 (.t 24) (.t 26), none⟩,
 ⟨some 29, .load none (.t 28), none⟩,
 ⟨some 6, .mov (.t 29), none⟩]
def q80 : List SOper := [
 ⟨some 30, .mov (.t 4), none⟩,
 ⟨some 31, .mov (.t 6), none⟩,
 ⟨some 32, .call (.k (.d (.func (.func 71) [] []))) [(.t 30), (.t 31)], none⟩,
 ⟨some 4, .mov (.t 32), none⟩]
def q81 : List SOper := [
 ⟨some 33, .bin .add (.t 26) (.k (.d (.int .i64 1))), none⟩,
 ⟨some 26, .mov (.t 33), none⟩]
def qyn : SCode := (.seq (.region q8y 0 []) (.seq (.cond (.t 27) .skip (.exit 0)) (.seq (.block 1 (.seq (.region q8z 0 []) (.region q80 0 []))) (.region q81 0 []))))
theorem xsc : qg qyn.eq_1 := qh qyn.eq_1
def qyo : List SOper := [
 ⟨some 34, .mov (.t 4), none⟩,
 ⟨some 35, .faddr 7 (.t 1), none⟩,
 ⟨some 36, .load none (.t 35), none⟩,
 ⟨some 37, .call (.k (.d (.func (.func 140) [] []))) [(.t 34), (.t 36)], none⟩,
 ⟨some 38, .faddr 8 (.t 1), none⟩,
 ⟨some 39, .load none (.t 38), none⟩,
 ⟨some 40, .call (.k (.d (.func (.func 139) [] []))) [(.t 37), (.t 39)], none⟩,
 ⟨some 41, .call (.k (.d (.func (.func 138) [] []))) [(.t 40)], none⟩,
 ⟨some 2, .mov (.t 41), none⟩,
 ⟨some 3, .mov (.k (.d (.int .i64 0))), none⟩]
def s104 : SCode := (.seq (.region q8t 1 []) (.seq (.seq (.region q8u 0 []) (.cond (.t 9) (.seq (.region q8v 0 []) .ret) .skip)) (.seq (.region q8w 0 []) (.seq (.seq (.region q8x 0 []) (.block 0 (.loop qyn))) (.seq (.region qyo 0 [(3, 5)]) .ret)))))
theorem zia : qg s104.eq_1 := qh s104.eq_1
theorem xsd : qa q8t.eq_1 := qc
theorem xse : qa q8u.eq_1 := qc
theorem xsf : qa q8v.eq_1 := qc
theorem xsg : qa q8w.eq_1 := qc
theorem xsh : qa q8x.eq_1 := qc
theorem xsi : qa q8y.eq_1 := qc
theorem xsj : qa q8z.eq_1 := qc
theorem xsk : qa q80.eq_1 := qc
theorem xsl : qa q81.eq_1 := qc
theorem xf4 : qa qyo.eq_1 := qc
attribute [go_sem] xsd xse xsf xsg xsh xsi xsj xsk xsl xsc xf4 zia
theorem zav : FnIs Try.prog 104 Try.f104 [] news s104 [.tmp 2, .tmp 3] 42 := x5 follows Try.func104
end
theorem ws {α : Type} (f : α → List UInt8) (k : Nat) : ∀ l : List α, (∀ x ∈ l, (f x).length ≤ k) → (l.flatMap f).length ≤ l.length * k
 | [], _ => by simp
 | x :: l, h => by
  have h1 := ws f k l fun y hy => h y (by simp [hy])
  have h2 := h x (by simp)
  simp only [List.flatMap_cons, List.length_append, List.length_cons, Nat.succ_mul]; omega
def qgb (l : List Int) : List UInt8 := wInt l.length ++ l.flatMap wInt
def qtj (b : List UInt8) (l : List Int) (i : Nat) : St :=
 ⟨[(0, true, .own 0 1 (qe (b ++ (wInt l.length ++ (l.take i).flatMap wInt)))), (11, true, .d (.sl 1 (l.map encI))), (12, true, .d (.int .i64 l.length)), (13, true, .d (.int .i64 (i : Nat)))], [], [0], 1⟩
theorem qr7 (b : List UInt8) (l : List Int) (hb : b.length ≤ 100000000) (hl : l.length ≤ 1000) (hi : ∀ x ∈ l, I64 x) :
  ql Try.prog 139 [.own 0 1 (qe b), .d (.sl 1 (l.map encI))] [] (.own 0 1 (qe (b ++ qgb l))) [] := by
 have hw := x6 (xw (n := l.length) (by omega))
 refine zgu.go ?_
 try (refine ev ?_; try exact True.intro)
 refine clA F71 (jq b l.length (by omega) (xw (by omega))) ?_
 try (refine ev ?_; try exact True.intro)
 refine qy (fun i : { i : Nat // i ≤ l.length } => qtj b l i.val) (fun i => l.length - i.val) ⟨0, Nat.zero_le _⟩ ?_ (fun i => ?_)
 ·try (refine ev5 @qtj.eq_1 @List.take_zero.{0} @List.flatMap_nil.{0,0} @List.append_nil.{0} @Int.ofNat_zero ?_; try exact True.intro)
 obtain ⟨i, hi2⟩ := i
 try (refine ev1 @qtj.eq_1 ?_; try exact True.intro)
 refine jj _ (fun hc => ?_) (fun hc => ?_)
 ·have hil : i < l.length := by simpa using hc
  have hfl := ws wInt 10 (l.take i) fun x hx => x6 (hi x (List.mem_of_mem_take hx))
  have htk : (l.take i).length ≤ i := by rw [List.length_take]; omega
  have hfl2 : ((l.take i).flatMap wInt).length ≤ 10000 := by omega
  have hsn := qcl wInt l hil
  try (refine ev2 (xg encI l hil) @encI.eq_1 ?_; try exact True.intro)
  (repeat (with_reducible refine ob ?_))
  refine clA F71 (jq (b ++ (wInt l.length ++ (l.take i).flatMap wInt)) l[i] (by simp only [List.length_append]; omega) (hi _ (List.getElem_mem hil))) ?_
  try (refine ev ?_; try exact True.intro)
  refine ⟨⟨i + 1, hil⟩, ?_, by dsimp only; omega⟩
  try (refine ev4 @qtj.eq_1 @hsn @List.append_assoc.{0} (qv (show i < 9223372036854775807 by omega)) ?_; try exact True.intro)
 ·have hie : i = l.length := by
   have : l.length ≤ i := by simpa using hc
   omega
  subst hie
  try (refine ev2 @List.take_length.{0} @qgb.eq_1 ?_; try exact True.intro)
def wAV (v : AV) : List UInt8 := wInt v.kind ++ (if v.kind = 1 then wInt v.n else if v.kind = 2 then wv v.s else [])
def AV.Sm (v : AV) : Prop := I64 v.kind ∧ I64 v.n ∧ v.s.length ≤ 1000000
theorem qyp {v : AV} (h : v.Sm) : (wAV v).length ≤ 1000020 := by
 obtain ⟨h1, h2, h3⟩ := h
 have a1 := x6 h1
 have a2 := x6 h2
 have a3 := qbd v.s (by omega)
 unfold wAV
 rw [List.length_append]
 split
 ·omega
 ·split
  ·omega
  ·simp only [List.length_nil]; omega
theorem qpj (b : List UInt8) (v : AV) (hb : b.length ≤ 100000000) (hv : v.Sm) :
  ql Try.prog 166 [.own 0 1 (qe b), .d (.agg (zb v))] [] (.own 0 1 (qe (b ++ wAV v))) [] := by
 obtain ⟨h1, h2, h3⟩ := hv
 have a1 := x6 h1
 refine zgv.go ?_
 try (refine ev1 @zb.eq_1 ?_; try exact True.intro)
 refine clA F71 (jq b v.kind (by omega) h1) ?_
 try (refine ev ?_; try exact True.intro)
 refine jj _ (fun hc => ?_) (fun hc => ?_)
 ·have hk : v.kind = 1 := by simpa using hc
  have e : wAV v = wInt v.kind ++ wInt v.n := by rw [wAV, if_pos hk]
  try (refine ev ?_; try exact True.intro)
  refine clA F71 (jq (b ++ wInt v.kind) v.n (by rw [List.length_append]; omega) h2) ?_
  try (refine ev2 @e @List.append_assoc.{0} ?_; try exact True.intro)
 ·have hk : v.kind ≠ 1 := by simpa using hc
  try (refine ev ?_; try exact True.intro)
  refine jj _ (fun hd => ?_) (fun hd => ?_)
  ·have hk2 : v.kind = 2 := by simpa using hd
   have e : wAV v = wInt v.kind ++ wv v.s := by rw [wAV, if_neg hk, if_pos hk2]
   try (refine ev ?_; try exact True.intro)
   refine clA F74 (qi5 (b ++ wInt v.kind) v.s (by rw [List.length_append]; omega)) ?_
   try (refine ev2 @e @List.append_assoc.{0} ?_; try exact True.intro)
  ·have hk2 : v.kind ≠ 2 := by simpa using hd
   have e : wAV v = wInt v.kind := by rw [wAV, if_neg hk, if_neg hk2, List.append_nil]
   try (refine ev1 @e ?_; try exact True.intro)
def wAVs (l : List AV) : List UInt8 := wInt l.length ++ l.flatMap wAV
def q3r (b : List UInt8) (l : List AV) (i : Nat) : St :=
 ⟨[(0, true, .own 0 1 (qe (b ++ (wInt l.length ++ (l.take i).flatMap wAV)))), (11, true, .d (.sl 3 (l.map zb))), (12, true, .d (.int .i64 l.length)), (13, true, .d (.int .i64 (i : Nat)))], [], [0], 1⟩
theorem qm0 (b : List UInt8) (l : List AV) (hb : b.length ≤ 10000000) (hl : l.length ≤ 50) (hi : ∀ x ∈ l, x.Sm) :
  ql Try.prog 140 [.own 0 1 (qe b), .d (.sl 3 (l.map zb))] [] (.own 0 1 (qe (b ++ wAVs l))) [] := by
 have hw := x6 (xw (n := l.length) (by omega))
 refine zgw.go ?_
 try (refine ev ?_; try exact True.intro)
 refine clA F71 (jq b l.length (by omega) (xw (by omega))) ?_
 try (refine ev ?_; try exact True.intro)
 refine qy (fun i : { i : Nat // i ≤ l.length } => q3r b l i.val) (fun i => l.length - i.val) ⟨0, Nat.zero_le _⟩ ?_ (fun i => ?_)
 ·try (refine ev5 @q3r.eq_1 @List.take_zero.{0} @List.flatMap_nil.{0,0} @List.append_nil.{0} @Int.ofNat_zero ?_; try exact True.intro)
 obtain ⟨i, hi2⟩ := i
 try (refine ev1 @q3r.eq_1 ?_; try exact True.intro)
 refine jj _ (fun hc => ?_) (fun hc => ?_)
 ·have hil : i < l.length := by simpa using hc
  have hfl := ws wAV 1000020 (l.take i) fun x hx => qyp (hi x (List.mem_of_mem_take hx))
  have htk : (l.take i).length ≤ i := by rw [List.length_take]; omega
  have hfl2 : ((l.take i).flatMap wAV).length ≤ 60000000 := by omega
  have hsn := qcl wAV l hil
  try (refine ev2 (xg zb l hil) @zb.eq_1 ?_; try exact True.intro)
  (repeat (with_reducible refine ob ?_))
  have hva := qpj (b ++ (wInt l.length ++ (l.take i).flatMap wAV)) l[i] (by simp only [List.length_append]; omega) (hi _ (List.getElem_mem hil))
  simp only [zb] at hva
  refine clA zgv hva ?_
  try (refine ev ?_; try exact True.intro)
  refine ⟨⟨i + 1, hil⟩, ?_, by dsimp only; omega⟩
  try (refine ev4 @q3r.eq_1 @hsn @List.append_assoc.{0} (qv (show i < 9223372036854775807 by omega)) ?_; try exact True.intro)
 ·have hie : i = l.length := by
   have : l.length ≤ i := by simpa using hc
   omega
  subst hie
  try (refine ev2 @List.take_length.{0} @wAVs.eq_1 ?_; try exact True.intro)
theorem qhs (s : List UInt8) (hl : s.length ≤ 1000000000) : ql Try.prog 143 [.d (.sl 1 (qe s))] [] (.d (.int .u64 (fnv 14695981039346656037 s : Nat))) [] := by
 have h0 := qx6 14695981039346656037 s (by decide) hl
 refine xry.go ?_
 try (refine ev ?_; try exact True.intro)
 (repeat (with_reducible refine ob ?_)); first | refine cl xh2 (h0) ?_ | refine clF xh2 (h0) (fun _ => by (refine ev3 @zb.eq_1 @encI.eq_1 @qk.eq_1 ?_; try exact True.intro)) ?_
 try (refine ev ?_; try exact True.intro)
def Seig (h : Nat) (i : { i : Nat // i ≤ 8 }) : St :=
 ⟨[(0, true, .d (.int .u64 (h : Nat))), (2, true, .d (.ptr 0 0)), (3, true, .d (.ptr 1 0)), (5, true, .d (.int .i64 (i.val : Nat)))], [.row ((List.replicate 8 (D.int .u8 0)).map .d), .row ((((be8 h).take i.val ++ List.replicate (8 - i.val) 0).map zh).map .d)], [], 1⟩
theorem qht (h : Nat) (hh : h < 18446744073709551616) : ql Try.prog 142 [.d (.int .u64 h)] [] (.d (.agg ((be8 h).map zh))) [] := by
 refine xr8.go ?_
 try (refine ev ?_; try exact True.intro)
 refine qy (Seig h) (fun i => 8 - i.val) ⟨0, Nat.zero_le _⟩ ?_ (fun i => ?_)
 ·try (refine ev3 @Seig.eq_1 @List.take_zero.{0} @qf6 ?_; try exact True.intro)
 obtain ⟨i, hi⟩ := i
 try (refine ev1 @Seig.eq_1 ?_; try exact True.intro)
 refine jj _ (fun hc => ?_) (fun hc => ?_)
 ·have hil : i < 8 := by simp at hc; omega
  have e1 : IntKind.i64.wrap (7 - (i : Int)) = 7 - i := xx (by unfold I64; omega)
  have e2 : IntKind.i64.wrap (8 * (7 - (i : Int))) = 8 * (7 - i) := xx (by unfold I64; omega)
  have hlen := k8 h
  try simp only [Nat.mul_one, qmu _ _ hil, yu, qr1 _ hil, e1, e2, List.length_take, List.length_replicate, go_sem, Nat.reduceAdd, Nat.reduceMul, Nat.reduceSub, Nat.reduceEqDiff, Nat.reduceLT, Nat.reduceLeDiff, Nat.reduceBEq, reduceIte, reduceCtorEq, Int.reduceAdd, Int.reduceLT, Int.reduceLE, Int.reduceGT, Int.reduceGE, Int.reduceEq, Int.reduceNe, Int.reduceBEq, Int.reduceBNe, Int.reduceToNat, Int.reduceNeg]
  (repeat (with_reducible refine ob ?_))
  refine ⟨⟨i + 1, hil⟩, ?_, by dsimp only; omega⟩
  try (refine ev2 @Seig.eq_1 (qv (show i < 9223372036854775807 by omega)) ?_; try exact True.intro)
 ·have hie : i = 8 := by simp at hc; omega
  subst hie
  try (refine ev3 @qr2 @be8.eq_1 @zh.eq_1 ?_; try exact True.intro)
def qcs (s : List UInt8) : List UInt8 := s ++ be8 (fnv 14695981039346656037 s)
theorem qyq (s : List UInt8) (hl : s.length ≤ 100000000) : ql Try.prog 138 [.d (.sl 1 (qe s))] [] (.d (.sl 1 (qe (qcs s)))) [] := by
 have hlt := qo4 (h := 14695981039346656037) (by decide) s
 refine zau.go ?_
 try (refine ev ?_; try exact True.intro)
 (repeat (with_reducible refine ob ?_)); first | refine cl xry (qhs s (by omega)) ?_ | refine clF xry (qhs s (by omega)) (fun _ => by (refine ev3 @zb.eq_1 @encI.eq_1 @qk.eq_1 ?_; try exact True.intro)) ?_
 try (refine ev ?_; try exact True.intro)
 have hw : IntKind.i64.wrap ((s.length : Int) + 8) = ((s.length + 8 : Nat) : Int) := by rw [xx (by unfold I64; omega)]; omega
 (repeat (with_reducible refine ob ?_)); first | refine cl xr8 (qht _ hlt) ?_ | refine clF xr8 (qht _ hlt) (fun _ => by (refine ev3 @zb.eq_1 @encI.eq_1 @qk.eq_1 ?_; try exact True.intro)) ?_
 generalize hh : fnv 14695981039346656037 s = h
 have hr : vk [AObj.row (((be8 h).map zh).map ASlot.d)] 0 0 1 8 = qe (be8 h) := qga rfl (k8 _)
 have h8 := k8 h
 have hs : qe s ++ qe (be8 h) = qe (qcs s) := by rw [xi, qcs, hh]
 try (refine ev6 @hw @qpc @qjb @k8 @hr @hs ?_; try exact True.intro)
 (repeat (with_reducible refine ob ?_))
 omega
def zt (p : Pk) : List Int := [p.kind, p.sess, p.epoch, p.from_, p.to, p.seq, p.label]
def jr (p : Pk) : List UInt8 := (zt p).flatMap wInt ++ wAVs p.values ++ qgb p.clock
def vb (p : Pk) : List UInt8 × Int := if qz p then (qcs (jr p), 0) else ([], 1)
structure Pk.W (p : Pk) : Prop where
 h : ∀ x ∈ zt p, I64 x
 v : ∀ x ∈ p.values, x.Sm
 c : ∀ x ∈ p.clock, I64 x
def q3s (p : Pk) (i : Nat) : St :=
 ⟨[(1, true, .d (.ptr 0 0)), (4, true, .own 0 1 (qe (((zt p).take i).flatMap wInt))), (24, true, .d (.sl 1 ((zt p).map encI))), (25, true, .d (.int .i64 7)), (26, true, .d (.int .i64 (i : Nat)))], [.row ((qk p).map .d)], [0], 1⟩
theorem qjc {p : Pk} (h : qz p = true) : p.values.length ≤ 4 ∧ p.clock.length ≤ 6 := by
 unfold qz data ack order bare at h
 grind
set_option maxRecDepth 10000 in
theorem qvj (p : Pk) (hp : p.Sm) (hw : p.W) : ql Try.prog 104 [.d (.agg (qk p))] [] (.tup [.d (.sl 1 (qe (vb p).1)), .d (.int .i64 (vb p).2)]) [] := by
 refine zav.goT ?_
 try (refine ev1 @qk.eq_1 ?_; try exact True.intro)
 (repeat (with_reducible refine ob ?_)); first | refine cl q6e (vq p hp.v hp.c) ?_ | refine clF q6e (vq p hp.v hp.c) (fun _ => by (refine ev3 @zb.eq_1 @encI.eq_1 @qk.eq_1 ?_; try exact True.intro)) ?_
 try (refine ev ?_; try exact True.intro)
 (repeat (with_reducible refine ob ?_)); refine jj _ (fun h => ?_) (fun h => ?_)
 ·have hb : vb p = ([], 1) := by unfold vb; rw [if_neg]; simpa using h
  try (refine ev2 @hb @qx ?_; try exact True.intro)
 have hv : qz p = true := by simpa using h
 have hb : vb p = (qcs (jr p), 0) := by unfold vb; rw [if_pos hv]
 obtain ⟨f1, f2⟩ := qjc hv
 try (refine ev ?_; try exact True.intro)
 refine qy (fun i : { i : Nat // i ≤ 7 } => q3s p i.val) (fun i => 7 - i.val) ⟨0, Nat.zero_le _⟩ ?_ (fun i => ?_)
 ·try simp only [q3s, List.take_zero, List.flatMap_nil, qx, Int.ofNat_zero, qk, zt, List.map_cons, List.map_nil, encI, go_sem, Nat.reduceAdd, Nat.reduceMul, Nat.reduceSub, Nat.reduceEqDiff, Nat.reduceLT, Nat.reduceLeDiff, Nat.reduceBEq, reduceIte, reduceCtorEq, Int.reduceAdd, Int.reduceLT, Int.reduceLE, Int.reduceGT, Int.reduceGE, Int.reduceEq, Int.reduceNe, Int.reduceBEq, Int.reduceBNe, Int.reduceToNat, Int.reduceNeg]
 obtain ⟨i, hi⟩ := i
 try (refine ev1 @q3s.eq_1 ?_; try exact True.intro)
 refine jj _ (fun hc => ?_) (fun hc => ?_)
 ·have hil : i < (zt p).length := by simp [zt] at hc ⊢; omega
  have hx := hw.h _ (List.getElem_mem hil)
  have hfl := ws wInt 10 ((zt p).take i) fun x hx => x6 (hw.h x (List.mem_of_mem_take hx))
  have htk : ((zt p).take i).length ≤ 7 := by rw [List.length_take]; omega
  have hsn := qcl wInt (zt p) hil
  have h7 : (zt p).length = 7 := rfl
  try (refine ev2 (xg encI (zt p) hil) @encI.eq_1 ?_; try exact True.intro)
  (repeat (with_reducible refine ob ?_))
  refine clA F71 (jq (((zt p).take i).flatMap wInt) (zt p)[i] (by omega) hx) ?_
  try (refine ev ?_; try exact True.intro)
  refine ⟨⟨i + 1, hil⟩, ?_, by dsimp only; omega⟩
  try (refine ev3 @q3s.eq_1 @hsn (qv (show i < 9223372036854775807 by omega)) ?_; try exact True.intro)
 ·have hie : i = 7 := by simp at hc; omega
  subst hie
  have ht : (zt p).take 7 = zt p := rfl
  have hfl := ws wInt 10 (zt p) fun x hx => x6 (hw.h x hx)
  have h7 : (zt p).length = 7 := rfl
  have hwv : (wAVs p.values).length ≤ 5000000 := by
   have h1 := x6 (xw (n := p.values.length) (by omega))
   have h2 := ws wAV 1000020 p.values fun x hx => qyp (hw.v x hx)
   simp only [wAVs, List.length_append]; omega
  have hwc : (qgb p.clock).length ≤ 5000000 := by
   have h1 := x6 (xw (n := p.clock.length) (by omega))
   have h2 := ws wInt 10 p.clock fun x hx => x6 (hw.c x hx)
   simp only [qgb, List.length_append]; omega
  try (refine ev2 @ht @qk.eq_1 ?_; try exact True.intro)
  refine clA zgw (qm0 ((zt p).flatMap wInt) p.values (by omega) (by omega) hw.v) ?_
  try (refine ev ?_; try exact True.intro)
  refine clA zgu (qr7 ((zt p).flatMap wInt ++ wAVs p.values) p.clock (by rw [List.length_append]; omega) (by omega) hw.c) ?_
  try (refine ev ?_; try exact True.intro)
  (repeat (with_reducible refine ob ?_)); first | refine cl zau (qyq (jr p) (by simp only [jr, List.length_append]; omega)) ?_ | refine clF zau (qyq (jr p) (by simp only [jr, List.length_append]; omega)) (fun _ => by (refine ev3 @zb.eq_1 @encI.eq_1 @qk.eq_1 ?_; try exact True.intro)) ?_
  try (refine ev1 @hb ?_; try exact True.intro)
end Go.Proofs.Ytinnaedmdoengaa
