/- Texts Wd, We, Wf, Wg, Wh. -/
import Derived.Test.YtinnaedmdoengaaMgl
import Derived.Calls
import Derived.Orders
import Derived.Tactics
import Derived.Laws.AppendOwn
import Derived.Laws.Slices
import Derived.Laws.Closers25
import Derived.Laws.StructEq
import Derived.Laws.BytesString
import Derived.Laws.CopyRow
import Derived.MapKept
import Derived.Maps.RangeRun
import Derived.TacticsIn
import Derived.OrdersIn
import Derived.RangeFuncRecord
import Derived.RangeFuncLeaves
import Derived.IntWalk
import Derived.ProofKit
import Derived.OpenShut
import Derived.Carry
import Derived.Test.YtinnaedmdoengaaProg
import Derived.KernelRfl
import Derived.OwnWalkIn
import Derived.TacticsInMore
import Derived.LoopIn
import Derived.WalkKit

namespace Go.Proofs.Ytinnaedmdoengaa
open Go.Abs Go.RowKit
set_option linter.unusedSimpArgs false
set_option linter.unusedVariables false
theorem quc (ro : Option Nat) : (Fw ro).round = ro := rfl
theorem q9i (ro : Option Nat) (f : FuncId) : (Fw ro).fn f = True := rfl
theorem qud (ro : Option Nat) : (Fw ro).depth = none := rfl
attribute [local go_sem] quc q9i qud
def partsOf (r : List UInt8) : List (Nat × List UInt8) := if h : r.length > 22 then (1, r.take 22) :: partsOf (r.drop 22) else [(2, r)]
termination_by r.length
decreasing_by simp; omega
def encPart (p : Nat × List UInt8) : List D := [.int .u8 (p.1 : Nat), .sl 1 (byteRows p.2)]
theorem xn {r : List UInt8} (h : r.length > 22) : partsOf r = (1, r.take 22) :: partsOf (r.drop 22) := by rw [partsOf, dif_pos h]
theorem xo {r : List UInt8} (h : ¬ r.length > 22) : partsOf r = [(2, r)] := by rw [partsOf, dif_neg h]
theorem qa7 (r : List UInt8) : ∀ n, (0 < n → 22 * n < r.length) → (partsOf r).drop n = partsOf (r.drop (22 * n))
 | 0, _ => by simp
 | n + 1, h => by
  have h1 := h (by omega)
  have ih := qa7 r n (fun _ => by omega)
  rw [← List.drop_drop, ih, xn (by rw [List.length_drop]; omega), List.drop_succ_cons, List.drop_zero, List.drop_drop]
  rfl
theorem qgs {r : List UInt8} {n : Nat} {p : Nat × List UInt8} {l : List (Nat × List UInt8)} (h : (partsOf r).drop n = p :: l) : ((partsOf r).map encPart)[n]? = some (encPart p) := by
 have : (partsOf r)[n]? = some p := by
  have := congrArg (fun l => l[0]?) h
  simpa using this
 rw [List.getElem?_map, this]; rfl
theorem qiz {W : World} {b : Nat} {c : Array Value} {e : TypeId} {z : Nat × Nat} (v : Value) (h : W.heap[b]? = some (.cells c e z)) : (W.setCell ⟨b, 0, none⟩ v).heap[b]? = some (.cells (c.setIfInBounds 0 v) e z) := by
 simp [World.setCell, Array.getElem?_modify, h]
theorem qgt {W : World} {b k : Nat} (v : Value) (h : k ≠ b) : (W.setCell ⟨b, 0, none⟩ v).heap[k]? = W.heap[k]? := by
 simp [World.setCell, Array.getElem?_modify, Ne.symm h]
theorem qq3 {g : Ghost} {w : World} {b off cap len : Nat} {r : List UInt8} (h : RV g w (.slice (some ⟨b, off, none⟩) len cap) (.sl 1 (byteRows r))) (n m c : Nat) (hn : n + m ≤ r.length) (hc : m ≤ c) (h0 : r ≠ []) :
  RV g w (.slice (some ⟨b, off + n, none⟩) m c) (.sl 1 (byteRows ((r.drop n).take m))) := by
 generalize hvd : byteRows r = rows at h
 have hne : rows ≠ [] := by rw [← hvd]; cases r <;> simp [byteRows] at h0 ⊢
 cases h with
 | nilsl => exact (hne rfl).elim
 | sl _ _ _ _ n0 o _ f hg hnn hcap hes hcl hcell hrv =>
 subst hvd
 have hfl : (byteRows ((r.drop n).take m)).flatten = (((byteRows r).flatten).drop n).take m := by simp only [va, List.map_take, List.map_drop]
 have hlen : (byteRows ((r.drop n).take m)).length = m := by rw [qz, List.length_take, List.length_drop]; omega
 have hsub : ∀ (j : Nat) (d : D), (byteRows ((r.drop n).take m)).flatten[j]? = some d → (byteRows r).flatten[n + j]? = some d := by
  intro j d hj
  rw [hfl, List.getElem?_take] at hj
  split at hj
  ·rwa [List.getElem?_drop] at hj
  ·cases hj
 have := RV.sl (g := g) (w := w) b (off + n) c 1 n0 o (byteRows ((r.drop n).take m)) (fun j => f (n + j)) hg (by
   rw [hfl, List.length_take, List.length_drop]
   have h1 : (byteRows r).flatten.length = r.length := by simp [va]
   rw [h1] at hnn ⊢
   omega) (by rw [hlen]; exact hc) (by intro x hx; obtain ⟨c, _, rfl⟩ := List.mem_map.1 hx; rfl) (by
   intro d hd
   obtain ⟨j, hj⟩ := List.getElem?_of_mem hd
   exact hcl d (List.mem_of_getElem? (hsub j d hj))) (fun j d hj => by rw [Nat.add_assoc]; exact hcell _ d (hsub j d hj)) (fun j d hj => hrv _ d (hsub j d hj))
 rwa [hlen] at this
set_option maxRecDepth 100000 in
set_option maxHeartbeats 1000000 in
theorem qof (r : List UInt8) (hl : r.length ≤ 1000000000) : ASeq Try.prog 122 [.ptr 0 0] [.row [.d (.sl 1 (byteRows r))]] ((partsOf r).map encPart) := by
 refine ⟨by rw [Try.func122]; rfl, ?_⟩
 intro g w lb l J hd hlb hrv hobj hab hY h0
 match lb, hlb with
 | [v0], _ =>
 have hp := hrv 0 v0 _ rfl rfl
 cases hp with
 | ptr b _ _ hg =>
 obtain ⟨b', hb', hro⟩ := (hobj.objs 0 _ rfl (by simp)).resolve_right (fun h => by cases h.1)
 have : b' = b := hobj.inj b' b 0 hb' hg
 subst this
 obtain ⟨c, e, hh, hsz, hc⟩ := hro
 obtain ⟨v, hv0, _, hv⟩ := hc 0 _ rfl
 have hv : RV g w v (.sl 1 (byteRows r)) := hv
 refine callsIn_of_wp Try.func122 rfl trivial ?_ rfl
 simp only [Try.ntmps122, List.size_toArray, List.length_cons, List.length_nil, Nat.reduceAdd, Nat.reduceSub, Array.replicate_succ, Array.replicate_zero, List.push_toArray, List.append_toArray, List.nil_append, List.cons_append]
 generalize hvd : byteRows r = rows at hv
 cases hv with
 | nilsl a cc _ hn =>
  have hr0 : r = [] := by cases r <;> simp [byteRows] at hvd ⊢
  subst hr0
  have hsp : (partsOf []).drop 0 = [(2, [])] := by rw [List.drop_zero, xo (by simp)]
  refine wpIn_seq (wpIn_block ?_)
  refine ye (fun m a W => (∃ t3 t4 t5 t6 t7 t8 t9 t10 t11 t12 t13 t14 t15, a = { tmps := #[.func (.yield l) #[] #[], .pointer (some ⟨b', 0, none⟩), undef, t3, t4, t5, t6, t7, t8, t9, t10, t11, t12, t13, t14, t15], defers := [] }) ∧ W.heap[b']? = some (.cells c e (0, 0)) ∧ J 0 W) (n0 := 0)
   ⟨⟨_, _, _, _, _, _, _, _, _, _, _, _, _, rfl⟩, hh, h0⟩ ?_
  rintro m ac W ⟨⟨t3, t4, t5, t6, t7, t8, t9, t10, t11, t12, t13, t14, t15, rfl⟩, hhW, hJ⟩
  have hcW : W.cell? ⟨b', 0, none⟩ = some (.slice a 0 cc) := by simp [World.cell?, hhW, hv0]
  have hfW : W.frozen? ⟨b', 0, none⟩ = false := by simp [World.frozen?, hhW]
  obtain ⟨fn, tmps, assign, body, hy, hR⟩ := hY 0 _ [.int .u8 2, .slice a 0 cc] W (qgs hsp) hJ rfl (by
   intro i v d hi hd
   match i with
   | 0 => simp [encPart] at hi hd; subst hi; subst hd; exact .int _ _
   | 1 => simp [encPart] at hi hd; subst hi; subst hd; exact .nilsl a cc 1 hn
   | i + 2 => simp at hi)
  gi_wp2
  refine hR.mono ?_
  rintro e1 W1 ⟨rfl, hJ1, hk1⟩
  gi_wp2
  go_end0
  have hln : (partsOf []).length = 1 := by have := congrArg List.length hsp; simpa using this
  exact ⟨⟨_, rfl⟩, by rw [List.length_map, hln]; exact hJ1⟩
 | sl bb off cap _ n0 o _ f hgb hnn hcap hes hcl hcell hrvv =>
 subst hvd
 have hv : RV g w (.slice (some ⟨bb, off, none⟩) (byteRows r).length cap) (.sl 1 (byteRows r)) := hv
 refine wpIn_seq (wpIn_block ?_)
 refine ye (fun m a W => ∃ n, m = r.length - 22 * n ∧ 22 * n ≤ r.length ∧ (0 < n → 22 * n < r.length) ∧ (∃ t3 t4 t5 t6 t7 t8 t9 t10 t11 t12 t13 t14 t15, a = { tmps := #[.func (.yield l) #[] #[], .pointer (some ⟨b', 0, none⟩), undef, t3, t4, t5, t6, t7, t8, t9, t10, t11, t12, t13, t14, t15], defers := [] }) ∧
  W.heap[b']? = some (.cells (c.setIfInBounds 0 (.slice (some ⟨bb, off + 22 * n, none⟩) (r.length - 22 * n) (cap - 22 * n))) e (0, 0)) ∧ J n W) (n0 := r.length) ⟨0, by omega, by omega, by omega, ⟨_, _, _, _, _, _, _, _, _, _, _, _, _, rfl⟩, ?_, h0⟩ ?_
 ·rw [qz] at hv0
  rw [hh, show off + 22 * 0 = off by omega, show r.length - 22 * 0 = r.length by omega, show cap - 22 * 0 = cap by omega]
  congr 2
  apply Array.ext
  ·simp
  ·intro i h1 h2
   rw [Array.getElem_setIfInBounds]
   split
   ·rename_i h; subst h; simpa [Array.getElem?_eq_getElem h1] using hv0
   ·rfl
 rintro m a W ⟨n, rfl, hn1, hn2, ⟨t3, t4, t5, t6, t7, t8, t9, t10, t11, t12, t13, t14, t15, rfl⟩, hhW, hJ⟩
 have hcW : W.cell? ⟨b', 0, none⟩ = some (.slice (some ⟨bb, off + 22 * n, none⟩) (r.length - 22 * n) (cap - 22 * n)) := by
  have : 0 < c.size := by simp at hsz; omega
  simp [World.cell?, hhW, this]
 have hfW : W.frozen? ⟨b', 0, none⟩ = false := by simp [World.frozen?, hhW]
 by_cases hmore : r.length - 22 * n > 22
 ·have hmi : ((r.length - 22 * n : Nat) : Int) > 22 := by omega
  have hlc : r.length ≤ cap := by simpa [qz] using hcap
  have hci : (22 : Int) ≤ ((cap - 22 * n : Nat) : Int) := by omega
  have hci2 : (22 : Int) ≤ ((r.length - 22 * n : Nat) : Int) := by omega
  have hci3 : ((r.length - 22 * n : Nat) : Int) ≤ ((cap - 22 * n : Nat) : Int) := by omega
  have hsp : (partsOf r).drop n = (1, (r.drop (22 * n)).take 22) :: partsOf ((r.drop (22 * n)).drop 22) := by rw [qa7 r n hn2, xn (by rw [List.length_drop]; exact hmore)]
  obtain ⟨fn, tmps, assign, body, hy, hR⟩ := hY n _ [.int .u8 1, .slice (some ⟨bb, off + 22 * n, none⟩) 22 (cap - 22 * n)] W (qgs hsp) hJ rfl (by
   intro i v d hi hd
   match i with
   | 0 => simp [encPart] at hi hd; subst hi; subst hd; exact .int _ _
   | 1 => simp [encPart] at hi hd; subst hi; subst hd; exact qq3 hv (22 * n) 22 _ (by omega) (by omega) (by intro h; rw [h] at hmore; simp at hmore)
   | i + 2 => simp at hi)
  gi_wp2
  refine hR.mono ?_
  rintro e1 W1 ⟨rfl, hJ1, hk1⟩
  have hhW1 := (hk1 b' 0 hg).trans hhW
  have hcW1 : W1.cell? ⟨b', 0, none⟩ = some (.slice (some ⟨bb, off + 22 * n, none⟩) (r.length - 22 * n) (cap - 22 * n)) := by
   have : 0 < c.size := by simp at hsz; omega
   simp [World.cell?, hhW1, this]
  have hfW1 : W1.frozen? ⟨b', 0, none⟩ = false := by simp [World.frozen?, hhW1]
  gi_wp2
  refine ⟨_, ?_, n + 1, rfl, by omega, by omega, ⟨_, _, _, _, _, _, _, _, _, _, _, _, _, rfl⟩, ?_, ?_⟩
  ·omega
  ·rw [qiz _ hhW1, Array.setIfInBounds_setIfInBounds]
   have e1 : off + 22 * n + 22 = off + 22 * (n + 1) := by omega
   have e2 : r.length - 22 * n - 22 = r.length - 22 * (n + 1) := by omega
   have e3 : cap - 22 * n - 22 = cap - 22 * (n + 1) := by omega
   rw [e1, e2, e3]
  ·refine hab (n + 1) W1 _ hJ1 rfl rfl rfl (by simp [World.setCell]) (fun k hk => qgt _ (fun h => hk 0 (h ▸ hg)))
 ·have hmi : ¬ ((r.length - 22 * n : Nat) : Int) > 22 := by omega
  have hsp : (partsOf r).drop n = [(2, r.drop (22 * n))] := by rw [qa7 r n hn2, xo (by rw [List.length_drop]; exact hmore)]
  have hln : (partsOf r).length = n + 1 := by
   have := congrArg List.length hsp
   simp at this; omega
  obtain ⟨fn, tmps, assign, body, hy, hR⟩ := hY n _ [.int .u8 2, .slice (some ⟨bb, off + 22 * n, none⟩) (r.length - 22 * n) (cap - 22 * n)] W (qgs hsp) hJ rfl (by
   intro i v d hi hd
   match i with
   | 0 => simp [encPart] at hi hd; subst hi; subst hd; exact .int _ _
   | 1 =>
    simp [encPart] at hi hd; subst hi; subst hd
    rcases Nat.eq_zero_or_pos n with rfl | hn0
    ·have e1 : cap - 22 * 0 = cap := by omega
     rw [e1]
     simpa [qz] using hv
    ·have h1 := hn2 hn0
     have := qq3 hv (22 * n) (r.length - 22 * n) (cap - 22 * n) (by omega) (by
      have : r.length ≤ cap := by simpa [qz] using hcap
      omega) (by intro h; rw [h] at h1; simp at h1)
     rwa [List.take_of_length_le (by rw [List.length_drop]; omega)] at this
   | i + 2 => simp at hi)
  gi_wp2
  refine hR.mono ?_
  rintro e1 W1 ⟨rfl, hJ1, hk1⟩
  gi_wp2
  go_end0
  exact ⟨⟨_, rfl⟩, by rw [List.length_map, hln]; exact hJ1⟩
end Go.Proofs.Ytinnaedmdoengaa
namespace Go.Proofs.Ytinnaedmdoengaa
open Go.Abs
set_option linter.unusedSimpArgs false
noncomputable section
set_option maxRecDepth 100000
def s93r0 : List SOper := [
 ⟨some 1, .box 1 (.t 0), none⟩,
 ⟨some 2, .mov (.k (.d .nilfunc)), none⟩]
def s93r1 : List SOper := [
 ⟨some 3, .mkFunc (.func 122) [] [(.t 1)], none⟩,
 ⟨some 2, .mov (.t 3), none⟩]
def s93 : SCode := (.seq (.region s93r0 1 []) (.seq (.region s93r1 0 []) .ret))
theorem e93 : CodeIs s93.eq_1 := qc s93.eq_1
theorem q9j : RegIs s93r0.eq_1 := qa
theorem q9k : RegIs s93r1.eq_1 := qa
attribute [go_sem] q9j q9k e93
theorem F93 : FnIs Try.prog 93 Try.f93 [] news s93 [.tmp 2] 4 := xe follows Try.func93
def s42r0 : List SOper := [
 ⟨some 2, .box 2 (.t 0), none⟩,
 ⟨some 4, .alloc 1 [(.d .nilsl), (.d (.int .i64 0))], none⟩,
 ⟨some 5, .mov (.k (.d (.int .i64 0))), none⟩]
def s42r1 : List SOper := [
 ⟨some 14, .mov (.t 1), none⟩,
 ⟨some 15, .len (.t 14), none⟩,
 ⟨some 16, .bin .gtr (.t 15) (.k (.d (.int .i64 2000))), none⟩]
def s42r2 : List SOper := [
 ⟨some 17, .build [.nilsl, (.int .i64 0)] [], none⟩,
 ⟨none, .store (some 2) (.t 4) (.t 17), none⟩,
 ⟨some 5, .mov (.k (.d (.int .i64 6))), none⟩]
def s42r3 : List SOper := [
 ⟨some 18, .faddr 0 (.t 2), none⟩,
 ⟨some 19, .load none (.t 18), none⟩,
 ⟨some 20, .len (.t 19), none⟩,
 ⟨some 6, .mov (.t 20), none⟩]
def s42r4 : List SOper := [
 ⟨some 21, .faddr 0 (.t 2), none⟩,
 ⟨some 22, .load none (.t 21), none⟩,
 ⟨some 23, .call (.k (.d (.func (.func 92) [] []))) [(.t 22)], none⟩,
 ⟨some 7, .alloc 1 [(.d (.int .u64 0))], none⟩,
 ⟨none, .store none (.t 7) (.t 23), none⟩]
def s42r5 : List SOper := [
 ⟨some 24, .faddr 0 (.t 2), none⟩,
 ⟨some 25, .load none (.t 24), none⟩,
 ⟨some 26, .mov (.t 6), none⟩,
 ⟨some 27, .mov (.t 6), none⟩,
 ⟨some 28, .slice 1 (.t 25) none (some (.t 26)) (some (.t 27)), none⟩,
 ⟨some 8, .alloc 1 [(.d .nilsl)], none⟩,
 ⟨none, .store none (.t 8) (.t 28), none⟩]
def s42r6 : List SOper := [
 ⟨some 29, .mov (.t 1), none⟩,
 ⟨some 30, .call (.k (.d (.func (.func 93) [] []))) [(.t 29)], none⟩]
def s42r7 : List SOper := [
 ⟨some 9, .mov (.t 31), none⟩]
def s42r8 : List SOper := [
 ⟨some 10, .mov (.t 32), none⟩]
def s42r9 : List SOper := [
 ⟨some 11, .alloc 1 [(.d (.int .u8 0)), (.d (.int .u8 0)), (.d (.int .u8 0)), (.d (.int .u8 0)), (.d (.int .u8 0)), (.d (.int .u8 0)), (.d (.int .u8 0)), (.d (.int .u8 0)), (.d (.int .u8 0)), (.d (.int .u8 0)), (.d (.int .u8 0)), (.d (.int .u8 0)), (.d (.int .u8 0)), (.d (.int .u8 0)), (.d (.int .u8 0)), (.d (.int .u8 0)), (.d (.int .u8 0)), (.d (.int .u8 0)), (.d (.int .u8 0)), (.d (.int .u8 0)), (.d (.int .u8 0)), (.d (.int .u8 0)), (.d (.int .u8 0)), (.d (.int .u8 0))], none⟩]
def s42r10 : List SOper := [
 ⟨some 33, .mov (.t 9), none⟩,
 ⟨some 34, .mov (.t 10), none⟩,
 ⟨some 35, .len (.t 34), none⟩,
 ⟨some 36, .conv .u8 (.t 35), none⟩,
 ⟨some 37, .iaddrA 24 1 (.t 11) (.k (.d (.int .i64 0))), none⟩,
 ⟨none, .store none (.t 37) (.t 33), none⟩,
 ⟨some 38, .iaddrA 24 1 (.t 11) (.k (.d (.int .i64 1))), none⟩,
 ⟨none, .store none (.t 38) (.t 36), none⟩]
def s42r11 : List SOper := [
 ⟨some 39, .sliceA 24 1 (.t 11) (some (.k (.d (.int .i64 2)))) none none, none⟩,
 ⟨some 40, .mov (.t 10), none⟩,
 ⟨some 41, .copy 1 (.t 39) (.t 40), none⟩]
def s42r12 : List SOper := [
 ⟨some 43, .load none (.t 7), none⟩,
 ⟨some 44, .sliceA 24 1 (.t 11) none none none, none⟩,
 ⟨some 45, .call (.k (.d (.func (.func 94) [] []))) [(.t 43), (.t 44)], none⟩,
 ⟨some 42, .mov (.t 45), none⟩,
 ⟨some 46, .extract 0 (.t 42), none⟩,
 ⟨some 47, .extract 1 (.t 42), none⟩,
 ⟨some 13, .alloc 1 [(.d (.int .u8 0)), (.d (.int .u8 0)), (.d (.int .u8 0)), (.d (.int .u8 0)), (.d (.int .u8 0)), (.d (.int .u8 0)), (.d (.int .u8 0)), (.d (.int .u8 0))], none⟩,
 ⟨some 12, .mov (.t 46), none⟩,
 ⟨none, .store (some 8) (.t 13) (.t 47), none⟩]
def s42r13 : List SOper := [
 ⟨some 48, .load none (.t 8), none⟩,
 ⟨some 49, .sliceA 24 1 (.t 11) none none none, none⟩,
 ⟨some 50, .append false 1 1 (.t 48) (.t 49), none⟩,
 ⟨some 51, .sliceA 8 1 (.t 13) none none none, none⟩,
 ⟨some 52, .append false 1 1 (.t 50) (.t 51), none⟩,
 ⟨some 53, .mov (.t 12), none⟩,
 ⟨none, .store none (.t 8) (.t 52), none⟩,
 ⟨none, .store none (.t 7) (.t 53), none⟩]
def s42l14 : SCode := (.seq (.region s42r7 0 []) (.region s42r8 0 []))
theorem q0q : CodeIs s42l14.eq_1 := qc s42l14.eq_1
def s42l15 : SCode := (.block 1 (.seq (.region s42r9 1 []) (.seq (.region s42r10 0 []) (.seq (.region s42r11 0 []) (.seq (.region s42r12 1 [(0, 6), (1, 6), (2, 6)]) (.region s42r13 0 []))))))
theorem q0r : CodeIs s42l15.eq_1 := qc s42l15.eq_1
def s42r16 : List SOper := [
 ⟨some 54, .load none (.t 8), none⟩,
 ⟨some 55, .faddr 1 (.t 2), none⟩,
 ⟨some 56, .load none (.t 55), none⟩,
 ⟨some 57, .build [.nilsl, (.int .i64 0)] [(0, 1, (.t 54)), (1, 1, (.t 56))], none⟩,
 ⟨none, .store (some 2) (.t 4) (.t 57), none⟩,
 ⟨some 5, .mov (.k (.d (.int .i64 0))), none⟩]
def s42 : SCode := (.seq (.region s42r0 2 []) (.seq (.seq (.region s42r1 0 []) (.cond (.t 16) (.seq (.region s42r2 0 []) .ret) .skip)) (.seq (.region s42r3 0 []) (.seq (.region s42r4 1 []) (.seq (.region s42r5 1 []) (.seq (.seq (.region s42r6 1 []) (.block 0 (.rangeFunc (.t 30) [31, 32] s42l14 s42l15))) (.seq (.region s42r16 0 []) .ret)))))))
theorem e42 : CodeIs s42.eq_1 := qc s42.eq_1
theorem q9l : RegIs s42r0.eq_1 := qa
theorem q9m : RegIs s42r1.eq_1 := qa
theorem q9n : RegIs s42r2.eq_1 := qa
theorem q9o : RegIs s42r3.eq_1 := qa
theorem q9p : RegIs s42r4.eq_1 := qa
theorem q9q : RegIs s42r5.eq_1 := qa
theorem q9r : RegIs s42r6.eq_1 := qa
theorem q9s : RegIs s42r7.eq_1 := qa
theorem q9t : RegIs s42r8.eq_1 := qa
theorem q9u : RegIs s42r9.eq_1 := qa
theorem q0s : RegIs s42r10.eq_1 := qa
theorem q0t : RegIs s42r11.eq_1 := qa
theorem q0u : RegIs s42r12.eq_1 := qa
theorem q0v : RegIs s42r13.eq_1 := qa
theorem q0w : RegIs s42r16.eq_1 := qa
attribute [go_sem] q9l q9m q9n q9o q9p q9q q9r q9s q9t q9u q0s q0t q0u q0v q0q q0r q0w e42
theorem F42 : FnIs Try.prog 42 Try.f42 [] news s42 [.cell 4 (some 2), .tmp 5] 58 := xe follows Try.func42
end
theorem que (r : List UInt8) : ACall Try.prog 93 [.d (.sl 1 (byteRows r))] [] (.d (.func (.func 122) [] [.ptr 0 0])) [.row [.d (.sl 1 (byteRows r))]] := by
 refine F93.go ?_
 try (refine ev ?_; try exact True.intro)
 exact ⟨_, rfl⟩
def headOf (p : Nat × List UInt8) : List UInt8 := [UInt8.ofNat p.1, UInt8.ofNat p.2.length] ++ p.2 ++ List.replicate (22 - p.2.length) 0
def cellOn (x : List UInt8 × Nat) (p : Nat × List UInt8) : List UInt8 × Nat := (x.1 ++ headOf p ++ be8 (fnv x.2 (headOf p)), fnv x.2 (headOf p))
def cellsOn (x : List UInt8 × Nat) (l : List (Nat × List UInt8)) : List UInt8 × Nat := l.foldl cellOn x
def wAppend (file r : List UInt8) : List UInt8 := (cellsOn (file, wSeed file) (partsOf r)).1
theorem ze : ∀ (n : Nat) (r : List UInt8), r.length ≤ n → ∀ p ∈ partsOf r, (p.1 = 1 ∨ p.1 = 2) ∧ p.2.length ≤ 22
 | n, r, hn => by
  intro p hp
  by_cases h : r.length > 22
  ·rw [xn h] at hp
   rcases List.mem_cons.1 hp with rfl | hp
   ·exact ⟨.inl rfl, by simp; omega⟩
   ·cases n with
    | zero => omega
    | succ n => exact ze n (r.drop 22) (by rw [List.length_drop]; omega) p hp
  ·rw [xo h] at hp
   have : p = (2, r) := by simpa using hp
   subst this
   exact ⟨.inr rfl, by simp only; omega⟩
theorem qdb : ∀ (n : Nat) (r : List UInt8), r.length ≤ n → (partsOf r).length ≤ r.length + 1
 | n, r, hn => by
  by_cases h : r.length > 22
  ·rw [xn h]
   cases n with
   | zero => omega
   | succ n =>
    have := qdb n (r.drop 22) (by rw [List.length_drop]; omega)
    rw [List.length_drop] at this
    rw [List.length_cons]
    omega
  ·rw [xo h]; simp
theorem jr {p : Nat × List UInt8} (h : p.2.length ≤ 22) : (headOf p).length = 24 := by simp [headOf]; omega
theorem qi0 (x : List UInt8 × Nat) (l : List (Nat × List UInt8)) (p : Nat × List UInt8) : cellsOn x (l ++ [p]) = cellOn (cellsOn x l) p := by unfold cellsOn; rw [List.foldl_append, List.foldl_cons, List.foldl_nil]
theorem qdc (x : List UInt8 × Nat) : ∀ l : List (Nat × List UInt8), (∀ p ∈ l, p.2.length ≤ 22) → (cellsOn x l).1.length = x.1.length + 32 * l.length := by
 intro l h
 induction l generalizing x with
 | nil => simp [cellsOn]
 | cons p l ih =>
  have := ih (cellOn x p) (fun q hq => h q (List.mem_cons_of_mem _ hq))
  have h1 := jr (h p List.mem_cons_self)
  have h2 : cellsOn x (p :: l) = cellsOn (cellOn x p) l := rfl
  rw [h2, this, cellOn]
  simp only [List.length_append, xx, h1, List.length_cons]
  omega
theorem qml (file : List UInt8) : wSeed file < 18446744073709551616 := by
 unfold wSeed
 split
 ·omega
 ·have := qgr 8 (file.drop (file.length - 8)) (by rw [List.length_drop]; omega)
  have e : (256 : Nat) ^ 8 = 18446744073709551616 := by decide
  omega
theorem qog (x : List UInt8 × Nat) (hx : x.2 < 18446744073709551616) (l : List (Nat × List UInt8)) : (cellsOn x l).2 < 18446744073709551616 := by
 induction l generalizing x with
 | nil => exact hx
 | cons p l ih =>
  have h1 : (cellOn x p).2 = fnv x.2 (headOf p) := by rw [cellOn]
  have h2 : (cellOn x p).2 < 18446744073709551616 := by rw [h1]; exact qix hx _
  have h3 : cellsOn x (p :: l) = cellsOn (cellOn x p) l := rfl
  rw [h3]; exact ih _ h2
theorem qlg {cs new : List ASlot} {off : Nat} (h : off + new.length ≤ cs.length) : setCells cs off new = cs.take off ++ new ++ cs.drop (off + new.length) := by
 apply List.ext_getElem?
 intro i
 rw [ke new cs off i h]
 split
 ·rename_i hi
  rw [List.append_assoc, List.getElem?_append_right (by rw [List.length_take]; omega), List.length_take, Nat.min_eq_left (by omega), List.getElem?_append_left (by omega)]
 ·rename_i hi
  rcases Nat.lt_or_ge i off with h1 | h1
  ·rw [List.append_assoc, List.getElem?_append_left (by rw [List.length_take]; omega), List.getElem?_take, if_pos h1]
  ·rw [List.getElem?_append_right (by simp only [List.length_append, List.length_take]; omega), List.getElem?_drop]
   congr 1
   simp only [List.length_append, List.length_take]; omega
theorem qoh (p : Nat × List UInt8) (h1 : p.1 = 1 ∨ p.1 = 2) (h2 : p.2.length ≤ 22) :
  setCells [ASlot.d (D.int .u8 (p.1 : Nat)), ASlot.d (D.int .u8 (IntKind.u8.wrap (p.2.length : Nat))), ASlot.d (D.int .u8 0), ASlot.d (D.int .u8 0), ASlot.d (D.int .u8 0), ASlot.d (D.int .u8 0), ASlot.d (D.int .u8 0), ASlot.d (D.int .u8 0), ASlot.d (D.int .u8 0), ASlot.d (D.int .u8 0), ASlot.d (D.int .u8 0), ASlot.d (D.int .u8 0), ASlot.d (D.int .u8 0), ASlot.d (D.int .u8 0), ASlot.d (D.int .u8 0), ASlot.d (D.int .u8 0), ASlot.d (D.int .u8 0), ASlot.d (D.int .u8 0), ASlot.d (D.int .u8 0), ASlot.d (D.int .u8 0), ASlot.d (D.int .u8 0), ASlot.d (D.int .u8 0), ASlot.d (D.int .u8 0), ASlot.d (D.int .u8 0)] 2 (List.map ASlot.d (List.take 22 (byteRows p.2)).flatten) = ((headOf p).map byteD).map ASlot.d := by
 have e1 : (List.take 22 (byteRows p.2)).flatten = p.2.map byteD := by rw [List.take_of_length_le (by rw [qz]; exact h2), va]
 have e2 : [ASlot.d (D.int .u8 (p.1 : Nat)), ASlot.d (D.int .u8 (IntKind.u8.wrap (p.2.length : Nat))), ASlot.d (D.int .u8 0), ASlot.d (D.int .u8 0), ASlot.d (D.int .u8 0), ASlot.d (D.int .u8 0), ASlot.d (D.int .u8 0), ASlot.d (D.int .u8 0), ASlot.d (D.int .u8 0), ASlot.d (D.int .u8 0), ASlot.d (D.int .u8 0), ASlot.d (D.int .u8 0), ASlot.d (D.int .u8 0), ASlot.d (D.int .u8 0), ASlot.d (D.int .u8 0), ASlot.d (D.int .u8 0), ASlot.d (D.int .u8 0), ASlot.d (D.int .u8 0), ASlot.d (D.int .u8 0), ASlot.d (D.int .u8 0), ASlot.d (D.int .u8 0), ASlot.d (D.int .u8 0), ASlot.d (D.int .u8 0), ASlot.d (D.int .u8 0)] = ([UInt8.ofNat p.1, UInt8.ofNat p.2.length] ++ List.replicate 22 0).map (fun c => ASlot.d (byteD c)) := by
  have a1 : ((p.1 : Nat) : Int) = ((UInt8.ofNat p.1).toNat : Int) := by rcases h1 with h | h <;> rw [h] <;> rfl
  have a2 := qgp p.2.length
  rw [a1, a2]
  rfl
 rw [e1, e2, qlg (by simp; omega)]
 have a3 : ([UInt8.ofNat p.1, UInt8.ofNat p.2.length] ++ List.replicate 22 (0 : UInt8)).drop (2 + p.2.length) = List.replicate (22 - p.2.length) 0 := by
  rw [List.drop_append, List.drop_of_length_le (by simp), List.nil_append, List.drop_replicate]
  congr 1
  simp only [List.length_cons, List.length_nil]; omega
 rw [← List.map_take, ← List.map_drop, List.length_map, List.length_map, a3, headOf]
 simp only [List.cons_append, List.nil_append, List.take_succ_cons, List.take_zero, List.map_cons, List.map_nil, List.map_append, List.map_map]
 rfl
theorem qi1 (h : Nat) : setCells [ASlot.d (D.int .u8 0), ASlot.d (D.int .u8 0), ASlot.d (D.int .u8 0), ASlot.d (D.int .u8 0), ASlot.d (D.int .u8 0), ASlot.d (D.int .u8 0), ASlot.d (D.int .u8 0), ASlot.d (D.int .u8 0)] 0 (((be8 h).map byteD).map ASlot.d) = ((be8 h).map byteD).map .d := rfl
theorem qlh (s : List UInt8) (n : Nat) : (List.take n (s.map byteD)).all D.isCell = true := by rw [← List.map_take]; exact yj _
theorem qa8 {os : List AObj} {id n : Nat} {s : List UInt8} (h : objCells os id = (s.map byteD).map .d) (hn : s.length = n) : refRows os id 0 1 n = byteRows s := by
 unfold refRows
 rw [h, List.drop_zero, qe3, ← hn, qiy]
theorem qq4 (a b c d : AObj) (l : List AObj) (s : List UInt8) (h : s.length = 24) : refRows (a :: b :: c :: d :: .row ((s.map byteD).map .d) :: l) 4 0 1 24 = byteRows s := qa8 rfl h
theorem qq5 (a b c d e : AObj) (l : List AObj) (s : List UInt8) (h : s.length = 8) : refRows (a :: b :: c :: d :: e :: .row ((s.map byteD).map .d) :: l) 5 0 1 8 = byteRows s := qa8 rfl h
def Sapp (file r : List UInt8) (synced : Int) (k : Nat) : St :=
 ⟨[(2, true, .d (.ptr 0 0)), (4, true, .d (.ptr 1 0)), (5, true, .d (.int .i64 0)), (7, true, .d (.ptr 2 0)), (8, true, .d (.ptr 3 0))],
  [.row [.d (.sl 1 (byteRows file)), .d (.int .i64 synced)], .row [.d .nilsl, .d (.int .i64 0)], .row [.d (.int .u64 ((cellsOn (file, wSeed file) ((partsOf r).take k)).2 : Nat))], .row [.own 0 1 (byteRows (cellsOn (file, wSeed file) ((partsOf r).take k)).1)]], [0], 1⟩
def encLog (file : List UInt8) (synced : Int) : List D := [.sl 1 (byteRows file), .int .i64 synced]
theorem qi2 (file : List UInt8) (synced : Int) : D.noPtrL (encLog file synced) = true := by simp only [encLog, D.noPtrL, D.noPtr, xw, Bool.and_self]
attribute [go_sem] qi2
set_option maxRecDepth 10000 in
theorem qah (file r : List UInt8) (synced : Int) (hf : file.length ≤ 100000000) (hr : r.length ≤ 2000) :
  ACall Try.prog 42 [.d (.agg (encLog file synced)), .d (.sl 1 (byteRows r))] [] (.tup [.d (.agg (encLog (wAppend file r) synced)), .d (.int .i64 0)]) [] := by
 refine F42.goT ?_
 have hr0 : decide ((r.length : Int) > 2000) = false := by simp; omega
 try (refine ev1 @encLog.eq_1 ?_; try exact True.intro)
 try (refine ev1 @hr0 ?_; try exact True.intro)
 (repeat (with_reducible refine ob ?_)); refine no_ ?_
 try (refine ev ?_; try exact True.intro)
 (repeat (with_reducible refine ob ?_)); refine cl F92 (qwn file (by omega)) ?_
 try (refine ev ?_; try exact True.intro)
 (repeat (with_reducible refine ob ?_))
 refine clO [4] F93 (que r) ?_
 try (refine ev ?_; try exact True.intro)
 have hft : List.take (file.length - 0) (byteRows file) = byteRows file := List.take_of_length_le (by rw [qz]; omega)
 try (refine ev1 @hft ?_; try exact True.intro)
 refine qyh 122 [.ptr 0 0] [4] [.row [.d (.sl 1 (byteRows r))]] ((partsOf r).map encPart) (Sapp file r synced) [(2, true, .d (.ptr 0 0)), (4, true, .d (.ptr 1 0)), (5, true, .d (.int .i64 0)), (7, true, .d (.ptr 2 0)), (8, true, .d (.ptr 3 0))]
  (qof r (by omega)) ?_ ?_ ?_ ?_ ?_ ?_
 ·try (refine ev4 @Sapp.eq_1 @List.take_zero.{0} @cellsOn.eq_1 @List.foldl_nil.{0,0} ?_; try exact True.intro)
 ·intro k vs hk
  rw [List.getElem?_map, Option.map_eq_some_iff] at hk
  obtain ⟨p, hp, rfl⟩ := hk
  obtain ⟨p1, p2⟩ := ze _ r (Nat.le_refl _) p (List.mem_of_getElem? hp)
  obtain ⟨hk, hpk⟩ := List.getElem?_eq_some_iff.1 hp
  have htk : (partsOf r).take (k + 1) = (partsOf r).take k ++ [p] := by rw [List.take_succ_eq_append_getElem hk, hpk]
  have hh := qog (file, wSeed file) (qml file) ((partsOf r).take k)
  have hln : (cellsOn (file, wSeed file) ((partsOf r).take k)).1.length ≤ 200000000 := by
   rw [qdc _ _ (fun q hq => (ze _ r (Nat.le_refl _) q (List.mem_of_mem_take hq)).2), List.length_take]
   have := qdb _ r (Nat.le_refl _)
   simp only; omega
  have h24 := jr p2
  generalize hx : cellsOn (file, wSeed file) ((partsOf r).take k) = x at hh hln
  have hx1 : cellsOn (file, wSeed file) ((partsOf r).take (k + 1)) = cellOn x p := by rw [htk, qi0, hx]
  have hc := qoh p p1 p2
  have hck := qq1 x.2 (headOf p) hh (by omega)
  rw [h24] at hck
  try (refine ev5 @Sapp.eq_1 @encPart.eq_1 @hx @hx1 @hc ?_; try exact True.intro)
  (repeat (with_reducible refine ob ?_))
  refine clO [4] F94 hck ?_
  try simp only [qi1, qlh, qq4 _ _ _ _ _ _ h24, qq5 _ _ _ _ _ _ _ (xx _), xx, h24, qn, go_sem, Nat.reduceAdd, Nat.reduceMul, Nat.reduceSub, Nat.reduceEqDiff, Nat.reduceLT, Nat.reduceLeDiff, Nat.reduceBEq, reduceIte, reduceCtorEq, Int.reduceAdd, Int.reduceLT, Int.reduceLE, Int.reduceGT, Int.reduceGE, Int.reduceEq, Int.reduceNe, Int.reduceBEq, Int.reduceBNe, Int.reduceToNat, Int.reduceNeg]
  refine ⟨by omega, by omega, .weak ?_ (.refl _)⟩
  try (refine ev1 @cellOn.eq_1 ?_; try exact True.intro)
 ·have hw : cellsOn (file, wSeed file) (List.take (partsOf r).length (partsOf r)) = cellsOn (file, wSeed file) (partsOf r) := by rw [List.take_length]
  try (refine ev3 @Sapp.eq_1 @hw @wAppend.eq_1 ?_; try exact True.intro)
 ·intro vs hvs
  obtain ⟨p, _, rfl⟩ := List.mem_map.1 hvs
  exact ⟨rfl, by simp [encPart, D.noPtrL, D.noPtr, xw]⟩
 ·try (refine ev ?_; try exact True.intro)
 ·intro k id hid
  have : id = 4 := by simpa using hid
  subst this
  rfl
end Go.Proofs.Ytinnaedmdoengaa
namespace Go.Proofs.Ytinnaedmdoengaa
open Go.Abs
set_option linter.unusedSimpArgs false
set_option linter.unusedVariables false
noncomputable section
set_option maxRecDepth 100000
def s43r0 : List SOper := [
 ⟨some 2, .mov (.k (.d .nilsl)), none⟩]
def s43r1 : List SOper := [
 ⟨some 3, .mov (.t 0), none⟩,
 ⟨some 4, .eqnilS false (.t 3), none⟩]
def s43r2 : List SOper := [
 ⟨some 2, .mov (.k (.d .nilsl)), none⟩]
def s43r3 : List SOper := [
 ⟨some 5, .buildSlice false 1 0 [(.int .u8 0)] [], none⟩,
 ⟨some 6, .mov (.t 0), none⟩,
 ⟨some 7, .append false 1 1 (.t 5) (.t 6), none⟩,
 ⟨some 2, .mov (.t 7), none⟩]
def s43 : SCode := (.seq (.region s43r0 0 []) (.seq (.seq (.region s43r1 0 []) (.cond (.t 4) (.seq (.region s43r2 0 []) .ret) .skip)) (.seq (.region s43r3 0 []) .ret)))
theorem e43 : CodeIs s43.eq_1 := qc s43.eq_1
theorem q9v : RegIs s43r0.eq_1 := qa
theorem q9w : RegIs s43r1.eq_1 := qa
theorem q9x : RegIs s43r2.eq_1 := qa
theorem q9y : RegIs s43r3.eq_1 := qa
attribute [go_sem] q9v q9w q9x q9y e43
theorem F43 : FnIs Try.prog 43 Try.f43 [] news s43 [.tmp 2] 8 := xe follows Try.func43
def s40r0 : List SOper := [
 ⟨some 2, .mov (.k (.d .nilmap)), none⟩]
def s40r1 : List SOper := [
 ⟨some 3, .mov (.t 0), none⟩,
 ⟨some 4, .eqnil false .map (.t 3), none⟩]
def s40r2 : List SOper := [
 ⟨some 2, .mov (.k (.d .nilmap)), none⟩]
def s40r3 : List SOper := [
 ⟨some 5, .mov (.t 0), none⟩,
 ⟨some 6, .mkIface 90 (.t 5), none⟩,
 ⟨some 7, .call (.k (.d (.func (.func 91) [] []))) [(.t 6)], none⟩,
 ⟨some 8, .assertT 90 false (.t 7), none⟩,
 ⟨some 2, .mov (.t 8), none⟩]
def s40 : SCode := (.seq (.region s40r0 0 []) (.seq (.seq (.region s40r1 0 []) (.cond (.t 4) (.seq (.region s40r2 0 []) .ret) .skip)) (.seq (.region s40r3 0 []) .ret)))
theorem e40 : CodeIs s40.eq_1 := qc s40.eq_1
theorem q9z : RegIs s40r0.eq_1 := qa
theorem q90 : RegIs s40r1.eq_1 := qa
theorem q91 : RegIs s40r2.eq_1 := qa
theorem q92 : RegIs s40r3.eq_1 := qa
attribute [go_sem] q9z q90 q91 q92 e40
theorem F40 : FnIs Try.prog 40 Try.f40 [] news s40 [.tmp 2] 9 := xe follows Try.func40
end
theorem xi (s : List UInt8) (hl : s.length ≤ 1000000000) : ACall Try.prog 43 [.d (.sl 1 (byteRows s))] [] (.d (.sl 1 (byteRows s))) [] := by
 refine F43.go ?_
 try (refine ev ?_; try exact True.intro)
 refine qv0 rfl rfl (fun b hb => ?_)
 try (refine ev ?_; try exact True.intro)
 (repeat (with_reducible refine ob ?_)); refine xk _ (fun h => ?_) (fun h => ?_)
 ·try (refine ev1 (hb h) ?_; try exact True.intro)
 ·try (refine ev ?_; try exact True.intro)
  omega
theorem qoi (w : World) (t : TypeId) (b : Nat) (es : Array MapEntry) (clock : Nat) (hb : w.heap[b]? = some (.map es clock)) :
  (callFunc 91 #[.iface t (.map (some b))]).run Try.prog w = .ok (.value (.iface t (.map (some w.heap.size)))) (w.alloc (.map es clock)) := by
 rw [run_callFunc_extern Try.func91 rfl (by kernel_rfl) (by kernel_rfl) (e := Extern.MapsClone.clone) (by kernel_rfl)]
 have e : Extern.MapsClone.clone #[.iface t (.map (some b))] = (getObj b >>= fun o => match o with
   | .map entries clock => (newObj (.map entries clock) >>= fun n => pure (.iface t (.map (some n))))
   | _ => stuck "maps.clone: a map expected") := rfl
 rw [e]
 simp [MapKept.run_getObj_map hb, Result.andThen]
set_option maxRecDepth 100000 in
set_option maxHeartbeats 1000000 in
theorem qq6 (es : Ents) (c : Nat) : ACall Try.prog 40 [.d (.map 0)] [.map es c] (.d (.map 1)) [.map es c, .map es c] := by
 intro g w vs hd hlen hv ho
 match vs, hlen with
 | [v0], _ =>
 have h0 := qbl (xj (qt (hv 0 v0 _ rfl rfl)))
 obtain ⟨b, rfl, hg⟩ := h0
 obtain ⟨b', hb', l, hh, hl, he⟩ := (ho.objs 0 _ rfl (by simp)).resolve_right (fun h => by cases h.1)
 have : b' = b := ho.inj b' b 0 hb' hg
 subst this
 go_enter Try.func40, Try.ntmps40
 have hcl := qoi w 90 b' l.toArray c hh
 have hbin : (binOp .eql 90 (.map (some b')) (.map none)).run Try.prog w = .ok (.bool false) w := by
  simp [binOp, yx Try.underlying90]
 have hta : ∀ W, (Instr.typeAssert (.iface 90 (.map (some w.heap.size))) 20 90 false).run Try.prog W = .ok (.map (some w.heap.size)) W := fun W => by
  simp [Instr.typeAssert, run_underlying Try.underlying90]
 go_wp2_with (first | simp only [hbin, Result.andThen_ok] | simp only [hcl] | simp only [hta, Result.andThen_ok])
 go_ret
 have hs : SR 0 (fun _ => False) g w ⟨[], [.map es c, .none], [], 1⟩ { tmps := #[], defers := [] } := by
  refine ⟨hd, trivial, rfl, fun k v s h => by simp [Fr.get] at h, fun id o hid hn => ?_, ho.inj, fun b id hb => ?_, ⟨by simp, fun k s h => by simp [Fr.get] at h, fun id o hid s hs => ?_⟩⟩
  ·match id with
   | 0 => exact ho.objs 0 o hid hn
   | 1 => simp at hid; exact (hn hid.symm).elim
   | i + 2 => simp at hid
  ·obtain ⟨o, h1, h2⟩ := ho.ids b id hb
   refine ⟨o, ?_, h2⟩
   match id with
   | 0 => exact h1
   | i + 1 => simp at h1
  ·match id with
   | 0 => simp at hid; subst hid; simp [AObj.cells] at hs
   | 1 => simp at hid; subst hid; simp [AObj.cells] at hs
   | i + 2 => simp at hid
 obtain ⟨q1, q2⟩ := hs.newObjA (id := 1) (o := .map es c) (blk := .map l.toArray c) rfl (by simp) (fun hG hr _ => ⟨l, heap_alloc_new w _, hl, fun i e x h1 h2 => (he i e x h1 h2).mono hr⟩) (by simp [AObj.cells])
 refine ⟨_, _, [], rfl, q1, q2.dom, by simp [ASlot.toks], .map _ 1 (Ghost.at_same _ _ _), ⟨fun id o hid hn => q2.objs id o hid hn, q2.inj, fun b id hb => q2.ids b id hb⟩⟩
end Go.Proofs.Ytinnaedmdoengaa
namespace Go.Proofs.Ytinnaedmdoengaa
open Go.Abs
set_option linter.unusedSimpArgs false
set_option linter.unusedVariables false
abbrev KV := Nat × List UInt8 × List UInt8
structure Cont where
 l : List KV
 c : Nat
 deriving DecidableEq, Inhabited
def encKV (x : KV) : Nat × D × D := (x.1, .str x.2.1, .sl 1 (byteRows x.2.2))
def mapO (m : Cont) : AObj := .map (m.l.map encKV) m.c
def hasKey (k : List UInt8) (x : KV) : Bool := k == x.2.1
def mPut (k v : List UInt8) (m : Cont) : Cont := match m.l.findIdx? (hasKey k) with
 | some j => ⟨m.l.modify j fun e => (e.1, k, v), m.c⟩
 | none => ⟨m.l ++ [(m.c, k, v)], m.c + 1⟩
def mDel (k : List UInt8) (m : Cont) : Cont := match m.l.findIdx? (hasKey k) with
 | some j => ⟨m.l.eraseIdx j, m.c⟩
 | none => m
def mGet (k : List UInt8) (m : Cont) : Option (List UInt8) := (m.l.find? (hasKey k)).map (·.2.2)
theorem q0x (k : List UInt8) (x : KV) : keyIs (.str k) (encKV x) = hasKey k x := rfl
theorem yk (k : List UInt8) (l : List KV) : (l.map encKV).findIdx? (keyIs (.str k)) = l.findIdx? (hasKey k) := by
 rw [List.findIdx?_map]; rfl
theorem qoj (k v : List UInt8) (m : Cont) : entPut (.str k) (.sl 1 (byteRows v)) m.c (m.l.map encKV) = (mPut k v m).l.map encKV := by
 unfold entPut mPut
 rw [yk]
 cases h : m.l.findIdx? (hasKey k) with
 | none => simp [encKV]
 | some j =>
  simp only
  apply List.ext_getElem?
  intro i
  rw [List.getElem?_modify, List.getElem?_map, List.getElem?_map, List.getElem?_modify]
  cases m.l[i]? with
  | none => rfl
  | some x =>
   show some (if j = i then _ else _) = some (encKV (if j = i then _ else _))
   split <;> rfl
theorem qi3 (k v : List UInt8) (m : Cont) : entClock (.str k) m.c (m.l.map encKV) = (mPut k v m).c := by
 unfold entClock mPut
 rw [yk]
 cases m.l.findIdx? (hasKey k) <;> rfl
theorem qok (k : List UInt8) (m : Cont) : entDel (.str k) (m.l.map encKV) = (mDel k m).l.map encKV := by
 unfold entDel mDel
 rw [yk]
 cases m.l.findIdx? (hasKey k) with
 | none => rfl
 | some j =>
  simp only
  apply List.ext_getElem?
  intro i
  rw [List.getElem?_eraseIdx, List.getElem?_map, List.getElem?_map, List.getElem?_map, List.getElem?_eraseIdx]
  split <;> rfl
theorem qva (k : List UInt8) (m : Cont) : (mDel k m).c = m.c := by unfold mDel; split <;> rfl
theorem qol (k : List UInt8) (l : List KV) : keyFit .str (.str k) (l.map encKV) = true := by
 simp only [keyFit, KD.is, Bool.true_and, List.all_map]
 exact List.all_eq_true.2 fun x _ => rfl
theorem qli (k : List UInt8) (m : Cont) : entFind (.str k) (m.l.map encKV) = (mGet k m).map fun v => .sl 1 (byteRows v) := by
 unfold entFind mGet
 rw [List.find?_map]
 have : keyIs (.str k) ∘ encKV = hasKey k := rfl
 rw [this]
 cases m.l.find? (hasKey k) <;> rfl
attribute [go_sem] qol
def mApply : Cont → List OpS → Cont × Bool
 | m, [] => (m, true)
 | m, o :: l => if o.del then mApply (mDel o.key m) l else if (mPut o.key o.val m).l.length > 400 then (mPut o.key o.val m, false) else mApply (mPut o.key o.val m) l
noncomputable section
set_option maxRecDepth 100000
def s41r0 : List SOper := [
 ⟨some 4, .mov (.k (.d (.bool false))), none⟩]
def s41r1 : List SOper := [
 ⟨some 7, .mov (.t 1), none⟩,
 ⟨some 8, .len (.t 7), none⟩,
 ⟨some 9, .mov (.k (.d (.int .i64 0))), none⟩]
def s41r2 : List SOper := [
 ⟨some 10, .bin .lss (.t 9) (.t 8), none⟩]
def s41r3 : List SOper := [
 ⟨some 11, .iaddr 3 (.t 7) (.t 9), none⟩,
 ⟨some 12, .load (some 3) (.t 11), none⟩,
 ⟨some 6, .alloc 1 [(.d (.str [])), (.d (.bool false)), (.d .nilsl)], none⟩,
 ⟨none, .store (some 3) (.t 6) (.t 12), none⟩]
def s41r4 : List SOper := [
 ⟨some 13, .faddr 1 (.t 6), none⟩,
 ⟨some 14, .load none (.t 13), none⟩]
def s41r5 : List SOper := [
 ⟨some 15, .mov (.t 0), none⟩,
 ⟨some 16, .faddr 0 (.t 6), none⟩,
 ⟨some 17, .load none (.t 16), none⟩,
 ⟨none, .delete .str (.t 15) (.t 17), none⟩]
def s41r6 : List SOper := [
 ⟨some 18, .mov (.t 0), none⟩,
 ⟨some 19, .faddr 0 (.t 6), none⟩,
 ⟨some 20, .load none (.t 19), none⟩,
 ⟨some 21, .faddr 2 (.t 6), none⟩,
 ⟨some 22, .load none (.t 21), none⟩,
 ⟨some 23, .call (.k (.d (.func (.func 43) [] []))) [(.t 22)], none⟩,
 ⟨none, .mapUpdate .str (.t 18) (.t 20) (.t 23), none⟩]
def s41r7 : List SOper := [
 ⟨some 24, .mov (.t 0), none⟩,
 ⟨some 25, .lenM (.t 24), none⟩,
 ⟨some 26, .bin .gtr (.t 25) (.k (.d (.int .i64 400))), none⟩]
def s41r8 : List SOper := [
 ⟨some 4, .mov (.k (.d (.bool false))), none⟩]
def s41r9 : List SOper := [
 ⟨some 27, .bin .add (.t 9) (.k (.d (.int .i64 1))), none⟩,
 ⟨some 9, .mov (.t 27), none⟩]
def s41l10 : SCode := (.seq (.region s41r2 0 []) (.seq (.cond (.t 10) .skip (.exit 0)) (.seq (.block 1 (.seq (.region s41r3 1 []) (.seq (.seq (.region s41r4 0 []) (.cond (.t 14) (.seq (.region s41r5 0 []) (.exit 1)) .skip)) (.seq (.region s41r6 0 [(2, 5)]) (.seq (.region s41r7 0 []) (.cond (.t 26) (.seq (.region s41r8 0 []) .ret) .skip)))))) (.region s41r9 0 []))))
theorem q0y : CodeIs s41l10.eq_1 := qc s41l10.eq_1
def s41r11 : List SOper := [
 ⟨some 4, .mov (.k (.d (.bool true))), none⟩]
def s41 : SCode := (.seq (.region s41r0 0 []) (.seq (.seq (.region s41r1 0 []) (.block 0 (.loop s41l10))) (.seq (.region s41r11 0 []) .ret)))
theorem e41 : CodeIs s41.eq_1 := qc s41.eq_1
theorem q93 : RegIs s41r0.eq_1 := qa
theorem q94 : RegIs s41r1.eq_1 := qa
theorem q95 : RegIs s41r2.eq_1 := qa
theorem q96 : RegIs s41r3.eq_1 := qa
theorem q97 : RegIs s41r4.eq_1 := qa
theorem q98 : RegIs s41r5.eq_1 := qa
theorem q99 : RegIs s41r6.eq_1 := qa
theorem xaa : RegIs s41r7.eq_1 := qa
theorem xab : RegIs s41r8.eq_1 := qa
theorem xac : RegIs s41r9.eq_1 := qa
theorem q0z : RegIs s41r11.eq_1 := qa
attribute [go_sem] q93 q94 q95 q96 q97 q98 q99 xaa xab xac q0y q0z e41
theorem F41 : FnIs Try.prog 41 Try.f41 [] news s41 [.tmp 4] 28 := xe follows Try.func41
end
def Sapply (m : Cont) (l : List OpS) (i : { i : Nat × Cont // i.1 ≤ l.length ∧ mApply i.2 (l.drop i.1) = mApply m l }) : St :=
 ⟨[(0, true, .d (.map 0)), (7, true, .d (.sl 3 (l.map encOp))), (8, true, .d (.int .i64 l.length)), (9, true, .d (.int .i64 (i.val.1 : Nat)))], [mapO i.val.2], [], 1⟩
theorem qmm (m : Cont) (l : List OpS) (hl : l.length ≤ 100000) (hv : ∀ o ∈ l, o.val.length ≤ 1000000) : ACall Try.prog 41 [.d (.map 0), .d (.sl 3 (l.map encOp))] [mapO m] (.d (.bool (mApply m l).2)) [mapO (mApply m l).1] := by
 refine F41.go ?_
 try (refine ev1 @mapO.eq_1 ?_; try exact True.intro)
 refine ql (Sapply m l) (fun i => l.length - i.val.1) ⟨(0, m), Nat.zero_le _, rfl⟩ ?_ (fun i => ?_)
 ·try (refine ev2 @Sapply.eq_1 @mapO.eq_1 ?_; try exact True.intro)
 obtain ⟨⟨i, mi⟩, hi, ha⟩ := i
 simp only at hi ha
 try (refine ev2 @Sapply.eq_1 @mapO.eq_1 ?_; try exact True.intro)
 refine xk _ (fun hc => ?_) (fun hc => ?_)
 ·have hil : i < l.length := by simpa using hc
  have hd : l.drop i = l[i] :: l.drop (i + 1) := List.drop_eq_getElem_cons hil
  rw [hd, mApply] at ha
  try (refine ev2 (qq encOp l hil) @encOp.eq_1 ?_; try exact True.intro)
  (repeat (with_reducible refine ob ?_))
  (repeat (with_reducible refine ob ?_)); refine xk _ (fun h => ?_) (fun h => ?_)
  ·rw [if_pos h] at ha
   try (refine ev1 @qok ?_; try exact True.intro)
   refine ⟨⟨(i + 1, mDel l[i].key mi), hil, ha⟩, ?_, by dsimp only; omega⟩
   try (refine ev4 @Sapply.eq_1 @mapO.eq_1 @qva (qj (show i < 9223372036854775807 by omega)) ?_; try exact True.intro)
  ·rw [if_neg (by simp [h])] at ha
   try (refine ev ?_; try exact True.intro)
   (repeat (with_reducible refine ob ?_)); first | refine cl F43 (xi l[i].val (by have := hv l[i] (List.getElem_mem hil); omega)) ?_ | refine clF F43 (xi l[i].val (by have := hv l[i] (List.getElem_mem hil); omega)) (fun _ => by simp only [encOp, go_sem, Nat.reduceAdd, Nat.reduceMul, Nat.reduceSub, Nat.reduceEqDiff, Nat.reduceLT, Nat.reduceLeDiff, Nat.reduceBEq, reduceIte, reduceCtorEq, Int.reduceAdd, Int.reduceLT, Int.reduceLE, Int.reduceGT, Int.reduceGE, Int.reduceEq, Int.reduceNe, Int.reduceBEq, Int.reduceBNe, Int.reduceToNat, Int.reduceNeg]) ?_
   try simp only [qoj, qi3 _ l[i].val, go_sem, Nat.reduceAdd, Nat.reduceMul, Nat.reduceSub, Nat.reduceEqDiff, Nat.reduceLT, Nat.reduceLeDiff, Nat.reduceBEq, reduceIte, reduceCtorEq, Int.reduceAdd, Int.reduceLT, Int.reduceLE, Int.reduceGT, Int.reduceGE, Int.reduceEq, Int.reduceNe, Int.reduceBEq, Int.reduceBNe, Int.reduceToNat, Int.reduceNeg]
   refine xk _ (fun h4 => ?_) (fun h4 => ?_)
   ·rw [if_pos (by simp at h4; omega)] at ha
    try (refine ev1 ha.symm ?_; try exact True.intro)
   ·rw [if_neg (by simp at h4; omega)] at ha
    try (refine ev ?_; try exact True.intro)
    refine ⟨⟨(i + 1, mPut l[i].key l[i].val mi), hil, ha⟩, ?_, by dsimp only; omega⟩
    try (refine ev3 @Sapply.eq_1 @mapO.eq_1 (qj (show i < 9223372036854775807 by omega)) ?_; try exact True.intro)
 ·have hie : i = l.length := by simp at hc; omega
  subst hie
  rw [List.drop_length, mApply] at ha
  try (refine ev1 ha.symm ?_; try exact True.intro)
end Go.Proofs.Ytinnaedmdoengaa
namespace Go.Proofs.Ytinnaedmdoengaa
open Go.Abs
set_option linter.unusedSimpArgs false
set_option linter.unusedVariables false
structure Sto where
 file : List UInt8
 synced : Int
 m : Cont
 deriving DecidableEq, Inhabited
def stoO (s : Sto) (id : Nat) : AObj := .row [.d (.sl 1 (byteRows s.file)), .d (.int .i64 s.synced), .d (.map id)]
def emptyC : Cont := ⟨[], 0⟩
def newS : Sto := ⟨[], 0, emptyC⟩
noncomputable section
set_option maxRecDepth 100000
def s12r0 : List SOper := [
 ⟨some 0, .mov (.k (.d .nilptr)), none⟩]
def s12r1 : List SOper := [
 ⟨some 1, .makeMap 2, none⟩,
 ⟨some 2, .build [.nilsl, (.int .i64 0), .nilmap] [(2, 1, (.t 1))], none⟩,
 ⟨some 3, .box 1 (.t 2), none⟩,
 ⟨some 0, .mov (.t 3), none⟩]
def s12 : SCode := (.seq (.region s12r0 0 []) (.seq (.region s12r1 2 []) .ret))
theorem e12 : CodeIs s12.eq_1 := qc s12.eq_1
theorem xad : RegIs s12r0.eq_1 := qa
theorem xae : RegIs s12r1.eq_1 := qa
attribute [go_sem] xad xae e12
theorem F12 : FnIs Try.prog 12 Try.f12 [] news s12 [.tmp 0] 4 := xe follows Try.func12
def s13r0 : List SOper := [
 ⟨some 4, .mov (.k (.d (.int .i64 0))), none⟩]
def s13r1 : List SOper := [
 ⟨some 8, .mov (.t 0), none⟩,
 ⟨some 9, .eqnil false .ptr (.t 8), none⟩]
def s13r2 : List SOper := [
 ⟨some 4, .mov (.k (.d (.int .i64 7))), none⟩]
def s13r3 : List SOper := [
 ⟨some 11, .mov (.t 1), none⟩,
 ⟨some 12, .call (.k (.d (.func (.func 30) [] []))) [(.t 11)], none⟩,
 ⟨some 10, .mov (.t 12), none⟩,
 ⟨some 13, .extract 0 (.t 10), none⟩,
 ⟨some 14, .extract 1 (.t 10), none⟩,
 ⟨some 5, .mov (.t 13), none⟩,
 ⟨some 6, .mov (.t 14), none⟩]
def s13r4 : List SOper := [
 ⟨some 15, .mov (.t 6), none⟩,
 ⟨some 16, .bin .neq (.t 15) (.k (.d (.int .i64 0))), none⟩]
def s13r5 : List SOper := [
 ⟨some 17, .mov (.t 6), none⟩,
 ⟨some 4, .mov (.t 17), none⟩]
def s13r6 : List SOper := [
 ⟨some 18, .mov (.t 0), none⟩,
 ⟨some 19, .nilCheck (.t 18), none⟩,
 ⟨some 20, .faddr 2 (.t 19), none⟩,
 ⟨some 21, .load none (.t 20), none⟩,
 ⟨some 22, .call (.k (.d (.func (.func 40) [] []))) [(.t 21)], none⟩,
 ⟨some 7, .mov (.t 22), none⟩]
def s13r7 : List SOper := [
 ⟨some 23, .mov (.t 7), none⟩,
 ⟨some 24, .mov (.t 1), none⟩,
 ⟨some 25, .call (.k (.d (.func (.func 41) [] []))) [(.t 23), (.t 24)], none⟩,
 ⟨some 26, .not (.t 25), none⟩]
def s13r8 : List SOper := [
 ⟨some 4, .mov (.k (.d (.int .i64 28))), none⟩]
def s13r9 : List SOper := [
 ⟨some 28, .mov (.t 0), none⟩,
 ⟨some 29, .mov (.t 0), none⟩,
 ⟨some 30, .nilCheck (.t 29), none⟩,
 ⟨some 31, .faddr 0 (.t 30), none⟩,
 ⟨some 32, .load (some 2) (.t 31), none⟩,
 ⟨some 33, .mov (.t 5), none⟩,
 ⟨some 34, .call (.k (.d (.func (.func 42) [] []))) [(.t 32), (.t 33)], none⟩,
 ⟨some 27, .mov (.t 34), none⟩,
 ⟨some 35, .extract 0 (.t 27), none⟩,
 ⟨some 36, .extract 1 (.t 27), none⟩,
 ⟨some 37, .nilCheck (.t 28), none⟩,
 ⟨some 38, .faddr 0 (.t 37), none⟩,
 ⟨none, .store (some 2) (.t 38) (.t 35), none⟩]
def s13r10 : List SOper := [
 ⟨some 39, .mov (.t 0), none⟩,
 ⟨some 40, .mov (.t 7), none⟩,
 ⟨some 41, .nilCheck (.t 39), none⟩,
 ⟨some 42, .faddr 2 (.t 41), none⟩,
 ⟨none, .store none (.t 42) (.t 40), none⟩]
def s13r11 : List SOper := [
 ⟨some 4, .mov (.k (.d (.int .i64 0))), none⟩]
def s13 : SCode := (.seq (.region s13r0 0 []) (.seq (.seq (.region s13r1 0 []) (.cond (.t 9) (.seq (.region s13r2 0 []) .ret) .skip)) (.seq (.region s13r3 0 []) (.seq (.seq (.region s13r4 0 []) (.cond (.t 16) (.seq (.region s13r5 0 []) .ret) .skip)) (.seq (.region s13r6 1 []) (.seq (.seq (.region s13r7 0 []) (.cond (.t 26) (.seq (.region s13r8 0 []) .ret) .skip)) (.seq (.region s13r9 0 []) (.seq (.region s13r10 0 []) (.seq (.region s13r11 0 []) .ret)))))))))
theorem e13 : CodeIs s13.eq_1 := qc s13.eq_1
theorem xaf : RegIs s13r0.eq_1 := qa
theorem xag : RegIs s13r1.eq_1 := qa
theorem xah : RegIs s13r2.eq_1 := qa
theorem xai : RegIs s13r3.eq_1 := qa
theorem xaj : RegIs s13r4.eq_1 := qa
theorem xak : RegIs s13r5.eq_1 := qa
theorem xal : RegIs s13r6.eq_1 := qa
theorem xam : RegIs s13r7.eq_1 := qa
theorem xan : RegIs s13r8.eq_1 := qa
theorem xao : RegIs s13r9.eq_1 := qa
theorem q00 : RegIs s13r10.eq_1 := qa
theorem q01 : RegIs s13r11.eq_1 := qa
attribute [go_sem] xaf xag xah xai xaj xak xal xam xan xao q00 q01 e13
theorem F13 : FnIs Try.prog 13 Try.f13 [] news s13 [.tmp 4] 43 := xe follows Try.func13
def s15r0 : List SOper := [
 ⟨some 4, .mov (.k (.d .nilsl)), none⟩,
 ⟨some 5, .mov (.k (.d (.bool false))), none⟩]
def s15r1 : List SOper := [
 ⟨some 8, .mov (.t 0), none⟩,
 ⟨some 9, .eqnil false .ptr (.t 8), none⟩]
def s15r2 : List SOper := [
 ⟨some 4, .mov (.k (.d .nilsl)), none⟩,
 ⟨some 5, .mov (.k (.d (.bool false))), none⟩]
def s15r3 : List SOper := [
 ⟨some 11, .mov (.t 0), none⟩,
 ⟨some 12, .nilCheck (.t 11), none⟩,
 ⟨some 13, .faddr 2 (.t 12), none⟩,
 ⟨some 14, .load none (.t 13), none⟩,
 ⟨some 15, .mov (.t 1), none⟩,
 ⟨some 16, .lookup .str (.d .nilsl) true (.t 14) (.t 15), none⟩,
 ⟨some 10, .mov (.t 16), none⟩,
 ⟨some 17, .extract 0 (.t 10), none⟩,
 ⟨some 18, .extract 1 (.t 10), none⟩,
 ⟨some 6, .mov (.t 17), none⟩,
 ⟨some 7, .mov (.t 18), none⟩]
def s15r4 : List SOper := [
 ⟨some 19, .mov (.t 6), none⟩,
 ⟨some 20, .call (.k (.d (.func (.func 43) [] []))) [(.t 19)], none⟩,
 ⟨some 21, .mov (.t 7), none⟩,
 ⟨some 4, .mov (.t 20), none⟩,
 ⟨some 5, .mov (.t 21), none⟩]
def s15 : SCode := (.seq (.region s15r0 0 []) (.seq (.seq (.region s15r1 0 []) (.cond (.t 9) (.seq (.region s15r2 0 []) .ret) .skip)) (.seq (.region s15r3 0 []) (.seq (.region s15r4 0 []) .ret))))
theorem e15 : CodeIs s15.eq_1 := qc s15.eq_1
theorem xap : RegIs s15r0.eq_1 := qa
theorem xaq : RegIs s15r1.eq_1 := qa
theorem xar : RegIs s15r2.eq_1 := qa
theorem xas : RegIs s15r3.eq_1 := qa
theorem xat : RegIs s15r4.eq_1 := qa
attribute [go_sem] xap xaq xar xas xat e15
theorem F15 : FnIs Try.prog 15 Try.f15 [] news s15 [.tmp 4, .tmp 5] 22 := xe follows Try.func15
def s28r0 : List SOper := [
 ⟨some 2, .alloc 1 [(.d .nilsl), (.d (.int .i64 0))], none⟩]
def s28r1 : List SOper := [
 ⟨some 3, .mov (.t 0), none⟩,
 ⟨some 4, .eqnil false .ptr (.t 3), none⟩]
def s28r2 : List SOper := [
 ⟨some 5, .build [.nilsl, (.int .i64 0)] [], none⟩,
 ⟨none, .store (some 2) (.t 2) (.t 5), none⟩]
def s28r3 : List SOper := [
 ⟨some 6, .mov (.t 0), none⟩,
 ⟨some 7, .nilCheck (.t 6), none⟩,
 ⟨some 8, .faddr 0 (.t 7), none⟩,
 ⟨some 9, .faddr 0 (.t 8), none⟩,
 ⟨some 10, .load none (.t 9), none⟩,
 ⟨some 11, .call (.k (.d (.func (.func 43) [] []))) [(.t 10)], none⟩,
 ⟨some 12, .mov (.t 0), none⟩,
 ⟨some 13, .nilCheck (.t 12), none⟩,
 ⟨some 14, .faddr 0 (.t 13), none⟩,
 ⟨some 15, .faddr 1 (.t 14), none⟩,
 ⟨some 16, .load none (.t 15), none⟩,
 ⟨some 17, .build [.nilsl, (.int .i64 0)] [(0, 1, (.t 11)), (1, 1, (.t 16))], none⟩,
 ⟨none, .store (some 2) (.t 2) (.t 17), none⟩]
def s28 : SCode := (.seq (.region s28r0 1 []) (.seq (.seq (.region s28r1 0 []) (.cond (.t 4) (.seq (.region s28r2 0 []) .ret) .skip)) (.seq (.region s28r3 0 [(5, 10)]) .ret)))
theorem e28 : CodeIs s28.eq_1 := qc s28.eq_1
theorem xau : RegIs s28r0.eq_1 := qa
theorem xav : RegIs s28r1.eq_1 := qa
theorem xaw : RegIs s28r2.eq_1 := qa
theorem xax : RegIs s28r3.eq_1 := qa
attribute [go_sem] xau xav xaw xax e28
theorem F28 : FnIs Try.prog 28 Try.f28 [] news s28 [.cell 2 (some 2)] 18 := xe follows Try.func28
def s66r0 : List SOper := [
 ⟨some 1, .box 2 (.t 0), none⟩,
 ⟨some 2, .alloc 1 [(.d .nilsl), (.d (.int .i64 0))], none⟩]
def s66r1 : List SOper := [
 ⟨some 3, .faddr 0 (.t 1), none⟩,
 ⟨some 4, .load none (.t 3), none⟩,
 ⟨some 5, .call (.k (.d (.func (.func 43) [] []))) [(.t 4)], none⟩,
 ⟨some 6, .faddr 0 (.t 1), none⟩,
 ⟨some 7, .load none (.t 6), none⟩,
 ⟨some 8, .len (.t 7), none⟩,
 ⟨some 9, .build [.nilsl, (.int .i64 0)] [(0, 1, (.t 5)), (1, 1, (.t 8))], none⟩,
 ⟨none, .store (some 2) (.t 2) (.t 9), none⟩]
def s66 : SCode := (.seq (.region s66r0 2 []) (.seq (.region s66r1 0 [(2, 4)]) .ret))
theorem e66 : CodeIs s66.eq_1 := qc s66.eq_1
theorem xay : RegIs s66r0.eq_1 := qa
theorem xaz : RegIs s66r1.eq_1 := qa
attribute [go_sem] xay xaz e66
theorem F66 : FnIs Try.prog 66 Try.f66 [] news s66 [.cell 2 (some 2)] 10 := xe follows Try.func66
def s26r0 : List SOper := [
 ⟨some 2, .mov (.k (.d (.int .i64 0))), none⟩]
def s26r1 : List SOper := [
 ⟨some 3, .mov (.t 0), none⟩,
 ⟨some 4, .eqnil false .ptr (.t 3), none⟩]
def s26r2 : List SOper := [
 ⟨some 2, .mov (.k (.d (.int .i64 7))), none⟩]
def s26r3 : List SOper := [
 ⟨some 5, .mov (.t 0), none⟩,
 ⟨some 6, .mov (.t 0), none⟩,
 ⟨some 7, .nilCheck (.t 6), none⟩,
 ⟨some 8, .faddr 0 (.t 7), none⟩,
 ⟨some 9, .load (some 2) (.t 8), none⟩,
 ⟨some 10, .call (.k (.d (.func (.func 66) [] []))) [(.t 9)], none⟩,
 ⟨some 11, .nilCheck (.t 5), none⟩,
 ⟨some 12, .faddr 0 (.t 11), none⟩,
 ⟨none, .store (some 2) (.t 12) (.t 10), none⟩]
def s26r4 : List SOper := [
 ⟨some 2, .mov (.k (.d (.int .i64 0))), none⟩]
def s26 : SCode := (.seq (.region s26r0 0 []) (.seq (.seq (.region s26r1 0 []) (.cond (.t 4) (.seq (.region s26r2 0 []) .ret) .skip)) (.seq (.region s26r3 0 []) (.seq (.region s26r4 0 []) .ret))))
theorem e26 : CodeIs s26.eq_1 := qc s26.eq_1
theorem xa0 : RegIs s26r0.eq_1 := qa
theorem xa1 : RegIs s26r1.eq_1 := qa
theorem xa2 : RegIs s26r2.eq_1 := qa
theorem xa3 : RegIs s26r3.eq_1 := qa
theorem xa4 : RegIs s26r4.eq_1 := qa
attribute [go_sem] xa0 xa1 xa2 xa3 xa4 e26
theorem F26 : FnIs Try.prog 26 Try.f26 [] news s26 [.tmp 2] 13 := xe follows Try.func26
end
theorem q02 : ACall Try.prog 12 [] [] (.d (.ptr 1 0)) [mapO emptyC, stoO newS 0] := by
 refine F12.go ?_
 try (refine ev6 @mapO.eq_1 @stoO.eq_1 @emptyC.eq_1 @newS.eq_1 @List.map_nil.{0,0} @qk ?_; try exact True.intro)
def sCommit (s : Sto) (l : List OpS) : Sto × Int :=
 if (sEncode l).2 ≠ 0 then (s, (sEncode l).2) else if (mApply s.m l).2 = false then (s, 28) else (⟨wAppend s.file (sEncode l).1, s.synced, (mApply s.m l).1⟩, 0)
def afterC (s : Sto) (l : List OpS) : List AObj := if (sCommit s l).2 = 0 then [stoO (sCommit s l).1 2, mapO s.m, mapO (sCommit s l).1.m] else [stoO s 1, mapO s.m, .none]
theorem x5 (l : List OpS) : (sEncode l).1.length ≤ 2000 := by
 unfold sEncode
 split
 ·simp
 ·split
  ·simp
  ·rename_i h
   simp only [Bool.or_eq_true, decide_eq_true_eq, not_or] at h
   simp only; omega
theorem xf {l : List OpS} (h : (sEncode l).2 = 0) : l.length ≤ 20 ∧ (∀ o ∈ l, sProper o = true) ∧ sEncode l = (wOps l, 0) := by
 unfold sEncode at h ⊢
 split at h
 ·simp at h
 ·rename_i h1
  split at h
  ·simp at h
  ·rename_i h2
   rw [if_neg h1, if_neg h2]
   simp only [Bool.or_eq_true, decide_eq_true_eq, not_or, List.any_eq_true, not_exists, not_and] at h1 h2
   exact ⟨by omega, fun o ho => by simpa using h1.2 o ho, rfl⟩
set_option maxRecDepth 10000 in
theorem qi4 (s : Sto) (l : List OpS) (hl : l.length ≤ 100000) (hf : s.file.length ≤ 100000000) :
  ACall Try.prog 13 [.d (.ptr 0 0), .d (.sl 3 (l.map encOp))] [stoO s 1, mapO s.m] (.d (.int .i64 (sCommit s l).2)) (afterC s l) := by
 refine F13.go ?_
 try (refine ev2 @stoO.eq_1 @mapO.eq_1 ?_; try exact True.intro)
 (repeat (with_reducible refine ob ?_)); refine no_ ?_
 try (refine ev ?_; try exact True.intro)
 (repeat (with_reducible refine ob ?_)); first | refine cl F30 (we l hl) ?_ | refine clF F30 (we l hl) (fun _ => by simp only [encOp, go_sem, Nat.reduceAdd, Nat.reduceMul, Nat.reduceSub, Nat.reduceEqDiff, Nat.reduceLT, Nat.reduceLeDiff, Nat.reduceBEq, reduceIte, reduceCtorEq, Int.reduceAdd, Int.reduceLT, Int.reduceLE, Int.reduceGT, Int.reduceGE, Int.reduceEq, Int.reduceNe, Int.reduceBEq, Int.reduceBNe, Int.reduceToNat, Int.reduceNeg]) ?_
 try (refine ev ?_; try exact True.intro)
 (repeat (with_reducible refine ob ?_)); refine xk _ (fun h => ?_) (fun h => ?_)
 ·have hne : (sEncode l).2 ≠ 0 := by simpa using h
  have hb : sCommit s l = (s, (sEncode l).2) := by unfold sCommit; rw [if_pos hne]
  have hb2 : afterC s l = [stoO s 1, mapO s.m, .none] := by unfold afterC; rw [hb, if_neg hne]
  try (refine ev4 @hb @hb2 @stoO.eq_1 @mapO.eq_1 ?_; try exact True.intro)
 have he0 : (sEncode l).2 = 0 := by simpa using h
 obtain ⟨h20, hpr, henc⟩ := xf he0
 try (refine ev ?_; try exact True.intro)
 refine clO [1, 2] F40 (qq6 (s.m.l.map encKV) s.m.c) ?_
 try (refine ev ?_; try exact True.intro)
 have hap := qmm s.m l hl (fun o ho => by have := (xp.1 (hpr o ho)).2.2.1; omega)
 simp only [mapO] at hap
 (repeat (with_reducible refine ob ?_)); refine clO [2] F41 (hap) ?_ (hfit := by first | exact ⟨qb, trivial⟩ | exact ⟨qb, qb, trivial⟩ | simp only [encOp, go_sem, Nat.reduceAdd, Nat.reduceMul, Nat.reduceSub, Nat.reduceEqDiff, Nat.reduceLT, Nat.reduceLeDiff, Nat.reduceBEq, reduceIte, reduceCtorEq, Int.reduceAdd, Int.reduceLT, Int.reduceLE, Int.reduceGT, Int.reduceGE, Int.reduceEq, Int.reduceNe, Int.reduceBEq, Int.reduceBNe, Int.reduceToNat, Int.reduceNeg])
 try (refine ev ?_; try exact True.intro)
 (repeat (with_reducible refine ob ?_)); refine xk _ (fun h => ?_) (fun h => ?_)
 ·have hb : sCommit s l = (s, 28) := by unfold sCommit; rw [if_neg (by simp [he0]), if_pos (by simpa using h)]
  have hb2 : afterC s l = [stoO s 1, mapO s.m, .none] := by unfold afterC; rw [hb, if_neg (by simp)]
  try (refine ev4 @hb @hb2 @stoO.eq_1 @mapO.eq_1 ?_; try exact True.intro)
 have hb : sCommit s l = (⟨wAppend s.file (sEncode l).1, s.synced, (mApply s.m l).1⟩, 0) := by unfold sCommit; rw [if_neg (by simp [he0]), if_neg (by simpa using h)]
 have hb2 : afterC s l = [stoO (sCommit s l).1 2, mapO s.m, mapO (sCommit s l).1.m] := by unfold afterC; rw [if_pos (by rw [hb])]
 try (refine ev ?_; try exact True.intro)
 (repeat (with_reducible refine ob ?_)); first | refine cl F42 (qah s.file (sEncode l).1 s.synced hf (x5 l)) ?_ | refine clF F42 (qah s.file (sEncode l).1 s.synced hf (x5 l)) (fun _ => by simp only [encOp, go_sem, Nat.reduceAdd, Nat.reduceMul, Nat.reduceSub, Nat.reduceEqDiff, Nat.reduceLT, Nat.reduceLeDiff, Nat.reduceBEq, reduceIte, reduceCtorEq, Int.reduceAdd, Int.reduceLT, Int.reduceLE, Int.reduceGT, Int.reduceGE, Int.reduceEq, Int.reduceNe, Int.reduceBEq, Int.reduceBNe, Int.reduceToNat, Int.reduceNeg]) ?_
 try (refine ev5 @encLog.eq_1 @hb2 @hb @stoO.eq_1 @mapO.eq_1 ?_; try exact True.intro)
def optV (o : Option (List UInt8)) : List UInt8 := o.getD []
theorem xg0 (s : Sto) (k : List UInt8) (hm : ∀ x ∈ s.m.l, x.2.2.length ≤ 1000000) :
  ACall Try.prog 15 [.d (.ptr 0 0), .d (.str k)] [stoO s 1, mapO s.m] (.tup [.d (.sl 1 (byteRows (optV (mGet k s.m)))), .d (.bool (mGet k s.m).isSome)]) [stoO s 1, mapO s.m] := by
 refine F15.goT ?_
 try (refine ev2 @stoO.eq_1 @mapO.eq_1 ?_; try exact True.intro)
 (repeat (with_reducible refine ob ?_)); refine no_ ?_
 try (refine ev1 @qli ?_; try exact True.intro)
 cases hg : mGet k s.m with
 | none =>
  try (refine ev1 @Option.map_none.{0,0} ?_; try exact True.intro)
  have := xi [] (by simp)
  simp only [qk] at this
  (repeat (with_reducible refine ob ?_)); first | refine cl F43 (this) ?_ | refine clF F43 (this) (fun _ => by simp only [encOp, go_sem, Nat.reduceAdd, Nat.reduceMul, Nat.reduceSub, Nat.reduceEqDiff, Nat.reduceLT, Nat.reduceLeDiff, Nat.reduceBEq, reduceIte, reduceCtorEq, Int.reduceAdd, Int.reduceLT, Int.reduceLE, Int.reduceGT, Int.reduceGE, Int.reduceEq, Int.reduceNe, Int.reduceBEq, Int.reduceBNe, Int.reduceToNat, Int.reduceNeg]) ?_
  try (refine ev4 @optV.eq_1 @Option.getD_none.{0} @qk @Option.isSome_none.{0} ?_; try exact True.intro)
 | some v =>
  have hv : v.length ≤ 1000000 := by
   unfold mGet at hg
   rw [Option.map_eq_some_iff] at hg
   obtain ⟨x, hx, rfl⟩ := hg
   exact hm x (List.mem_of_find?_eq_some hx)
  try (refine ev1 @Option.map_some.{0,0} ?_; try exact True.intro)
  (repeat (with_reducible refine ob ?_)); first | refine cl F43 (xi v (by omega)) ?_ | refine clF F43 (xi v (by omega)) (fun _ => by simp only [encOp, go_sem, Nat.reduceAdd, Nat.reduceMul, Nat.reduceSub, Nat.reduceEqDiff, Nat.reduceLT, Nat.reduceLeDiff, Nat.reduceBEq, reduceIte, reduceCtorEq, Int.reduceAdd, Int.reduceLT, Int.reduceLE, Int.reduceGT, Int.reduceGE, Int.reduceEq, Int.reduceNe, Int.reduceBEq, Int.reduceBNe, Int.reduceToNat, Int.reduceNeg]) ?_
  try (refine ev3 @optV.eq_1 @Option.getD_some.{0} @Option.isSome_some.{0} ?_; try exact True.intro)
theorem q03 (k : List UInt8) : ACall Try.prog 15 [.d .nilptr, .d (.str k)] [] (.tup [.d (.sl 1 []), .d (.bool false)]) [] := by
 refine F15.goT ?_
 try (refine ev ?_; try exact True.intro)
 (repeat (with_reducible refine ob ?_)); refine yo ?_
 try (refine ev ?_; try exact True.intro)
theorem qq7 (s : Sto) (hf : s.file.length ≤ 1000000000) :
  ACall Try.prog 28 [.d (.ptr 0 0)] [stoO s 1, mapO s.m] (.d (.agg (encLog s.file s.synced))) [stoO s 1, mapO s.m] := by
 refine F28.go ?_
 try (refine ev2 @stoO.eq_1 @mapO.eq_1 ?_; try exact True.intro)
 (repeat (with_reducible refine ob ?_)); refine no_ ?_
 try (refine ev ?_; try exact True.intro)
 (repeat (with_reducible refine ob ?_)); first | refine cl F43 (xi s.file hf) ?_ | refine clF F43 (xi s.file hf) (fun _ => by simp only [encOp, go_sem, Nat.reduceAdd, Nat.reduceMul, Nat.reduceSub, Nat.reduceEqDiff, Nat.reduceLT, Nat.reduceLeDiff, Nat.reduceBEq, reduceIte, reduceCtorEq, Int.reduceAdd, Int.reduceLT, Int.reduceLE, Int.reduceGT, Int.reduceGE, Int.reduceEq, Int.reduceNe, Int.reduceBEq, Int.reduceBNe, Int.reduceToNat, Int.reduceNeg]) ?_
 try (refine ev1 @encLog.eq_1 ?_; try exact True.intro)
theorem q04 : ACall Try.prog 28 [.d .nilptr] [] (.d (.agg (encLog [] 0))) [] := by
 refine F28.go ?_
 try (refine ev ?_; try exact True.intro)
 (repeat (with_reducible refine ob ?_)); refine yo ?_
 try (refine ev2 @encLog.eq_1 @qk ?_; try exact True.intro)
theorem wg (file : List UInt8) (synced : Int) (hf : file.length ≤ 1000000000) :
  ACall Try.prog 66 [.d (.agg (encLog file synced))] [] (.d (.agg (encLog file file.length))) [] := by
 refine F66.go ?_
 try (refine ev1 @encLog.eq_1 ?_; try exact True.intro)
 (repeat (with_reducible refine ob ?_)); first | refine cl F43 (xi file hf) ?_ | refine clF F43 (xi file hf) (fun _ => by simp only [encOp, go_sem, Nat.reduceAdd, Nat.reduceMul, Nat.reduceSub, Nat.reduceEqDiff, Nat.reduceLT, Nat.reduceLeDiff, Nat.reduceBEq, reduceIte, reduceCtorEq, Int.reduceAdd, Int.reduceLT, Int.reduceLE, Int.reduceGT, Int.reduceGE, Int.reduceEq, Int.reduceNe, Int.reduceBEq, Int.reduceBNe, Int.reduceToNat, Int.reduceNeg]) ?_
 try (refine ev ?_; try exact True.intro)
def sSync (s : Sto) : Sto := ⟨s.file, s.file.length, s.m⟩
theorem qwo (s : Sto) (hf : s.file.length ≤ 1000000000) :
  ACall Try.prog 26 [.d (.ptr 0 0)] [stoO s 1, mapO s.m] (.d (.int .i64 0)) [stoO (sSync s) 1, mapO s.m] := by
 refine F26.go ?_
 try (refine ev2 @stoO.eq_1 @mapO.eq_1 ?_; try exact True.intro)
 (repeat (with_reducible refine ob ?_)); refine no_ ?_
 try (refine ev ?_; try exact True.intro)
 (repeat (with_reducible refine ob ?_)); first | refine cl F66 (wg s.file s.synced hf) ?_ | refine clF F66 (wg s.file s.synced hf) (fun _ => by simp only [encOp, go_sem, Nat.reduceAdd, Nat.reduceMul, Nat.reduceSub, Nat.reduceEqDiff, Nat.reduceLT, Nat.reduceLeDiff, Nat.reduceBEq, reduceIte, reduceCtorEq, Int.reduceAdd, Int.reduceLT, Int.reduceLE, Int.reduceGT, Int.reduceGE, Int.reduceEq, Int.reduceNe, Int.reduceBEq, Int.reduceBNe, Int.reduceToNat, Int.reduceNeg]) ?_
 try (refine ev2 @encLog.eq_1 @sSync.eq_1 ?_; try exact True.intro)
theorem qx3 : ACall Try.prog 26 [.d .nilptr] [] (.d (.int .i64 7)) [] := by
 refine F26.go ?_
 try (refine ev ?_; try exact True.intro)
 (repeat (with_reducible refine ob ?_)); refine yo ?_
 try (refine ev ?_; try exact True.intro)
theorem qvb (l : List OpS) : ACall Try.prog 13 [.d .nilptr, .d (.sl 3 (l.map encOp))] [] (.d (.int .i64 7)) [] := by
 refine F13.go ?_
 try (refine ev ?_; try exact True.intro)
 (repeat (with_reducible refine ob ?_)); refine yo ?_
 try (refine ev ?_; try exact True.intro)
end Go.Proofs.Ytinnaedmdoengaa
