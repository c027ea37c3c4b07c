/- Texts Wd, We, Va, Wf, Wg, Wh. -/
import Derived.Test.YtinnaedmdoengaaGreatMql
import Derived.Calls
import Derived.Orders
import Derived.Tactics
import Derived.Laws.AppendOwn
import Derived.Laws.Slices
import Derived.Laws.Closers25
import Derived.Laws.StructEq
import Derived.Laws.BytesString
import Derived.Laws.CopyRow
import Derived.MapKept
import Derived.Maps.RangeRun
import Derived.TacticsIn
import Derived.OrdersIn
import Derived.RangeFuncRecord
import Derived.RangeFuncLeaves
import Derived.IntWalk
import Derived.ProofKit
import Derived.OpenShut
import Derived.Carry
import Derived.Test.YtinnaedmdoengaaGreatProg
import Derived.KernelRfl
import Derived.OwnWalkIn
import Derived.TacticsInMore
import Derived.LoopIn
import Derived.WalkKit

namespace Go.Proofs.YtinnaedmdoengaaGreat
open Go.Abs Go.RowKit
set_option linter.unusedSimpArgs false
set_option linter.unusedVariables false
theorem q9m (ro : Option Nat) : (Fw ro).round = ro := rfl
theorem xgo (ro : Option Nat) (f : FuncId) : (Fw ro).fn f = True := rfl
theorem q9n (ro : Option Nat) : (Fw ro).depth = none := rfl
attribute [local go_sem] q9m xgo q9n
def partsOf (r : List UInt8) : List (Nat × List UInt8) := if h : r.length > 22 then (1, r.take 22) :: partsOf (r.drop 22) else [(2, r)]
termination_by r.length
decreasing_by simp; omega
def qbd (p : Nat × List UInt8) : List D := [.int .u8 (p.1 : Nat), .sl 1 (qd p.2)]
theorem kq {r : List UInt8} (h : r.length > 22) : partsOf r = (1, r.take 22) :: partsOf (r.drop 22) := by rw [partsOf, dif_pos h]
theorem ku {r : List UInt8} (h : ¬ r.length > 22) : partsOf r = [(2, r)] := by rw [partsOf, dif_neg h]
theorem qi4 (r : List UInt8) : ∀ n, (0 < n → 22 * n < r.length) → (partsOf r).drop n = partsOf (r.drop (22 * n))
 | 0, _ => by simp
 | n + 1, h => by
  have h1 := h (by omega)
  have ih := qi4 r n (fun _ => by omega)
  rw [← List.drop_drop, ih, kq (by rw [List.length_drop]; omega), List.drop_succ_cons, List.drop_zero, List.drop_drop]
  rfl
theorem qq6 {r : List UInt8} {n : Nat} {p : Nat × List UInt8} {l : List (Nat × List UInt8)} (h : (partsOf r).drop n = p :: l) : ((partsOf r).map qbd)[n]? = some (qbd p) := by
 have : (partsOf r)[n]? = some p := by
  have := congrArg (fun l => l[0]?) h
  simpa using this
 rw [List.getElem?_map, this]; rfl
theorem qub {W : World} {b : Nat} {c : Array Value} {e : TypeId} {z : Nat × Nat} (v : Value) (h : W.heap[b]? = some (.cells c e z)) : (W.setCell ⟨b, 0, none⟩ v).heap[b]? = some (.cells (c.setIfInBounds 0 v) e z) := by
 simp [World.setCell, Array.getElem?_modify, h]
theorem qq7 {W : World} {b k : Nat} (v : Value) (h : k ≠ b) : (W.setCell ⟨b, 0, none⟩ v).heap[k]? = W.heap[k]? := by
 simp [World.setCell, Array.getElem?_modify, Ne.symm h]
theorem q45 {g : Ghost} {w : World} {b off cap len : Nat} {r : List UInt8} (h : RV g w (.slice (some ⟨b, off, none⟩) len cap) (.sl 1 (qd r))) (n m c : Nat) (hn : n + m ≤ r.length) (hc : m ≤ c) (h0 : r ≠ []) :
  RV g w (.slice (some ⟨b, off + n, none⟩) m c) (.sl 1 (qd ((r.drop n).take m))) := by
 generalize hvd : qd r = rows at h
 have hne : rows ≠ [] := by rw [← hvd]; cases r <;> simp [qd] at h0 ⊢
 cases h with
 | nilsl => exact (hne rfl).elim
 | sl _ _ _ _ n0 o _ f hg hnn hcap hes hcl hcell hrv =>
 subst hvd
 have hfl : (qd ((r.drop n).take m)).flatten = (((qd r).flatten).drop n).take m := by simp only [qah, List.map_take, List.map_drop]
 have hlen : (qd ((r.drop n).take m)).length = m := by rw [zu, List.length_take, List.length_drop]; omega
 have hsub : ∀ (j : Nat) (d : D), (qd ((r.drop n).take m)).flatten[j]? = some d → (qd r).flatten[n + j]? = some d := by
  intro j d hj
  rw [hfl, List.getElem?_take] at hj
  split at hj
  ·rwa [List.getElem?_drop] at hj
  ·cases hj
 have := RV.sl (g := g) (w := w) b (off + n) c 1 n0 o (qd ((r.drop n).take m)) (fun j => f (n + j)) hg (by
   rw [hfl, List.length_take, List.length_drop]
   have h1 : (qd r).flatten.length = r.length := by simp [qah]
   rw [h1] at hnn ⊢
   omega) (by rw [hlen]; exact hc) (by intro x hx; obtain ⟨c, _, rfl⟩ := List.mem_map.1 hx; rfl) (by
   intro d hd
   obtain ⟨j, hj⟩ := List.getElem?_of_mem hd
   exact hcl d (List.mem_of_getElem? (hsub j d hj))) (fun j d hj => by rw [Nat.add_assoc]; exact hcell _ d (hsub j d hj)) (fun j d hj => hrv _ d (hsub j d hj))
 rwa [hlen] at this
set_option maxRecDepth 100000 in
set_option maxHeartbeats 1000000 in
theorem q1v (r : List UInt8) (hl : r.length ≤ 1000000000) : ASeq Tryz.prog 150 [.ptr 0 0] [.row [.d (.sl 1 (qd r))]] ((partsOf r).map qbd) := by
 refine ⟨by rw [Tryz.func150]; rfl, ?_⟩
 intro g w lb l J hd hlb hrv hobj hab hY h0
 match lb, hlb with
 | [v0], _ =>
 have hp := hrv 0 v0 _ rfl rfl
 cases hp with
 | ptr b _ _ hg =>
 obtain ⟨b', hb', hro⟩ := (hobj.objs 0 _ rfl (by simp)).resolve_right (fun h => by cases h.1)
 have : b' = b := hobj.inj b' b 0 hb' hg
 subst this
 obtain ⟨c, e, hh, hsz, hc⟩ := hro
 obtain ⟨v, hv0, _, hv⟩ := hc 0 _ rfl
 have hv : RV g w v (.sl 1 (qd r)) := hv
 refine callsIn_of_wp Tryz.func150 rfl trivial ?_ rfl
 simp only [Tryz.ntmps150, List.size_toArray, List.length_cons, List.length_nil, Nat.reduceAdd, Nat.reduceSub, Array.replicate_succ, Array.replicate_zero, List.push_toArray, List.append_toArray, List.nil_append, List.cons_append]
 generalize hvd : qd r = rows at hv
 cases hv with
 | nilsl a cc _ hn =>
  have hr0 : r = [] := by cases r <;> simp [qd] at hvd ⊢
  subst hr0
  have hsp : (partsOf []).drop 0 = [(2, [])] := by rw [List.drop_zero, ku (by simp)]
  refine wpIn_seq (wpIn_block ?_)
  refine qgi (fun m a W => (∃ t3 t4 t5 t6 t7 t8 t9 t10 t11 t12 t13 t14 t15, a = { tmps := #[.func (.yield l) #[] #[], .pointer (some ⟨b', 0, none⟩), undef, t3, t4, t5, t6, t7, t8, t9, t10, t11, t12, t13, t14, t15], defers := [] }) ∧ W.heap[b']? = some (.cells c e (0, 0)) ∧ J 0 W) (n0 := 0)
   ⟨⟨_, _, _, _, _, _, _, _, _, _, _, _, _, rfl⟩, hh, h0⟩ ?_
  rintro m ac W ⟨⟨t3, t4, t5, t6, t7, t8, t9, t10, t11, t12, t13, t14, t15, rfl⟩, hhW, hJ⟩
  have hcW : W.cell? ⟨b', 0, none⟩ = some (.slice a 0 cc) := by simp [World.cell?, hhW, hv0]
  have hfW : W.frozen? ⟨b', 0, none⟩ = false := by simp [World.frozen?, hhW]
  obtain ⟨fn, tmps, assign, body, hy, hR⟩ := hY 0 _ [.int .u8 2, .slice a 0 cc] W (qq6 hsp) hJ rfl (by
   intro i v d hi hd
   match i with
   | 0 => simp [qbd] at hi hd; subst hi; subst hd; exact .int _ _
   | 1 => simp [qbd] at hi hd; subst hi; subst hd; exact .nilsl a cc 1 hn
   | i + 2 => simp at hi)
  gi_wp2
  refine hR.mono ?_
  rintro e1 W1 ⟨rfl, hJ1, hk1⟩
  gi_wp2
  go_end0
  have hln : (partsOf []).length = 1 := by have := congrArg List.length hsp; simpa using this
  exact ⟨⟨_, rfl⟩, by rw [List.length_map, hln]; exact hJ1⟩
 | sl bb off cap _ n0 o _ f hgb hnn hcap hes hcl hcell hrvv =>
 subst hvd
 have hv : RV g w (.slice (some ⟨bb, off, none⟩) (qd r).length cap) (.sl 1 (qd r)) := hv
 refine wpIn_seq (wpIn_block ?_)
 refine qgi (fun m a W => ∃ n, m = r.length - 22 * n ∧ 22 * n ≤ r.length ∧ (0 < n → 22 * n < r.length) ∧ (∃ t3 t4 t5 t6 t7 t8 t9 t10 t11 t12 t13 t14 t15, a = { tmps := #[.func (.yield l) #[] #[], .pointer (some ⟨b', 0, none⟩), undef, t3, t4, t5, t6, t7, t8, t9, t10, t11, t12, t13, t14, t15], defers := [] }) ∧
  W.heap[b']? = some (.cells (c.setIfInBounds 0 (.slice (some ⟨bb, off + 22 * n, none⟩) (r.length - 22 * n) (cap - 22 * n))) e (0, 0)) ∧ J n W) (n0 := r.length) ⟨0, by omega, by omega, by omega, ⟨_, _, _, _, _, _, _, _, _, _, _, _, _, rfl⟩, ?_, h0⟩ ?_
 ·rw [zu] at hv0
  rw [hh, show off + 22 * 0 = off by omega, show r.length - 22 * 0 = r.length by omega, show cap - 22 * 0 = cap by omega]
  congr 2
  apply Array.ext
  ·simp
  ·intro i h1 h2
   rw [Array.getElem_setIfInBounds]
   split
   ·rename_i h; subst h; simpa [Array.getElem?_eq_getElem h1] using hv0
   ·rfl
 rintro m a W ⟨n, rfl, hn1, hn2, ⟨t3, t4, t5, t6, t7, t8, t9, t10, t11, t12, t13, t14, t15, rfl⟩, hhW, hJ⟩
 have hcW : W.cell? ⟨b', 0, none⟩ = some (.slice (some ⟨bb, off + 22 * n, none⟩) (r.length - 22 * n) (cap - 22 * n)) := by
  have : 0 < c.size := by simp at hsz; omega
  simp [World.cell?, hhW, this]
 have hfW : W.frozen? ⟨b', 0, none⟩ = false := by simp [World.frozen?, hhW]
 by_cases hmore : r.length - 22 * n > 22
 ·have hmi : ((r.length - 22 * n : Nat) : Int) > 22 := by omega
  have hlc : r.length ≤ cap := by simpa [zu] using hcap
  have hci : (22 : Int) ≤ ((cap - 22 * n : Nat) : Int) := by omega
  have hci2 : (22 : Int) ≤ ((r.length - 22 * n : Nat) : Int) := by omega
  have hci3 : ((r.length - 22 * n : Nat) : Int) ≤ ((cap - 22 * n : Nat) : Int) := by omega
  have hsp : (partsOf r).drop n = (1, (r.drop (22 * n)).take 22) :: partsOf ((r.drop (22 * n)).drop 22) := by rw [qi4 r n hn2, kq (by rw [List.length_drop]; exact hmore)]
  obtain ⟨fn, tmps, assign, body, hy, hR⟩ := hY n _ [.int .u8 1, .slice (some ⟨bb, off + 22 * n, none⟩) 22 (cap - 22 * n)] W (qq6 hsp) hJ rfl (by
   intro i v d hi hd
   match i with
   | 0 => simp [qbd] at hi hd; subst hi; subst hd; exact .int _ _
   | 1 => simp [qbd] at hi hd; subst hi; subst hd; exact q45 hv (22 * n) 22 _ (by omega) (by omega) (by intro h; rw [h] at hmore; simp at hmore)
   | i + 2 => simp at hi)
  gi_wp2
  refine hR.mono ?_
  rintro e1 W1 ⟨rfl, hJ1, hk1⟩
  have hhW1 := (hk1 b' 0 hg).trans hhW
  have hcW1 : W1.cell? ⟨b', 0, none⟩ = some (.slice (some ⟨bb, off + 22 * n, none⟩) (r.length - 22 * n) (cap - 22 * n)) := by
   have : 0 < c.size := by simp at hsz; omega
   simp [World.cell?, hhW1, this]
  have hfW1 : W1.frozen? ⟨b', 0, none⟩ = false := by simp [World.frozen?, hhW1]
  gi_wp2
  refine ⟨_, ?_, n + 1, rfl, by omega, by omega, ⟨_, _, _, _, _, _, _, _, _, _, _, _, _, rfl⟩, ?_, ?_⟩
  ·omega
  ·rw [qub _ hhW1, Array.setIfInBounds_setIfInBounds]
   have e1 : off + 22 * n + 22 = off + 22 * (n + 1) := by omega
   have e2 : r.length - 22 * n - 22 = r.length - 22 * (n + 1) := by omega
   have e3 : cap - 22 * n - 22 = cap - 22 * (n + 1) := by omega
   rw [e1, e2, e3]
  ·refine hab (n + 1) W1 _ hJ1 rfl rfl rfl (by simp [World.setCell]) (fun k hk => qq7 _ (fun h => hk 0 (h ▸ hg)))
 ·have hmi : ¬ ((r.length - 22 * n : Nat) : Int) > 22 := by omega
  have hsp : (partsOf r).drop n = [(2, r.drop (22 * n))] := by rw [qi4 r n hn2, ku (by rw [List.length_drop]; exact hmore)]
  have hln : (partsOf r).length = n + 1 := by
   have := congrArg List.length hsp
   simp at this; omega
  obtain ⟨fn, tmps, assign, body, hy, hR⟩ := hY n _ [.int .u8 2, .slice (some ⟨bb, off + 22 * n, none⟩) (r.length - 22 * n) (cap - 22 * n)] W (qq6 hsp) hJ rfl (by
   intro i v d hi hd
   match i with
   | 0 => simp [qbd] at hi hd; subst hi; subst hd; exact .int _ _
   | 1 =>
    simp [qbd] at hi hd; subst hi; subst hd
    rcases Nat.eq_zero_or_pos n with rfl | hn0
    ·have e1 : cap - 22 * 0 = cap := by omega
     rw [e1]
     simpa [zu] using hv
    ·have h1 := hn2 hn0
     have := q45 hv (22 * n) (r.length - 22 * n) (cap - 22 * n) (by omega) (by
      have : r.length ≤ cap := by simpa [zu] using hcap
      omega) (by intro h; rw [h] at h1; simp at h1)
     rwa [List.take_of_length_le (by rw [List.length_drop]; omega)] at this
   | i + 2 => simp at hi)
  gi_wp2
  refine hR.mono ?_
  rintro e1 W1 ⟨rfl, hJ1, hk1⟩
  gi_wp2
  go_end0
  exact ⟨⟨_, rfl⟩, by rw [List.length_map, hln]; exact hJ1⟩
end Go.Proofs.YtinnaedmdoengaaGreat
namespace Go.Proofs.YtinnaedmdoengaaGreat
open Go.Abs
set_option linter.unusedSimpArgs false
noncomputable section
set_option maxRecDepth 100000
set_option linter.defProp false
def d102 := cut Tryz.prog Tryz.f102 news
@[go_sem] def E102 := ql d102
def F102 := fnC d102 follows Tryz.func102
def d53 := cut Tryz.prog Tryz.f53 news
@[go_sem] def E53 := ql d53
def F53 := fnC d53 follows Tryz.func53
end
theorem q9o (r : List UInt8) : qg Tryz.prog 102 [.d (.sl 1 (qd r))] [] (.d (.func (.func 150) [] [.ptr 0 0])) [.row [.d (.sl 1 (qd r))]] := by
 refine F102.go ?_
 try (refine ev ?_; try exact True.intro)
 exact ⟨_, rfl⟩
def xu (p : Nat × List UInt8) : List UInt8 := [UInt8.ofNat p.1, UInt8.ofNat p.2.length] ++ p.2 ++ List.replicate (22 - p.2.length) 0
def qda (x : List UInt8 × Nat) (p : Nat × List UInt8) : List UInt8 × Nat := (x.1 ++ xu p ++ be8 (fnv x.2 (xu p)), fnv x.2 (xu p))
def js (x : List UInt8 × Nat) (l : List (Nat × List UInt8)) : List UInt8 × Nat := l.foldl qda x
def vd (file r : List UInt8) : List UInt8 := (js (file, k9 file) (partsOf r)).1
theorem jt : ∀ (n : Nat) (r : List UInt8), r.length ≤ n → ∀ p ∈ partsOf r, (p.1 = 1 ∨ p.1 = 2) ∧ p.2.length ≤ 22
 | n, r, hn => by
  intro p hp
  by_cases h : r.length > 22
  ·rw [kq h] at hp
   rcases List.mem_cons.1 hp with rfl | hp
   ·exact ⟨.inl rfl, by simp; omega⟩
   ·cases n with
    | zero => omega
    | succ n => exact jt n (r.drop 22) (by rw [List.length_drop]; omega) p hp
  ·rw [ku h] at hp
   have : p = (2, r) := by simpa using hp
   subst this
   exact ⟨.inr rfl, by simp only; omega⟩
theorem qmo : ∀ (n : Nat) (r : List UInt8), r.length ≤ n → (partsOf r).length ≤ r.length + 1
 | n, r, hn => by
  by_cases h : r.length > 22
  ·rw [kq h]
   cases n with
   | zero => omega
   | succ n =>
    have := qmo n (r.drop 22) (by rw [List.length_drop]; omega)
    rw [List.length_drop] at this
    rw [List.length_cons]
    omega
  ·rw [ku h]; simp
theorem wh {p : Nat × List UInt8} (h : p.2.length ≤ 22) : (xu p).length = 24 := by simp [xu]; omega
theorem quc (x : List UInt8 × Nat) (l : List (Nat × List UInt8)) (p : Nat × List UInt8) : js x (l ++ [p]) = qda (js x l) p := by unfold js; rw [List.foldl_append, List.foldl_cons, List.foldl_nil]
theorem qmp (x : List UInt8 × Nat) : ∀ l : List (Nat × List UInt8), (∀ p ∈ l, p.2.length ≤ 22) → (js x l).1.length = x.1.length + 32 * l.length := by
 intro l h
 induction l generalizing x with
 | nil => simp [js]
 | cons p l ih =>
  have := ih (qda x p) (fun q hq => h q (List.mem_cons_of_mem _ hq))
  have h1 := wh (h p List.mem_cons_self)
  have h2 : js x (p :: l) = js (qda x p) l := rfl
  rw [h2, this, qda]
  simp only [List.length_append, zc, h1, List.length_cons]
  omega
theorem qza (file : List UInt8) : k9 file < 18446744073709551616 := by
 unfold k9
 split
 ·omega
 ·have := qq2 8 (file.drop (file.length - 8)) (by rw [List.length_drop]; omega)
  have e : (256 : Nat) ^ 8 = 18446744073709551616 := by decide
  omega
theorem q1w (x : List UInt8 × Nat) (hx : x.2 < 18446744073709551616) (l : List (Nat × List UInt8)) : (js x l).2 < 18446744073709551616 := by
 induction l generalizing x with
 | nil => exact hx
 | cons p l ih =>
  have h1 : (qda x p).2 = fnv x.2 (xu p) := by rw [qda]
  have h2 : (qda x p).2 < 18446744073709551616 := by rw [h1]; exact qc9 hx _
  have h3 : js x (p :: l) = js (qda x p) l := rfl
  rw [h3]; exact ih _ h2
theorem qxn {cs new : List ASlot} {off : Nat} (h : off + new.length ≤ cs.length) : yn cs off new = cs.take off ++ new ++ cs.drop (off + new.length) := by
 apply List.ext_getElem?
 intro i
 rw [qcp new cs off i h]
 split
 ·rename_i hi
  rw [List.append_assoc, List.getElem?_append_right (by rw [List.length_take]; omega), List.length_take, Nat.min_eq_left (by omega), List.getElem?_append_left (by omega)]
 ·rename_i hi
  rcases Nat.lt_or_ge i off with h1 | h1
  ·rw [List.append_assoc, List.getElem?_append_left (by rw [List.length_take]; omega), List.getElem?_take, if_pos h1]
  ·rw [List.getElem?_append_right (by simp only [List.length_append, List.length_take]; omega), List.getElem?_drop]
   congr 1
   simp only [List.length_append, List.length_take]; omega
theorem q1x (p : Nat × List UInt8) (h1 : p.1 = 1 ∨ p.1 = 2) (h2 : p.2.length ≤ 22) :
  yn [ASlot.d (D.int .u8 (p.1 : Nat)), ASlot.d (D.int .u8 (IntKind.u8.wrap (p.2.length : Nat))), ASlot.d (D.int .u8 0), ASlot.d (D.int .u8 0), ASlot.d (D.int .u8 0), ASlot.d (D.int .u8 0), ASlot.d (D.int .u8 0), ASlot.d (D.int .u8 0), ASlot.d (D.int .u8 0), ASlot.d (D.int .u8 0), ASlot.d (D.int .u8 0), ASlot.d (D.int .u8 0), ASlot.d (D.int .u8 0), ASlot.d (D.int .u8 0), ASlot.d (D.int .u8 0), ASlot.d (D.int .u8 0), ASlot.d (D.int .u8 0), ASlot.d (D.int .u8 0), ASlot.d (D.int .u8 0), ASlot.d (D.int .u8 0), ASlot.d (D.int .u8 0), ASlot.d (D.int .u8 0), ASlot.d (D.int .u8 0), ASlot.d (D.int .u8 0)] 2 (List.map ASlot.d (List.take 22 (qd p.2)).flatten) = ((xu p).map zo).map ASlot.d := by
 have e1 : (List.take 22 (qd p.2)).flatten = p.2.map zo := by rw [List.take_of_length_le (by rw [zu]; exact h2), qah]
 have e2 : [ASlot.d (D.int .u8 (p.1 : Nat)), ASlot.d (D.int .u8 (IntKind.u8.wrap (p.2.length : Nat))), ASlot.d (D.int .u8 0), ASlot.d (D.int .u8 0), ASlot.d (D.int .u8 0), ASlot.d (D.int .u8 0), ASlot.d (D.int .u8 0), ASlot.d (D.int .u8 0), ASlot.d (D.int .u8 0), ASlot.d (D.int .u8 0), ASlot.d (D.int .u8 0), ASlot.d (D.int .u8 0), ASlot.d (D.int .u8 0), ASlot.d (D.int .u8 0), ASlot.d (D.int .u8 0), ASlot.d (D.int .u8 0), ASlot.d (D.int .u8 0), ASlot.d (D.int .u8 0), ASlot.d (D.int .u8 0), ASlot.d (D.int .u8 0), ASlot.d (D.int .u8 0), ASlot.d (D.int .u8 0), ASlot.d (D.int .u8 0), ASlot.d (D.int .u8 0)] = ([UInt8.ofNat p.1, UInt8.ofNat p.2.length] ++ List.replicate 22 0).map (fun c => ASlot.d (zo c)) := by
  have a1 : ((p.1 : Nat) : Int) = ((UInt8.ofNat p.1).toNat : Int) := by rcases h1 with h | h <;> rw [h] <;> rfl
  have a2 := qqy p.2.length
  rw [a1, a2]
  rfl
 rw [e1, e2, qxn (by simp; omega)]
 have a3 : ([UInt8.ofNat p.1, UInt8.ofNat p.2.length] ++ List.replicate 22 (0 : UInt8)).drop (2 + p.2.length) = List.replicate (22 - p.2.length) 0 := by
  rw [List.drop_append, List.drop_of_length_le (by simp), List.nil_append, List.drop_replicate]
  congr 1
  simp only [List.length_cons, List.length_nil]; omega
 rw [← List.map_take, ← List.map_drop, List.length_map, List.length_map, a3, xu]
 simp only [List.cons_append, List.nil_append, List.take_succ_cons, List.take_zero, List.map_cons, List.map_nil, List.map_append, List.map_map]
 rfl
theorem qmq (h : Nat) : yn [ASlot.d (D.int .u8 0), ASlot.d (D.int .u8 0), ASlot.d (D.int .u8 0), ASlot.d (D.int .u8 0), ASlot.d (D.int .u8 0), ASlot.d (D.int .u8 0), ASlot.d (D.int .u8 0), ASlot.d (D.int .u8 0)] 0 (((be8 h).map zo).map ASlot.d) = ((be8 h).map zo).map .d := rfl
theorem qmr (s : List UInt8) (n : Nat) : (List.take n (s.map zo)).all D.isCell = true := by rw [← List.map_take]; exact qgo _
theorem qfn {os : List AObj} {id n : Nat} {s : List UInt8} (h : qf os id = (s.map zo).map .d) (hn : s.length = n) : ye os id 0 1 n = qd s := by
 unfold ye
 rw [h, List.drop_zero, qo0, ← hn, qt6]
theorem q46 (a b c d : AObj) (l : List AObj) (s : List UInt8) (h : s.length = 24) : ye (a :: b :: c :: d :: .row ((s.map zo).map .d) :: l) 4 0 1 24 = qd s := qfn rfl h
theorem q47 (a b c d e : AObj) (l : List AObj) (s : List UInt8) (h : s.length = 8) : ye (a :: b :: c :: d :: e :: .row ((s.map zo).map .d) :: l) 5 0 1 8 = qd s := qfn rfl h
def Sapp (file r : List UInt8) (synced : Int) (k : Nat) : St :=
 ⟨[(2, true, .d (.ptr 0 0)), (4, true, .d (.ptr 1 0)), (5, true, .d (.int .i64 0)), (7, true, .d (.ptr 2 0)), (8, true, .d (.ptr 3 0))],
  [.row [.d (.sl 1 (qd file)), .d (.int .i64 synced)], .row [.d .nilsl, .d (.int .i64 0)], .row [.d (.int .u64 ((js (file, k9 file) ((partsOf r).take k)).2 : Nat))], .row [.own 0 1 (qd (js (file, k9 file) ((partsOf r).take k)).1)]], [0], 1⟩
def vh (file : List UInt8) (synced : Int) : List D := [.sl 1 (qd file), .int .i64 synced]
theorem qud (file : List UInt8) (synced : Int) : D.noPtrL (vh file synced) = true := by simp only [vh, D.noPtrL, D.noPtr, jo, Bool.and_self]
attribute [go_sem] qud
set_option maxRecDepth 10000 in
theorem qhr (file r : List UInt8) (synced : Int) (hf : file.length ≤ 100000000) (hr : r.length ≤ 2000) :
  qg Tryz.prog 53 [.d (.agg (vh file synced)), .d (.sl 1 (qd r))] [] (.tup [.d (.agg (vh (vd file r) synced)), .d (.int .i64 0)]) [] := by
 refine F53.goT ?_
 have hr0 : decide ((r.length : Int) > 2000) = false := by simp; omega
 try (refine ev1 @vh.eq_1 ?_; try exact True.intro)
 try (refine ev1 @hr0 ?_; try exact True.intro)
 (repeat (with_reducible refine ob ?_)); refine no_ ?_
 try (refine ev ?_; try exact True.intro)
 (repeat (with_reducible refine ob ?_)); refine cl F101 (xdg file (by omega)) ?_
 try (refine ev ?_; try exact True.intro)
 (repeat (with_reducible refine ob ?_))
 refine clO [4] F102 (q9o r) ?_
 try (refine ev ?_; try exact True.intro)
 have hft : List.take (file.length - 0) (qd file) = qd file := List.take_of_length_le (by rw [zu]; omega)
 try (refine ev1 @hft ?_; try exact True.intro)
 refine xeu 150 [.ptr 0 0] [4] [.row [.d (.sl 1 (qd r))]] ((partsOf r).map qbd) (Sapp file r synced) [(2, true, .d (.ptr 0 0)), (4, true, .d (.ptr 1 0)), (5, true, .d (.int .i64 0)), (7, true, .d (.ptr 2 0)), (8, true, .d (.ptr 3 0))]
  (q1v r (by omega)) ?_ ?_ ?_ ?_ ?_ ?_
 ·try (refine ev4 @Sapp.eq_1 @List.take_zero.{0} @js.eq_1 @List.foldl_nil.{0,0} ?_; try exact True.intro)
 ·intro k vs hk
  rw [List.getElem?_map, Option.map_eq_some_iff] at hk
  obtain ⟨p, hp, rfl⟩ := hk
  obtain ⟨p1, p2⟩ := jt _ r (Nat.le_refl _) p (List.mem_of_getElem? hp)
  obtain ⟨hk, hpk⟩ := List.getElem?_eq_some_iff.1 hp
  have htk : (partsOf r).take (k + 1) = (partsOf r).take k ++ [p] := by rw [List.take_succ_eq_append_getElem hk, hpk]
  have hh := q1w (file, k9 file) (qza file) ((partsOf r).take k)
  have hln : (js (file, k9 file) ((partsOf r).take k)).1.length ≤ 200000000 := by
   rw [qmp _ _ (fun q hq => (jt _ r (Nat.le_refl _) q (List.mem_of_mem_take hq)).2), List.length_take]
   have := qmo _ r (Nat.le_refl _)
   simp only; omega
  have h24 := wh p2
  generalize hx : js (file, k9 file) ((partsOf r).take k) = x at hh hln
  have hx1 : js (file, k9 file) ((partsOf r).take (k + 1)) = qda x p := by rw [htk, quc, hx]
  have hc := q1x p p1 p2
  have hck := q41 x.2 (xu p) hh (by omega)
  rw [h24] at hck
  try (refine ev5 @Sapp.eq_1 @qbd.eq_1 @hx @hx1 @hc ?_; try exact True.intro)
  (repeat (with_reducible refine ob ?_))
  refine clO [4] F103 hck ?_
  try simp only [qmq, qmr, q46 _ _ _ _ _ _ h24, q47 _ _ _ _ _ _ _ (zc _), zc, h24, qt, go_sem, Nat.reduceAdd, Nat.reduceMul, Nat.reduceSub, Nat.reduceEqDiff, Nat.reduceLT, Nat.reduceLeDiff, Nat.reduceBEq, reduceIte, reduceCtorEq, Int.reduceAdd, Int.reduceLT, Int.reduceLE, Int.reduceGT, Int.reduceGE, Int.reduceEq, Int.reduceNe, Int.reduceBEq, Int.reduceBNe, Int.reduceToNat, Int.reduceNeg]
  refine ⟨by omega, by omega, .weak ?_ (.refl _)⟩
  try (refine ev1 @qda.eq_1 ?_; try exact True.intro)
 ·have hw : js (file, k9 file) (List.take (partsOf r).length (partsOf r)) = js (file, k9 file) (partsOf r) := by rw [List.take_length]
  try (refine ev3 @Sapp.eq_1 @hw @vd.eq_1 ?_; try exact True.intro)
 ·intro vs hvs
  obtain ⟨p, _, rfl⟩ := List.mem_map.1 hvs
  exact ⟨rfl, by simp [qbd, D.noPtrL, D.noPtr, jo]⟩
 ·try (refine ev ?_; try exact True.intro)
 ·intro k id hid
  have : id = 4 := by simpa using hid
  subst this
  rfl
end Go.Proofs.YtinnaedmdoengaaGreat
namespace Go.Proofs.YtinnaedmdoengaaGreat
open Go.Abs
set_option linter.unusedSimpArgs false
set_option linter.unusedVariables false
noncomputable section
set_option maxRecDepth 100000
set_option linter.defProp false
def d145 := cut Tryz.prog Tryz.f145 news
@[go_sem] def E145 := ql d145
def F145 := fnC d145 follows Tryz.func145
def d195 := cut Tryz.prog Tryz.f195 news
@[go_sem] def E195 := ql d195
def F195 := fnC d195 follows Tryz.func195
def d146 := cut Tryz.prog Tryz.f146 news
@[go_sem] def E146 := ql d146
def F146 := fnC d146 follows Tryz.func146
def d154 := cut Tryz.prog Tryz.f154 news
@[go_sem] def E154 := ql d154
def F154 := fnC d154 follows Tryz.func154
def d153 := cut Tryz.prog Tryz.f153 news
@[go_sem] def E153 := ql d153
def F153 := fnC d153 follows Tryz.func153
def d144 := cut Tryz.prog Tryz.f144 news
@[go_sem] def E144 := ql d144
def F144 := fnC d144 follows Tryz.func144
def d92 := cut Tryz.prog Tryz.f92 news
@[go_sem] def E92 := ql d92
def F92 := fnC d92 follows Tryz.func92
end
theorem kw {α : Type} (f : α → List UInt8) (k : Nat) : ∀ l : List α, (∀ x ∈ l, (f x).length ≤ k) → (l.flatMap f).length ≤ l.length * k
 | [], _ => by simp
 | x :: l, h => by
  have h1 := kw f k l fun y hy => h y (by simp [hy])
  have h2 := h x (by simp)
  simp only [List.flatMap_cons, List.length_append, List.length_cons, Nat.succ_mul]; omega
def qd0 (l : List Int) : List UInt8 := wInt l.length ++ l.flatMap wInt
def qzb (b : List UInt8) (l : List Int) (i : Nat) : St :=
 ⟨[(0, true, .own 0 1 (qd (b ++ (wInt l.length ++ (l.take i).flatMap wInt)))), (11, true, .d (.sl 1 (l.map encI))), (12, true, .d (.int .i64 l.length)), (13, true, .d (.int .i64 (i : Nat)))], [], [0], 1⟩
theorem qxo (b : List UInt8) (l : List Int) (hb : b.length ≤ 100000000) (hl : l.length ≤ 1000) (hi : ∀ x ∈ l, I64 x) :
  qg Tryz.prog 145 [.own 0 1 (qd b), .d (.sl 1 (l.map encI))] [] (.own 0 1 (qd (b ++ qd0 l))) [] := by
 have hw := xj (xp (n := l.length) (by omega))
 refine F145.go ?_
 try (refine ev ?_; try exact True.intro)
 refine clA F91 (kg b l.length (by omega) (xp (by omega))) ?_
 try (refine ev ?_; try exact True.intro)
 refine qj (fun i : { i : Nat // i ≤ l.length } => qzb b l i.val) (fun i => l.length - i.val) ⟨0, Nat.zero_le _⟩ ?_ (fun i => ?_)
 ·try (refine ev5 @qzb.eq_1 @List.take_zero.{0} @List.flatMap_nil.{0,0} @List.append_nil.{0} @Int.ofNat_zero ?_; try exact True.intro)
 obtain ⟨i, hi2⟩ := i
 try (refine ev1 @qzb.eq_1 ?_; try exact True.intro)
 refine xt _ (fun hc => ?_) (fun hc => ?_)
 ·have hil : i < l.length := by simpa using hc
  have hfl := kw wInt 10 (l.take i) fun x hx => xj (hi x (List.mem_of_mem_take hx))
  have htk : (l.take i).length ≤ i := by rw [List.length_take]; omega
  have hfl2 : ((l.take i).flatMap wInt).length ≤ 10000 := by omega
  have hsn := qaf wInt l hil
  try (refine ev2 (qq encI l hil) @encI.eq_1 ?_; try exact True.intro)
  (repeat (with_reducible refine ob ?_))
  refine clA F91 (kg (b ++ (wInt l.length ++ (l.take i).flatMap wInt)) l[i] (by simp only [List.length_append]; omega) (hi _ (List.getElem_mem hil))) ?_
  try (refine ev ?_; try exact True.intro)
  refine ⟨⟨i + 1, hil⟩, ?_, by dsimp only; omega⟩
  try (refine ev4 @qzb.eq_1 @hsn @List.append_assoc.{0} (qi (show i < 9223372036854775807 by omega)) ?_; try exact True.intro)
 ·have hie : i = l.length := by
   have : l.length ≤ i := by simpa using hc
   omega
  subst hie
  try (refine ev2 @List.take_length.{0} @qd0.eq_1 ?_; try exact True.intro)
def wAV (v : AV) : List UInt8 := wInt v.kind ++ (if v.kind = 1 then wInt v.n else if v.kind = 2 then yh v.s else [])
def AV.Sm (v : AV) : Prop := I64 v.kind ∧ I64 v.n ∧ v.s.length ≤ 1000000
theorem qms {v : AV} (h : v.Sm) : (wAV v).length ≤ 1000020 := by
 obtain ⟨h1, h2, h3⟩ := h
 have a1 := xj h1
 have a2 := xj h2
 have a3 := qa3 v.s (by omega)
 unfold wAV
 rw [List.length_append]
 split
 ·omega
 ·split
  ·omega
  ·simp only [List.length_nil]; omega
theorem que (b : List UInt8) (v : AV) (hb : b.length ≤ 100000000) (hv : v.Sm) :
  qg Tryz.prog 195 [.own 0 1 (qd b), .d (.agg (qx v))] [] (.own 0 1 (qd (b ++ wAV v))) [] := by
 obtain ⟨h1, h2, h3⟩ := hv
 have a1 := xj h1
 refine F195.go ?_
 try (refine ev1 @qx.eq_1 ?_; try exact True.intro)
 refine clA F91 (kg b v.kind (by omega) h1) ?_
 try (refine ev ?_; try exact True.intro)
 refine xt _ (fun hc => ?_) (fun hc => ?_)
 ·have hk : v.kind = 1 := by simpa using hc
  have e : wAV v = wInt v.kind ++ wInt v.n := by rw [wAV, if_pos hk]
  try (refine ev ?_; try exact True.intro)
  refine clA F91 (kg (b ++ wInt v.kind) v.n (by rw [List.length_append]; omega) h2) ?_
  try (refine ev2 @e @List.append_assoc.{0} ?_; try exact True.intro)
 ·have hk : v.kind ≠ 1 := by simpa using hc
  try (refine ev ?_; try exact True.intro)
  refine xt _ (fun hd => ?_) (fun hd => ?_)
  ·have hk2 : v.kind = 2 := by simpa using hd
   have e : wAV v = wInt v.kind ++ yh v.s := by rw [wAV, if_neg hk, if_pos hk2]
   try (refine ev ?_; try exact True.intro)
   refine clA F99 (qgl (b ++ wInt v.kind) v.s (by rw [List.length_append]; omega)) ?_
   try (refine ev2 @e @List.append_assoc.{0} ?_; try exact True.intro)
  ·have hk2 : v.kind ≠ 2 := by simpa using hd
   have e : wAV v = wInt v.kind := by rw [wAV, if_neg hk, if_neg hk2, List.append_nil]
   try (refine ev1 @e ?_; try exact True.intro)
def wAVs (l : List AV) : List UInt8 := wInt l.length ++ l.flatMap wAV
def q9p (b : List UInt8) (l : List AV) (i : Nat) : St :=
 ⟨[(0, true, .own 0 1 (qd (b ++ (wInt l.length ++ (l.take i).flatMap wAV)))), (11, true, .d (.sl 3 (l.map qx))), (12, true, .d (.int .i64 l.length)), (13, true, .d (.int .i64 (i : Nat)))], [], [0], 1⟩
theorem qq8 (b : List UInt8) (l : List AV) (hb : b.length ≤ 10000000) (hl : l.length ≤ 50) (hi : ∀ x ∈ l, x.Sm) :
  qg Tryz.prog 146 [.own 0 1 (qd b), .d (.sl 3 (l.map qx))] [] (.own 0 1 (qd (b ++ wAVs l))) [] := by
 have hw := xj (xp (n := l.length) (by omega))
 refine F146.go ?_
 try (refine ev ?_; try exact True.intro)
 refine clA F91 (kg b l.length (by omega) (xp (by omega))) ?_
 try (refine ev ?_; try exact True.intro)
 refine qj (fun i : { i : Nat // i ≤ l.length } => q9p b l i.val) (fun i => l.length - i.val) ⟨0, Nat.zero_le _⟩ ?_ (fun i => ?_)
 ·try (refine ev5 @q9p.eq_1 @List.take_zero.{0} @List.flatMap_nil.{0,0} @List.append_nil.{0} @Int.ofNat_zero ?_; try exact True.intro)
 obtain ⟨i, hi2⟩ := i
 try (refine ev1 @q9p.eq_1 ?_; try exact True.intro)
 refine xt _ (fun hc => ?_) (fun hc => ?_)
 ·have hil : i < l.length := by simpa using hc
  have hfl := kw wAV 1000020 (l.take i) fun x hx => qms (hi x (List.mem_of_mem_take hx))
  have htk : (l.take i).length ≤ i := by rw [List.length_take]; omega
  have hfl2 : ((l.take i).flatMap wAV).length ≤ 60000000 := by omega
  have hsn := qaf wAV l hil
  try (refine ev2 (qq qx l hil) @qx.eq_1 ?_; try exact True.intro)
  (repeat (with_reducible refine ob ?_))
  have hva := que (b ++ (wInt l.length ++ (l.take i).flatMap wAV)) l[i] (by simp only [List.length_append]; omega) (hi _ (List.getElem_mem hil))
  simp only [qx] at hva
  refine clA F195 hva ?_
  try (refine ev ?_; try exact True.intro)
  refine ⟨⟨i + 1, hil⟩, ?_, by dsimp only; omega⟩
  try (refine ev4 @q9p.eq_1 @hsn @List.append_assoc.{0} (qi (show i < 9223372036854775807 by omega)) ?_; try exact True.intro)
 ·have hie : i = l.length := by
   have : l.length ≤ i := by simpa using hc
   omega
  subst hie
  try (refine ev2 @List.take_length.{0} @wAVs.eq_1 ?_; try exact True.intro)
theorem qk4 (s : List UInt8) (hl : s.length ≤ 1000000000) : qg Tryz.prog 154 [.d (.sl 1 (qd s))] [] (.d (.int .u64 (fnv 14695981039346656037 s : Nat))) [] := by
 have h0 := q40 14695981039346656037 s (by decide) hl
 refine F154.go ?_
 try (refine ev ?_; try exact True.intro)
 (repeat (with_reducible refine ob ?_)); first | refine cl F151 (h0) ?_ | refine clF F151 (h0) (fun _ => by (refine ev3 @qx.eq_1 @encI.eq_1 @qe.eq_1 ?_; try exact True.intro)) ?_
 try (refine ev ?_; try exact True.intro)
def Seig (h : Nat) (i : { i : Nat // i ≤ 8 }) : St :=
 ⟨[(0, true, .d (.int .u64 (h : Nat))), (2, true, .d (.ptr 0 0)), (3, true, .d (.ptr 1 0)), (5, true, .d (.int .i64 (i.val : Nat)))], [.row ((List.replicate 8 (D.int .u8 0)).map .d), .row ((((be8 h).take i.val ++ List.replicate (8 - i.val) 0).map zo).map .d)], [], 1⟩
theorem qk5 (h : Nat) (hh : h < 18446744073709551616) : qg Tryz.prog 153 [.d (.int .u64 h)] [] (.d (.agg ((be8 h).map zo))) [] := by
 refine F153.go ?_
 try (refine ev ?_; try exact True.intro)
 refine qj (Seig h) (fun i => 8 - i.val) ⟨0, Nat.zero_le _⟩ ?_ (fun i => ?_)
 ·try (refine ev3 @Seig.eq_1 @List.take_zero.{0} @qi2 ?_; try exact True.intro)
 obtain ⟨i, hi⟩ := i
 try (refine ev1 @Seig.eq_1 ?_; try exact True.intro)
 refine xt _ (fun hc => ?_) (fun hc => ?_)
 ·have hil : i < 8 := by simp at hc; omega
  have e1 : IntKind.i64.wrap (7 - (i : Int)) = 7 - i := xk (by unfold I64; omega)
  have e2 : IntKind.i64.wrap (8 * (7 - (i : Int))) = 8 * (7 - i) := xk (by unfold I64; omega)
  have hlen := zc h
  try simp only [Nat.mul_one, qq1 _ _ hil, qai, qxl _ hil, e1, e2, List.length_take, List.length_replicate, go_sem, Nat.reduceAdd, Nat.reduceMul, Nat.reduceSub, Nat.reduceEqDiff, Nat.reduceLT, Nat.reduceLeDiff, Nat.reduceBEq, reduceIte, reduceCtorEq, Int.reduceAdd, Int.reduceLT, Int.reduceLE, Int.reduceGT, Int.reduceGE, Int.reduceEq, Int.reduceNe, Int.reduceBEq, Int.reduceBNe, Int.reduceToNat, Int.reduceNeg]
  (repeat (with_reducible refine ob ?_))
  refine ⟨⟨i + 1, hil⟩, ?_, by dsimp only; omega⟩
  try (refine ev2 @Seig.eq_1 (qi (show i < 9223372036854775807 by omega)) ?_; try exact True.intro)
 ·have hie : i = 8 := by simp at hc; omega
  subst hie
  try (refine ev3 @qxm @be8.eq_1 @zo.eq_1 ?_; try exact True.intro)
def qcj (s : List UInt8) : List UInt8 := s ++ be8 (fnv 14695981039346656037 s)
theorem q48 (s : List UInt8) (hl : s.length ≤ 100000000) : qg Tryz.prog 144 [.d (.sl 1 (qd s))] [] (.d (.sl 1 (qd (qcj s)))) [] := by
 have hlt := qc9 (h := 14695981039346656037) (by decide) s
 refine F144.go ?_
 try (refine ev ?_; try exact True.intro)
 (repeat (with_reducible refine ob ?_)); first | refine cl F154 (qk4 s (by omega)) ?_ | refine clF F154 (qk4 s (by omega)) (fun _ => by (refine ev3 @qx.eq_1 @encI.eq_1 @qe.eq_1 ?_; try exact True.intro)) ?_
 try (refine ev ?_; try exact True.intro)
 have hw : IntKind.i64.wrap ((s.length : Int) + 8) = ((s.length + 8 : Nat) : Int) := by rw [xk (by unfold I64; omega)]; omega
 (repeat (with_reducible refine ob ?_)); first | refine cl F153 (qk5 _ hlt) ?_ | refine clF F153 (qk5 _ hlt) (fun _ => by (refine ev3 @qx.eq_1 @encI.eq_1 @qe.eq_1 ?_; try exact True.intro)) ?_
 generalize hh : fnv 14695981039346656037 s = h
 have hr : ye [AObj.row (((be8 h).map zo).map ASlot.d)] 0 0 1 8 = qd (be8 h) := qfn rfl (zc _)
 have h8 := zc h
 have hs : qd s ++ qd (be8 h) = qd (qcj s) := by rw [qt, qcj, hh]
 try (refine ev6 @hw @qmq @qmr @zc @hr @hs ?_; try exact True.intro)
 (repeat (with_reducible refine ob ?_))
 omega
def x7 (p : Pk) : List Int := [p.kind, p.sess, p.epoch, p.from_, p.to, p.seq, p.label]
def zx (p : Pk) : List UInt8 := (x7 p).flatMap wInt ++ wAVs p.values ++ qd0 p.clock
def jf (p : Pk) : List UInt8 × Int := if xe p then (qcj (zx p), 0) else ([], 1)
structure Pk.W (p : Pk) : Prop where
 h : ∀ x ∈ x7 p, I64 x
 v : ∀ x ∈ p.values, x.Sm
 c : ∀ x ∈ p.clock, I64 x
def q9q (p : Pk) (i : Nat) : St :=
 ⟨[(1, true, .d (.ptr 0 0)), (4, true, .own 0 1 (qd (((x7 p).take i).flatMap wInt))), (24, true, .d (.sl 1 ((x7 p).map encI))), (25, true, .d (.int .i64 7)), (26, true, .d (.int .i64 (i : Nat)))], [.row ((qe p).map .d)], [0], 1⟩
theorem qhs {p : Pk} (h : xe p = true) : p.values.length ≤ 4 ∧ p.clock.length ≤ 6 := by
 unfold xe data ack order bare at h
 grind
set_option maxRecDepth 10000 in
theorem q1y (p : Pk) (hp : p.Sm) (hw : p.W) : qg Tryz.prog 92 [.d (.agg (qe p))] [] (.tup [.d (.sl 1 (qd (jf p).1)), .d (.int .i64 (jf p).2)]) [] := by
 refine F92.goT ?_
 try (refine ev1 @qe.eq_1 ?_; try exact True.intro)
 (repeat (with_reducible refine ob ?_)); first | refine cl F110 (yk p hp.v hp.c) ?_ | refine clF F110 (yk p hp.v hp.c) (fun _ => by (refine ev3 @qx.eq_1 @encI.eq_1 @qe.eq_1 ?_; try exact True.intro)) ?_
 try (refine ev ?_; try exact True.intro)
 (repeat (with_reducible refine ob ?_)); refine xt _ (fun h => ?_) (fun h => ?_)
 ·have hb : jf p = ([], 1) := by unfold jf; rw [if_neg]; simpa using h
  try (refine ev2 @hb @qm ?_; try exact True.intro)
 have hv : xe p = true := by simpa using h
 have hb : jf p = (qcj (zx p), 0) := by unfold jf; rw [if_pos hv]
 obtain ⟨f1, f2⟩ := qhs hv
 try (refine ev ?_; try exact True.intro)
 refine qj (fun i : { i : Nat // i ≤ 7 } => q9q p i.val) (fun i => 7 - i.val) ⟨0, Nat.zero_le _⟩ ?_ (fun i => ?_)
 ·try simp only [q9q, List.take_zero, List.flatMap_nil, qm, Int.ofNat_zero, qe, x7, List.map_cons, List.map_nil, encI, go_sem, Nat.reduceAdd, Nat.reduceMul, Nat.reduceSub, Nat.reduceEqDiff, Nat.reduceLT, Nat.reduceLeDiff, Nat.reduceBEq, reduceIte, reduceCtorEq, Int.reduceAdd, Int.reduceLT, Int.reduceLE, Int.reduceGT, Int.reduceGE, Int.reduceEq, Int.reduceNe, Int.reduceBEq, Int.reduceBNe, Int.reduceToNat, Int.reduceNeg]
 obtain ⟨i, hi⟩ := i
 try (refine ev1 @q9q.eq_1 ?_; try exact True.intro)
 refine xt _ (fun hc => ?_) (fun hc => ?_)
 ·have hil : i < (x7 p).length := by simp [x7] at hc ⊢; omega
  have hx := hw.h _ (List.getElem_mem hil)
  have hfl := kw wInt 10 ((x7 p).take i) fun x hx => xj (hw.h x (List.mem_of_mem_take hx))
  have htk : ((x7 p).take i).length ≤ 7 := by rw [List.length_take]; omega
  have hsn := qaf wInt (x7 p) hil
  have h7 : (x7 p).length = 7 := rfl
  try (refine ev2 (qq encI (x7 p) hil) @encI.eq_1 ?_; try exact True.intro)
  (repeat (with_reducible refine ob ?_))
  refine clA F91 (kg (((x7 p).take i).flatMap wInt) (x7 p)[i] (by omega) hx) ?_
  try (refine ev ?_; try exact True.intro)
  refine ⟨⟨i + 1, hil⟩, ?_, by dsimp only; omega⟩
  try (refine ev3 @q9q.eq_1 @hsn (qi (show i < 9223372036854775807 by omega)) ?_; try exact True.intro)
 ·have hie : i = 7 := by simp at hc; omega
  subst hie
  have ht : (x7 p).take 7 = x7 p := rfl
  have hfl := kw wInt 10 (x7 p) fun x hx => xj (hw.h x hx)
  have h7 : (x7 p).length = 7 := rfl
  have hwv : (wAVs p.values).length ≤ 5000000 := by
   have h1 := xj (xp (n := p.values.length) (by omega))
   have h2 := kw wAV 1000020 p.values fun x hx => qms (hw.v x hx)
   simp only [wAVs, List.length_append]; omega
  have hwc : (qd0 p.clock).length ≤ 5000000 := by
   have h1 := xj (xp (n := p.clock.length) (by omega))
   have h2 := kw wInt 10 p.clock fun x hx => xj (hw.c x hx)
   simp only [qd0, List.length_append]; omega
  try (refine ev2 @ht @qe.eq_1 ?_; try exact True.intro)
  refine clA F146 (qq8 ((x7 p).flatMap wInt) p.values (by omega) (by omega) hw.v) ?_
  try (refine ev ?_; try exact True.intro)
  refine clA F145 (qxo ((x7 p).flatMap wInt ++ wAVs p.values) p.clock (by rw [List.length_append]; omega) (by omega) hw.c) ?_
  try (refine ev ?_; try exact True.intro)
  (repeat (with_reducible refine ob ?_)); first | refine cl F144 (q48 (zx p) (by simp only [zx, List.length_append]; omega)) ?_ | refine clF F144 (q48 (zx p) (by simp only [zx, List.length_append]; omega)) (fun _ => by (refine ev3 @qx.eq_1 @encI.eq_1 @qe.eq_1 ?_; try exact True.intro)) ?_
  try (refine ev1 @hb ?_; try exact True.intro)
end Go.Proofs.YtinnaedmdoengaaGreat
namespace Go.Proofs.YtinnaedmdoengaaGreat
open Go.Abs
set_option linter.unusedSimpArgs false
set_option linter.unusedVariables false
noncomputable section
set_option maxRecDepth 100000
set_option linter.defProp false
def d63 := cut Tryz.prog Tryz.f63 news
@[go_sem] def E63 := ql d63
def F63 := fnC d63 follows Tryz.func63
def d51 := cut Tryz.prog Tryz.f51 news
@[go_sem] def E51 := ql d51
def F51 := fnC d51 follows Tryz.func51
end
theorem wd (s : List UInt8) (hl : s.length ≤ 1000000000) : qg Tryz.prog 63 [.d (.sl 1 (qd s))] [] (.d (.sl 1 (qd s))) [] := by
 refine F63.go ?_
 try (refine ev ?_; try exact True.intro)
 refine qw5 rfl rfl (fun b hb => ?_)
 try (refine ev ?_; try exact True.intro)
 (repeat (with_reducible refine ob ?_)); refine xt _ (fun h => ?_) (fun h => ?_)
 ·try (refine ev1 (hb h) ?_; try exact True.intro)
 ·try (refine ev ?_; try exact True.intro)
  omega
theorem q1z (w : World) (t : TypeId) (b : Nat) (es : Array MapEntry) (clock : Nat) (hb : w.heap[b]? = some (.map es clock)) :
  (callFunc 100 #[.iface t (.map (some b))]).run Tryz.prog w = .ok (.value (.iface t (.map (some w.heap.size)))) (w.alloc (.map es clock)) := by
 rw [run_callFunc_extern Tryz.func100 rfl (by kernel_rfl) (by kernel_rfl) (e := Extern.MapsClone.clone) (by kernel_rfl)]
 have e : Extern.MapsClone.clone #[.iface t (.map (some b))] = (getObj b >>= fun o => match o with
   | .map entries clock => (newObj (.map entries clock) >>= fun n => pure (.iface t (.map (some n))))
   | _ => stuck "maps.clone: a map expected") := rfl
 rw [e]
 simp [MapKept.run_getObj_map hb, Result.andThen]
set_option maxRecDepth 100000 in
set_option maxHeartbeats 1000000 in
theorem q49 (es : Ents) (c : Nat) : qg Tryz.prog 51 [.d (.map 0)] [.map es c] (.d (.map 1)) [.map es c, .map es c] := by
 intro g w vs hd hlen hv ho
 match vs, hlen with
 | [v0], _ =>
 have h0 := qjw (k8 (zn (hv 0 v0 _ rfl rfl)))
 obtain ⟨b, rfl, hg⟩ := h0
 obtain ⟨b', hb', l, hh, hl, he⟩ := (ho.objs 0 _ rfl (by simp)).resolve_right (fun h => by cases h.1)
 have : b' = b := ho.inj b' b 0 hb' hg
 subst this
 go_enter Tryz.func51, Tryz.ntmps51
 have hcl := q1z w 96 b' l.toArray c hh
 have hbin : (binOp .eql 96 (.map (some b')) (.map none)).run Tryz.prog w = .ok (.bool false) w := by
  simp [binOp, qg9 Tryz.underlying96]
 have hta : ∀ W, (Instr.typeAssert (.iface 96 (.map (some w.heap.size))) 20 96 false).run Tryz.prog W = .ok (.map (some w.heap.size)) W := fun W => by
  simp [Instr.typeAssert, run_underlying Tryz.underlying96]
 go_wp2_with (first | simp only [hbin, Result.andThen_ok] | simp only [hcl] | simp only [hta, Result.andThen_ok])
 go_ret
 have hs : SR 0 (fun _ => False) g w ⟨[], [.map es c, .none], [], 1⟩ { tmps := #[], defers := [] } := by
  refine ⟨hd, trivial, rfl, fun k v s h => by simp [Fr.get] at h, fun id o hid hn => ?_, ho.inj, fun b id hb => ?_, ⟨by simp, fun k s h => by simp [Fr.get] at h, fun id o hid s hs => ?_⟩⟩
  ·match id with
   | 0 => exact ho.objs 0 o hid hn
   | 1 => simp at hid; exact (hn hid.symm).elim
   | i + 2 => simp at hid
  ·obtain ⟨o, h1, h2⟩ := ho.ids b id hb
   refine ⟨o, ?_, h2⟩
   match id with
   | 0 => exact h1
   | i + 1 => simp at h1
  ·match id with
   | 0 => simp at hid; subst hid; simp [AObj.cells] at hs
   | 1 => simp at hid; subst hid; simp [AObj.cells] at hs
   | i + 2 => simp at hid
 obtain ⟨q1, q2⟩ := hs.newObjA (id := 1) (o := .map es c) (blk := .map l.toArray c) rfl (by simp) (fun hG hr _ => ⟨l, heap_alloc_new w _, hl, fun i e x h1 h2 => (he i e x h1 h2).mono hr⟩) (by simp [AObj.cells])
 refine ⟨_, _, [], rfl, q1, q2.dom, by simp [ASlot.toks], .map _ 1 (Ghost.at_same _ _ _), ⟨fun id o hid hn => q2.objs id o hid hn, q2.inj, fun b id hb => q2.ids b id hb⟩⟩
end Go.Proofs.YtinnaedmdoengaaGreat
namespace Go.Proofs.YtinnaedmdoengaaGreat
open Go.Abs
set_option linter.unusedSimpArgs false
set_option linter.unusedVariables false
abbrev KV := Nat × List UInt8 × List UInt8
structure Cont where
 l : List KV
 c : Nat
 deriving DecidableEq, Inhabited
def qck (x : KV) : Nat × D × D := (x.1, .str x.2.1, .sl 1 (qd x.2.2))
def mapO (m : Cont) : AObj := .map (m.l.map qck) m.c
def x8 (k : List UInt8) (x : KV) : Bool := k == x.2.1
def mPut (k v : List UInt8) (m : Cont) : Cont := match m.l.findIdx? (x8 k) with
 | some j => ⟨m.l.modify j fun e => (e.1, k, v), m.c⟩
 | none => ⟨m.l ++ [(m.c, k, v)], m.c + 1⟩
def mDel (k : List UInt8) (m : Cont) : Cont := match m.l.findIdx? (x8 k) with
 | some j => ⟨m.l.eraseIdx j, m.c⟩
 | none => m
def mGet (k : List UInt8) (m : Cont) : Option (List UInt8) := (m.l.find? (x8 k)).map (·.2.2)
theorem qgp (k : List UInt8) (l : List KV) : (l.map qck).findIdx? (qf0 (.str k)) = l.findIdx? (x8 k) := by
 rw [List.findIdx?_map]; rfl
theorem q11 (k v : List UInt8) (m : Cont) : qld (.str k) (.sl 1 (qd v)) m.c (m.l.map qck) = (mPut k v m).l.map qck := by
 unfold qld mPut
 rw [qgp]
 cases h : m.l.findIdx? (x8 k) with
 | none => simp [qck]
 | some j =>
  simp only
  apply List.ext_getElem?
  intro i
  rw [List.getElem?_modify, List.getElem?_map, List.getElem?_map, List.getElem?_modify]
  cases m.l[i]? with
  | none => rfl
  | some x =>
   show some (if j = i then _ else _) = some (qck (if j = i then _ else _))
   split <;> rfl
theorem quf (k v : List UInt8) (m : Cont) : qdn (.str k) m.c (m.l.map qck) = (mPut k v m).c := by
 unfold qdn mPut
 rw [qgp]
 cases m.l.findIdx? (x8 k) <;> rfl
theorem q12 (k : List UInt8) (m : Cont) : qle (.str k) (m.l.map qck) = (mDel k m).l.map qck := by
 unfold qle mDel
 rw [qgp]
 cases m.l.findIdx? (x8 k) with
 | none => rfl
 | some j =>
  simp only
  apply List.ext_getElem?
  intro i
  rw [List.getElem?_eraseIdx, List.getElem?_map, List.getElem?_map, List.getElem?_map, List.getElem?_eraseIdx]
  split <;> rfl
theorem xbu (k : List UInt8) (m : Cont) : (mDel k m).c = m.c := by unfold mDel; split <;> rfl
theorem q13 (k : List UInt8) (l : List KV) : qjr .str (.str k) (l.map qck) = true := by
 simp only [qjr, KD.is, Bool.true_and, List.all_map]
 exact List.all_eq_true.2 fun x _ => rfl
theorem qxp (k : List UInt8) (m : Cont) : qa9 (.str k) (m.l.map qck) = (mGet k m).map fun v => .sl 1 (qd v) := by
 unfold qa9 mGet
 rw [List.find?_map]
 have : qf0 (.str k) ∘ qck = x8 k := rfl
 rw [this]
 cases m.l.find? (x8 k) <;> rfl
attribute [go_sem] q13
def jg : Cont → List OpS → Cont × Bool
 | m, [] => (m, true)
 | m, o :: l => if o.del then jg (mDel o.key m) l else if (mPut o.key o.val m).l.length > 400 then (mPut o.key o.val m, false) else jg (mPut o.key o.val m) l
noncomputable section
set_option maxRecDepth 100000
set_option linter.defProp false
def d52 := cut Tryz.prog Tryz.f52 news
@[go_sem] def E52 := ql d52
def F52 := fnC d52 follows Tryz.func52
end
def qug (m : Cont) (l : List OpS) (i : { i : Nat × Cont // i.1 ≤ l.length ∧ jg i.2 (l.drop i.1) = jg m l }) : St :=
 ⟨[(0, true, .d (.map 0)), (7, true, .d (.sl 3 (l.map qh))), (8, true, .d (.int .i64 l.length)), (9, true, .d (.int .i64 (i.val.1 : Nat)))], [mapO i.val.2], [], 1⟩
theorem qzc (m : Cont) (l : List OpS) (hl : l.length ≤ 100000) (hv : ∀ o ∈ l, o.val.length ≤ 1000000) : qg Tryz.prog 52 [.d (.map 0), .d (.sl 3 (l.map qh))] [mapO m] (.d (.bool (jg m l).2)) [mapO (jg m l).1] := by
 refine F52.go ?_
 try (refine ev1 @mapO.eq_1 ?_; try exact True.intro)
 refine qj (qug m l) (fun i => l.length - i.val.1) ⟨(0, m), Nat.zero_le _, rfl⟩ ?_ (fun i => ?_)
 ·try (refine ev2 @qug.eq_1 @mapO.eq_1 ?_; try exact True.intro)
 obtain ⟨⟨i, mi⟩, hi, ha⟩ := i
 simp only at hi ha
 try (refine ev2 @qug.eq_1 @mapO.eq_1 ?_; try exact True.intro)
 refine xt _ (fun hc => ?_) (fun hc => ?_)
 ·have hil : i < l.length := by simpa using hc
  have hd : l.drop i = l[i] :: l.drop (i + 1) := List.drop_eq_getElem_cons hil
  rw [hd, jg] at ha
  try (refine ev2 (qq qh l hil) @qh.eq_1 ?_; try exact True.intro)
  (repeat (with_reducible refine ob ?_))
  (repeat (with_reducible refine ob ?_)); refine xt _ (fun h => ?_) (fun h => ?_)
  ·rw [if_pos h] at ha
   try (refine ev1 @q12 ?_; try exact True.intro)
   refine ⟨⟨(i + 1, mDel l[i].key mi), hil, ha⟩, ?_, by dsimp only; omega⟩
   try (refine ev4 @qug.eq_1 @mapO.eq_1 @xbu (qi (show i < 9223372036854775807 by omega)) ?_; try exact True.intro)
  ·rw [if_neg (by simp [h])] at ha
   try (refine ev ?_; try exact True.intro)
   (repeat (with_reducible refine ob ?_)); first | refine cl F63 (wd l[i].val (by have := hv l[i] (List.getElem_mem hil); omega)) ?_ | refine clF F63 (wd l[i].val (by have := hv l[i] (List.getElem_mem hil); omega)) (fun _ => by (refine ev1 @qh.eq_1 ?_; try exact True.intro)) ?_
   try simp only [q11, quf _ l[i].val, go_sem, Nat.reduceAdd, Nat.reduceMul, Nat.reduceSub, Nat.reduceEqDiff, Nat.reduceLT, Nat.reduceLeDiff, Nat.reduceBEq, reduceIte, reduceCtorEq, Int.reduceAdd, Int.reduceLT, Int.reduceLE, Int.reduceGT, Int.reduceGE, Int.reduceEq, Int.reduceNe, Int.reduceBEq, Int.reduceBNe, Int.reduceToNat, Int.reduceNeg]
   refine xt _ (fun h4 => ?_) (fun h4 => ?_)
   ·rw [if_pos (by simp at h4; omega)] at ha
    try (refine ev1 ha.symm ?_; try exact True.intro)
   ·rw [if_neg (by simp at h4; omega)] at ha
    try (refine ev ?_; try exact True.intro)
    refine ⟨⟨(i + 1, mPut l[i].key l[i].val mi), hil, ha⟩, ?_, by dsimp only; omega⟩
    try (refine ev3 @qug.eq_1 @mapO.eq_1 (qi (show i < 9223372036854775807 by omega)) ?_; try exact True.intro)
 ·have hie : i = l.length := by simp at hc; omega
  subst hie
  rw [List.drop_length, jg] at ha
  try (refine ev1 ha.symm ?_; try exact True.intro)
end Go.Proofs.YtinnaedmdoengaaGreat
namespace Go.Proofs.YtinnaedmdoengaaGreat
open Go.Abs
set_option linter.unusedSimpArgs false
set_option linter.unusedVariables false
structure Sto where
 file : List UInt8
 synced : Int
 m : Cont
 deriving DecidableEq, Inhabited
def stoO (s : Sto) (id : Nat) : AObj := .row [.d (.sl 1 (qd s.file)), .d (.int .i64 s.synced), .d (.map id)]
def qbk : Cont := ⟨[], 0⟩
def newS : Sto := ⟨[], 0, qbk⟩
noncomputable section
set_option maxRecDepth 100000
set_option linter.defProp false
def d10 := cut Tryz.prog Tryz.f10 news
@[go_sem] def E10 := ql d10
def F10 := fnC d10 follows Tryz.func10
def d14 := cut Tryz.prog Tryz.f14 news
@[go_sem] def E14 := ql d14
def F14 := fnC d14 follows Tryz.func14
def d26 := cut Tryz.prog Tryz.f26 news
@[go_sem] def E26 := ql d26
def F26 := fnC d26 follows Tryz.func26
def d22 := cut Tryz.prog Tryz.f22 news
@[go_sem] def E22 := ql d22
def d123 := cut Tryz.prog Tryz.f123 news
@[go_sem] def E123 := ql d123
def d65 := cut Tryz.prog Tryz.f65 news
@[go_sem] def E65 := ql d65
end
theorem xe7 : qg Tryz.prog 10 [] [] (.d (.ptr 1 0)) [mapO qbk, stoO newS 0] := by
 refine F10.go ?_
 try (refine ev6 @mapO.eq_1 @stoO.eq_1 @qbk.eq_1 @newS.eq_1 @List.map_nil.{0,0} @qm ?_; try exact True.intro)
def xh (s : Sto) (l : List OpS) : Sto × Int :=
 if (qo l).2 ≠ 0 then (s, (qo l).2) else if (jg s.m l).2 = false then (s, 28) else (⟨vd s.file (qo l).1, s.synced, (jg s.m l).1⟩, 0)
def qht (s : Sto) (l : List OpS) : List AObj := if (xh s l).2 = 0 then [stoO (xh s l).1 2, mapO s.m, mapO (xh s l).1.m] else [stoO s 1, mapO s.m, .none]
theorem ve (l : List OpS) : (qo l).1.length ≤ 2000 := by
 unfold qo
 split
 ·simp
 ·split
  ·simp
  ·rename_i h
   simp only [Bool.or_eq_true, decide_eq_true_eq, not_or] at h
   simp only; omega
theorem ju {l : List OpS} (h : (qo l).2 = 0) : l.length ≤ 20 ∧ (∀ o ∈ l, je o = true) ∧ qo l = (wOps l, 0) := by
 unfold qo at h ⊢
 split at h
 ·simp at h
 ·rename_i h1
  split at h
  ·simp at h
  ·rename_i h2
   rw [if_neg h1, if_neg h2]
   simp only [Bool.or_eq_true, decide_eq_true_eq, not_or, List.any_eq_true, not_exists, not_and] at h1 h2
   exact ⟨by omega, fun o ho => by simpa using h1.2 o ho, rfl⟩
set_option maxRecDepth 10000 in
theorem quh (s : Sto) (l : List OpS) (hl : l.length ≤ 100000) (hf : s.file.length ≤ 100000000) :
  qg Tryz.prog 14 [.d (.ptr 0 0), .d (.sl 3 (l.map qh))] [stoO s 1, mapO s.m] (.d (.int .i64 (xh s l).2)) (qht s l) := by
 refine F14.go ?_
 try (refine ev2 @stoO.eq_1 @mapO.eq_1 ?_; try exact True.intro)
 (repeat (with_reducible refine ob ?_)); refine no_ ?_
 try (refine ev ?_; try exact True.intro)
 (repeat (with_reducible refine ob ?_)); first | refine cl F50 (qfk l hl) ?_ | refine clF F50 (qfk l hl) (fun _ => by (refine ev1 @qh.eq_1 ?_; try exact True.intro)) ?_
 try (refine ev ?_; try exact True.intro)
 (repeat (with_reducible refine ob ?_)); refine xt _ (fun h => ?_) (fun h => ?_)
 ·have hne : (qo l).2 ≠ 0 := by simpa using h
  have hb : xh s l = (s, (qo l).2) := by unfold xh; rw [if_pos hne]
  have hb2 : qht s l = [stoO s 1, mapO s.m, .none] := by unfold qht; rw [hb, if_neg hne]
  try (refine ev4 @hb @hb2 @stoO.eq_1 @mapO.eq_1 ?_; try exact True.intro)
 have he0 : (qo l).2 = 0 := by simpa using h
 obtain ⟨h20, hpr, henc⟩ := ju he0
 try (refine ev ?_; try exact True.intro)
 refine clO [1, 2] F51 (q49 (s.m.l.map qck) s.m.c) ?_
 try (refine ev ?_; try exact True.intro)
 have hap := qzc s.m l hl (fun o ho => by have := (jh.1 (hpr o ho)).2.2.1; omega)
 simp only [mapO] at hap
 (repeat (with_reducible refine ob ?_)); refine clO [2] F52 (hap) ?_ (hfit := by first | exact ⟨qc, trivial⟩ | exact ⟨qc, qc, trivial⟩ | (refine ev1 @qh.eq_1 ?_; try exact True.intro))
 try (refine ev ?_; try exact True.intro)
 (repeat (with_reducible refine ob ?_)); refine xt _ (fun h => ?_) (fun h => ?_)
 ·have hb : xh s l = (s, 28) := by unfold xh; rw [if_neg (by simp [he0]), if_pos (by simpa using h)]
  have hb2 : qht s l = [stoO s 1, mapO s.m, .none] := by unfold qht; rw [hb, if_neg (by simp)]
  try (refine ev4 @hb @hb2 @stoO.eq_1 @mapO.eq_1 ?_; try exact True.intro)
 have hb : xh s l = (⟨vd s.file (qo l).1, s.synced, (jg s.m l).1⟩, 0) := by unfold xh; rw [if_neg (by simp [he0]), if_neg (by simpa using h)]
 have hb2 : qht s l = [stoO (xh s l).1 2, mapO s.m, mapO (xh s l).1.m] := by unfold qht; rw [if_pos (by rw [hb])]
 try (refine ev ?_; try exact True.intro)
 (repeat (with_reducible refine ob ?_)); first | refine cl F53 (qhr s.file (qo l).1 s.synced hf (ve l)) ?_ | refine clF F53 (qhr s.file (qo l).1 s.synced hf (ve l)) (fun _ => by (refine ev1 @qh.eq_1 ?_; try exact True.intro)) ?_
 try (refine ev5 @vh.eq_1 @hb2 @hb @stoO.eq_1 @mapO.eq_1 ?_; try exact True.intro)
def optV (o : Option (List UInt8)) : List UInt8 := o.getD []
theorem xe8 (s : Sto) (k : List UInt8) (hm : ∀ x ∈ s.m.l, x.2.2.length ≤ 1000000) :
  qg Tryz.prog 26 [.d (.ptr 0 0), .d (.str k)] [stoO s 1, mapO s.m] (.tup [.d (.sl 1 (qd (optV (mGet k s.m)))), .d (.bool (mGet k s.m).isSome)]) [stoO s 1, mapO s.m] := by
 refine F26.goT ?_
 try (refine ev2 @stoO.eq_1 @mapO.eq_1 ?_; try exact True.intro)
 (repeat (with_reducible refine ob ?_)); refine no_ ?_
 try (refine ev1 @qxp ?_; try exact True.intro)
 cases hg : mGet k s.m with
 | none =>
  try (refine ev1 @Option.map_none.{0,0} ?_; try exact True.intro)
  have := wd [] (by simp)
  simp only [qm] at this
  (repeat (with_reducible refine ob ?_)); first | refine cl F63 (this) ?_ | refine clF F63 (this) (fun _ => by (refine ev1 @qh.eq_1 ?_; try exact True.intro)) ?_
  try (refine ev4 @optV.eq_1 @Option.getD_none.{0} @qm @Option.isSome_none.{0} ?_; try exact True.intro)
 | some v =>
  have hv : v.length ≤ 1000000 := by
   unfold mGet at hg
   rw [Option.map_eq_some_iff] at hg
   obtain ⟨x, hx, rfl⟩ := hg
   exact hm x (List.mem_of_find?_eq_some hx)
  try (refine ev1 @Option.map_some.{0,0} ?_; try exact True.intro)
  (repeat (with_reducible refine ob ?_)); first | refine cl F63 (wd v (by omega)) ?_ | refine clF F63 (wd v (by omega)) (fun _ => by (refine ev1 @qh.eq_1 ?_; try exact True.intro)) ?_
  try (refine ev3 @optV.eq_1 @Option.getD_some.{0} @Option.isSome_some.{0} ?_; try exact True.intro)
end Go.Proofs.YtinnaedmdoengaaGreat
