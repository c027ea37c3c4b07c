/- Texts Wd, We, Wf, Wg, Wh. -/
import Derived.Test.YtkcdbcbpbolgkaaGreatDoorMbl
import Derived.Calls
import Derived.Orders
import Derived.Tactics
import Derived.Laws.AppendOwn
import Derived.Laws.Slices
import Derived.Laws.Closers25
import Derived.Laws.StructEq
import Derived.Laws.BytesString
import Derived.Laws.CopyRow
import Derived.MapKept
import Derived.Maps.RangeRun
import Derived.TacticsIn
import Derived.OrdersIn
import Derived.RangeFuncRecord
import Derived.RangeFuncLeaves
import Derived.IntWalk
import Derived.ProofKit
import Derived.OpenShut
import Derived.Carry
import Derived.Test.YtkcdbcbpbolgkaaGreatDoorProg
import Derived.KernelRfl
import Derived.OwnWalkIn
import Derived.TacticsInMore
import Derived.LoopIn
import Derived.WalkKit

namespace Go.Proofs.YtkcdbcbpbolgkaaGreatDoor
open Go.Abs Go.RowKit
set_option linter.unusedSimpArgs false
set_option linter.unusedVariables false
theorem xbx (ro : Option Nat) : (Fw ro).round = ro := rfl
theorem xju (ro : Option Nat) (f : FuncId) : (Fw ro).fn f = True := rfl
theorem xby (ro : Option Nat) : (Fw ro).depth = none := rfl
attribute [local go_sem] xbx xju xby
def partsOf (r : List UInt8) : List (Nat × List UInt8) := if h : r.length > 22 then (1, r.take 22) :: partsOf (r.drop 22) else [(2, r)]
termination_by r.length
decreasing_by simp; omega
def qbr (p : Nat × List UInt8) : List D := [.int .u8 (p.1 : Nat), .sl 1 (qa p.2)]
theorem vi {r : List UInt8} (h : r.length > 22) : partsOf r = (1, r.take 22) :: partsOf (r.drop 22) := by rw [partsOf, dif_pos h]
theorem vj {r : List UInt8} (h : ¬ r.length > 22) : partsOf r = [(2, r)] := by rw [partsOf, dif_neg h]
theorem qji (r : List UInt8) : ∀ n, (0 < n → 22 * n < r.length) → (partsOf r).drop n = partsOf (r.drop (22 * n))
 | 0, _ => by simp
 | n + 1, h => by
  have h1 := h (by omega)
  have ih := qji r n (fun _ => by omega)
  rw [← List.drop_drop, ih, vi (by rw [List.length_drop]; omega), List.drop_succ_cons, List.drop_zero, List.drop_drop]
  rfl
theorem qr7 {r : List UInt8} {n : Nat} {p : Nat × List UInt8} {l : List (Nat × List UInt8)} (h : (partsOf r).drop n = p :: l) : ((partsOf r).map qbr)[n]? = some (qbr p) := by
 have : (partsOf r)[n]? = some p := by
  have := congrArg (fun l => l[0]?) h
  simpa using this
 rw [List.getElem?_map, this]; rfl
theorem qu7 {W : World} {b : Nat} {c : Array Value} {e : TypeId} {z : Nat × Nat} (v : Value) (h : W.heap[b]? = some (.cells c e z)) : (W.setCell ⟨b, 0, none⟩ v).heap[b]? = some (.cells (c.setIfInBounds 0 v) e z) := by
 simp [World.setCell, Array.getElem?_modify, h]
theorem qr8 {W : World} {b k : Nat} (v : Value) (h : k ≠ b) : (W.setCell ⟨b, 0, none⟩ v).heap[k]? = W.heap[k]? := by
 simp [World.setCell, Array.getElem?_modify, Ne.symm h]
theorem q6w {g : Ghost} {w : World} {b off cap len : Nat} {r : List UInt8} (h : RV g w (.slice (some ⟨b, off, none⟩) len cap) (.sl 1 (qa r))) (n m c : Nat) (hn : n + m ≤ r.length) (hc : m ≤ c) (h0 : r ≠ []) :
  RV g w (.slice (some ⟨b, off + n, none⟩) m c) (.sl 1 (qa ((r.drop n).take m))) := by
 generalize hvd : qa r = rows at h
 have hne : rows ≠ [] := by rw [← hvd]; cases r <;> simp [qa] at h0 ⊢
 cases h with
 | nilsl => exact (hne rfl).elim
 | sl _ _ _ _ n0 o _ f hg hnn hcap hes hcl hcell hrv =>
 subst hvd
 have hfl : (qa ((r.drop n).take m)).flatten = (((qa r).flatten).drop n).take m := by simp only [qb1, List.map_take, List.map_drop]
 have hlen : (qa ((r.drop n).take m)).length = m := by rw [jn, List.length_take, List.length_drop]; omega
 have hsub : ∀ (j : Nat) (d : D), (qa ((r.drop n).take m)).flatten[j]? = some d → (qa r).flatten[n + j]? = some d := by
  intro j d hj
  rw [hfl, List.getElem?_take] at hj
  split at hj
  ·rwa [List.getElem?_drop] at hj
  ·cases hj
 have := RV.sl (g := g) (w := w) b (off + n) c 1 n0 o (qa ((r.drop n).take m)) (fun j => f (n + j)) hg (by
   rw [hfl, List.length_take, List.length_drop]
   have h1 : (qa r).flatten.length = r.length := by simp [qb1]
   rw [h1] at hnn ⊢
   omega) (by rw [hlen]; exact hc) (by intro x hx; obtain ⟨c, _, rfl⟩ := List.mem_map.1 hx; rfl) (by
   intro d hd
   obtain ⟨j, hj⟩ := List.getElem?_of_mem hd
   exact hcl d (List.mem_of_getElem? (hsub j d hj))) (fun j d hj => by rw [Nat.add_assoc]; exact hcell _ d (hsub j d hj)) (fun j d hj => hrv _ d (hsub j d hj))
 rwa [hlen] at this
set_option maxRecDepth 100000 in
set_option maxHeartbeats 1000000 in
theorem q3d (r : List UInt8) (hl : r.length ≤ 1000000000) : ASeq Tryz.prog 232 [.ptr 0 0] [.row [.d (.sl 1 (qa r))]] ((partsOf r).map qbr) := by
 refine ⟨by rw [Tryz.func232]; rfl, ?_⟩
 intro g w lb l J hd hlb hrv hobj hab hY h0
 match lb, hlb with
 | [v0], _ =>
 have hp := hrv 0 v0 _ rfl rfl
 cases hp with
 | ptr b _ _ hg =>
 obtain ⟨b', hb', hro⟩ := (hobj.objs 0 _ rfl (by simp)).resolve_right (fun h => by cases h.1)
 have : b' = b := hobj.inj b' b 0 hb' hg
 subst this
 obtain ⟨c, e, hh, hsz, hc⟩ := hro
 obtain ⟨v, hv0, _, hv⟩ := hc 0 _ rfl
 have hv : RV g w v (.sl 1 (qa r)) := hv
 refine callsIn_of_wp Tryz.func232 rfl trivial ?_ rfl
 simp only [Tryz.ntmps232, List.size_toArray, List.length_cons, List.length_nil, Nat.reduceAdd, Nat.reduceSub, Array.replicate_succ, Array.replicate_zero, List.push_toArray, List.append_toArray, List.nil_append, List.cons_append]
 generalize hvd : qa r = rows at hv
 cases hv with
 | nilsl a cc _ hn =>
  have hr0 : r = [] := by cases r <;> simp [qa] at hvd ⊢
  subst hr0
  have hsp : (partsOf []).drop 0 = [(2, [])] := by rw [List.drop_zero, vj (by simp)]
  refine wpIn_seq (wpIn_block ?_)
  refine qgv (fun m a W => (∃ t3 t4 t5 t6 t7 t8 t9 t10 t11 t12 t13 t14 t15, a = { tmps := #[.func (.yield l) #[] #[], .pointer (some ⟨b', 0, none⟩), undef, t3, t4, t5, t6, t7, t8, t9, t10, t11, t12, t13, t14, t15], defers := [] }) ∧ W.heap[b']? = some (.cells c e (0, 0)) ∧ J 0 W) (n0 := 0)
   ⟨⟨_, _, _, _, _, _, _, _, _, _, _, _, _, rfl⟩, hh, h0⟩ ?_
  rintro m ac W ⟨⟨t3, t4, t5, t6, t7, t8, t9, t10, t11, t12, t13, t14, t15, rfl⟩, hhW, hJ⟩
  have hcW : W.cell? ⟨b', 0, none⟩ = some (.slice a 0 cc) := by simp [World.cell?, hhW, hv0]
  have hfW : W.frozen? ⟨b', 0, none⟩ = false := by simp [World.frozen?, hhW]
  obtain ⟨fn, tmps, assign, body, hy, hR⟩ := hY 0 _ [.int .u8 2, .slice a 0 cc] W (qr7 hsp) hJ rfl (by
   intro i v d hi hd
   match i with
   | 0 => simp [qbr] at hi hd; subst hi; subst hd; exact .int _ _
   | 1 => simp [qbr] at hi hd; subst hi; subst hd; exact .nilsl a cc 1 hn
   | i + 2 => simp at hi)
  gi_wp2
  refine hR.mono ?_
  rintro e1 W1 ⟨rfl, hJ1, hk1⟩
  gi_wp2
  go_end0
  have hln : (partsOf []).length = 1 := by have := congrArg List.length hsp; simpa using this
  exact ⟨⟨_, rfl⟩, by rw [List.length_map, hln]; exact hJ1⟩
 | sl bb off cap _ n0 o _ f hgb hnn hcap hes hcl hcell hrvv =>
 subst hvd
 have hv : RV g w (.slice (some ⟨bb, off, none⟩) (qa r).length cap) (.sl 1 (qa r)) := hv
 refine wpIn_seq (wpIn_block ?_)
 refine qgv (fun m a W => ∃ n, m = r.length - 22 * n ∧ 22 * n ≤ r.length ∧ (0 < n → 22 * n < r.length) ∧ (∃ t3 t4 t5 t6 t7 t8 t9 t10 t11 t12 t13 t14 t15, a = { tmps := #[.func (.yield l) #[] #[], .pointer (some ⟨b', 0, none⟩), undef, t3, t4, t5, t6, t7, t8, t9, t10, t11, t12, t13, t14, t15], defers := [] }) ∧
  W.heap[b']? = some (.cells (c.setIfInBounds 0 (.slice (some ⟨bb, off + 22 * n, none⟩) (r.length - 22 * n) (cap - 22 * n))) e (0, 0)) ∧ J n W) (n0 := r.length) ⟨0, by omega, by omega, by omega, ⟨_, _, _, _, _, _, _, _, _, _, _, _, _, rfl⟩, ?_, h0⟩ ?_
 ·rw [jn] at hv0
  rw [hh, show off + 22 * 0 = off by omega, show r.length - 22 * 0 = r.length by omega, show cap - 22 * 0 = cap by omega]
  congr 2
  apply Array.ext
  ·simp
  ·intro i h1 h2
   rw [Array.getElem_setIfInBounds]
   split
   ·rename_i h; subst h; simpa [Array.getElem?_eq_getElem h1] using hv0
   ·rfl
 rintro m a W ⟨n, rfl, hn1, hn2, ⟨t3, t4, t5, t6, t7, t8, t9, t10, t11, t12, t13, t14, t15, rfl⟩, hhW, hJ⟩
 have hcW : W.cell? ⟨b', 0, none⟩ = some (.slice (some ⟨bb, off + 22 * n, none⟩) (r.length - 22 * n) (cap - 22 * n)) := by
  have : 0 < c.size := by simp at hsz; omega
  simp [World.cell?, hhW, this]
 have hfW : W.frozen? ⟨b', 0, none⟩ = false := by simp [World.frozen?, hhW]
 by_cases hmore : r.length - 22 * n > 22
 ·have hmi : ((r.length - 22 * n : Nat) : Int) > 22 := by omega
  have hlc : r.length ≤ cap := by simpa [jn] using hcap
  have hci : (22 : Int) ≤ ((cap - 22 * n : Nat) : Int) := by omega
  have hci2 : (22 : Int) ≤ ((r.length - 22 * n : Nat) : Int) := by omega
  have hci3 : ((r.length - 22 * n : Nat) : Int) ≤ ((cap - 22 * n : Nat) : Int) := by omega
  have hsp : (partsOf r).drop n = (1, (r.drop (22 * n)).take 22) :: partsOf ((r.drop (22 * n)).drop 22) := by rw [qji r n hn2, vi (by rw [List.length_drop]; exact hmore)]
  obtain ⟨fn, tmps, assign, body, hy, hR⟩ := hY n _ [.int .u8 1, .slice (some ⟨bb, off + 22 * n, none⟩) 22 (cap - 22 * n)] W (qr7 hsp) hJ rfl (by
   intro i v d hi hd
   match i with
   | 0 => simp [qbr] at hi hd; subst hi; subst hd; exact .int _ _
   | 1 => simp [qbr] at hi hd; subst hi; subst hd; exact q6w hv (22 * n) 22 _ (by omega) (by omega) (by intro h; rw [h] at hmore; simp at hmore)
   | i + 2 => simp at hi)
  gi_wp2
  refine hR.mono ?_
  rintro e1 W1 ⟨rfl, hJ1, hk1⟩
  have hhW1 := (hk1 b' 0 hg).trans hhW
  have hcW1 : W1.cell? ⟨b', 0, none⟩ = some (.slice (some ⟨bb, off + 22 * n, none⟩) (r.length - 22 * n) (cap - 22 * n)) := by
   have : 0 < c.size := by simp at hsz; omega
   simp [World.cell?, hhW1, this]
  have hfW1 : W1.frozen? ⟨b', 0, none⟩ = false := by simp [World.frozen?, hhW1]
  gi_wp2
  refine ⟨_, ?_, n + 1, rfl, by omega, by omega, ⟨_, _, _, _, _, _, _, _, _, _, _, _, _, rfl⟩, ?_, ?_⟩
  ·omega
  ·rw [qu7 _ hhW1, Array.setIfInBounds_setIfInBounds]
   have e1 : off + 22 * n + 22 = off + 22 * (n + 1) := by omega
   have e2 : r.length - 22 * n - 22 = r.length - 22 * (n + 1) := by omega
   have e3 : cap - 22 * n - 22 = cap - 22 * (n + 1) := by omega
   rw [e1, e2, e3]
  ·refine hab (n + 1) W1 _ hJ1 rfl rfl rfl (by simp [World.setCell]) (fun k hk => qr8 _ (fun h => hk 0 (h ▸ hg)))
 ·have hmi : ¬ ((r.length - 22 * n : Nat) : Int) > 22 := by omega
  have hsp : (partsOf r).drop n = [(2, r.drop (22 * n))] := by rw [qji r n hn2, vj (by rw [List.length_drop]; exact hmore)]
  have hln : (partsOf r).length = n + 1 := by
   have := congrArg List.length hsp
   simp at this; omega
  obtain ⟨fn, tmps, assign, body, hy, hR⟩ := hY n _ [.int .u8 2, .slice (some ⟨bb, off + 22 * n, none⟩) (r.length - 22 * n) (cap - 22 * n)] W (qr7 hsp) hJ rfl (by
   intro i v d hi hd
   match i with
   | 0 => simp [qbr] at hi hd; subst hi; subst hd; exact .int _ _
   | 1 =>
    simp [qbr] at hi hd; subst hi; subst hd
    rcases Nat.eq_zero_or_pos n with rfl | hn0
    ·have e1 : cap - 22 * 0 = cap := by omega
     rw [e1]
     simpa [jn] using hv
    ·have h1 := hn2 hn0
     have := q6w hv (22 * n) (r.length - 22 * n) (cap - 22 * n) (by omega) (by
      have : r.length ≤ cap := by simpa [jn] using hcap
      omega) (by intro h; rw [h] at h1; simp at h1)
     rwa [List.take_of_length_le (by rw [List.length_drop]; omega)] at this
   | i + 2 => simp at hi)
  gi_wp2
  refine hR.mono ?_
  rintro e1 W1 ⟨rfl, hJ1, hk1⟩
  gi_wp2
  go_end0
  exact ⟨⟨_, rfl⟩, by rw [List.length_map, hln]; exact hJ1⟩
end Go.Proofs.YtkcdbcbpbolgkaaGreatDoor
namespace Go.Proofs.YtkcdbcbpbolgkaaGreatDoor
open Go.Abs
set_option linter.unusedSimpArgs false
noncomputable section
set_option maxRecDepth 100000
set_option linter.defProp false
def d160 := cut Tryz.prog Tryz.f160 news
@[go_sem] def E160 := qm d160
def F160 := fnC d160 follows Tryz.func160
def d88 := cut Tryz.prog Tryz.f88 news
@[go_sem] def E88 := qm d88
def F88 := fnC d88 follows Tryz.func88
end
theorem xbz (r : List UInt8) : qg Tryz.prog 160 [.d (.sl 1 (qa r))] [] (.d (.func (.func 232) [] [.ptr 0 0])) [.row [.d (.sl 1 (qa r))]] := by
 refine F160.go ?_
 try (refine ev ?_; try exact True.intro)
 exact ⟨_, rfl⟩
def xq (p : Nat × List UInt8) : List UInt8 := [UInt8.ofNat p.1, UInt8.ofNat p.2.length] ++ p.2 ++ List.replicate (22 - p.2.length) 0
def qdm (x : List UInt8 × Nat) (p : Nat × List UInt8) : List UInt8 × Nat := (x.1 ++ xq p ++ be8 (fnv x.2 (xq p)), fnv x.2 (xq p))
def kj (x : List UInt8 × Nat) (l : List (Nat × List UInt8)) : List UInt8 × Nat := l.foldl qdm x
def vm (file r : List UInt8) : List UInt8 := (kj (file, vl file) (partsOf r)).1
theorem ko : ∀ (n : Nat) (r : List UInt8), r.length ≤ n → ∀ p ∈ partsOf r, (p.1 = 1 ∨ p.1 = 2) ∧ p.2.length ≤ 22
 | n, r, hn => by
  intro p hp
  by_cases h : r.length > 22
  ·rw [vi h] at hp
   rcases List.mem_cons.1 hp with rfl | hp
   ·exact ⟨.inl rfl, by simp; omega⟩
   ·cases n with
    | zero => omega
    | succ n => exact ko n (r.drop 22) (by rw [List.length_drop]; omega) p hp
  ·rw [vj h] at hp
   have : p = (2, r) := by simpa using hp
   subst this
   exact ⟨.inr rfl, by simp only; omega⟩
theorem qm8 : ∀ (n : Nat) (r : List UInt8), r.length ≤ n → (partsOf r).length ≤ r.length + 1
 | n, r, hn => by
  by_cases h : r.length > 22
  ·rw [vi h]
   cases n with
   | zero => omega
   | succ n =>
    have := qm8 n (r.drop 22) (by rw [List.length_drop]; omega)
    rw [List.length_drop] at this
    rw [List.length_cons]
    omega
  ·rw [vj h]; simp
theorem wt {p : Nat × List UInt8} (h : p.2.length ≤ 22) : (xq p).length = 24 := by simp [xq]; omega
theorem qu8 (x : List UInt8 × Nat) (l : List (Nat × List UInt8)) (p : Nat × List UInt8) : kj x (l ++ [p]) = qdm (kj x l) p := by unfold kj; rw [List.foldl_append, List.foldl_cons, List.foldl_nil]
theorem qm9 (x : List UInt8 × Nat) : ∀ l : List (Nat × List UInt8), (∀ p ∈ l, p.2.length ≤ 22) → (kj x l).1.length = x.1.length + 32 * l.length := by
 intro l h
 induction l generalizing x with
 | nil => simp [kj]
 | cons p l ih =>
  have := ih (qdm x p) (fun q hq => h q (List.mem_cons_of_mem _ hq))
  have h1 := wt (h p List.mem_cons_self)
  have h2 : kj x (p :: l) = kj (qdm x p) l := rfl
  rw [h2, this, qdm]
  simp only [List.length_append, jz, h1, List.length_cons]
  omega
theorem q0i (file : List UInt8) : vl file < 18446744073709551616 := by
 unfold vl
 split
 ·omega
 ·have := qr6 8 (file.drop (file.length - 8)) (by rw [List.length_drop]; omega)
  have e : (256 : Nat) ^ 8 = 18446744073709551616 := by decide
  omega
theorem q3e (x : List UInt8 × Nat) (hx : x.2 < 18446744073709551616) (l : List (Nat × List UInt8)) : (kj x l).2 < 18446744073709551616 := by
 induction l generalizing x with
 | nil => exact hx
 | cons p l ih =>
  have h1 : (qdm x p).2 = fnv x.2 (xq p) := by rw [qdm]
  have h2 : (qdm x p).2 < 18446744073709551616 := by rw [h1]; exact qib hx _
  have h3 : kj x (p :: l) = kj (qdm x p) l := rfl
  rw [h3]; exact ih _ h2
theorem qyi {cs new : List ASlot} {off : Nat} (h : off + new.length ≤ cs.length) : y4 cs off new = cs.take off ++ new ++ cs.drop (off + new.length) := by
 apply List.ext_getElem?
 intro i
 rw [qc1 new cs off i h]
 split
 ·rename_i hi
  rw [List.append_assoc, List.getElem?_append_right (by rw [List.length_take]; omega), List.length_take, Nat.min_eq_left (by omega), List.getElem?_append_left (by omega)]
 ·rename_i hi
  rcases Nat.lt_or_ge i off with h1 | h1
  ·rw [List.append_assoc, List.getElem?_append_left (by rw [List.length_take]; omega), List.getElem?_take, if_pos h1]
  ·rw [List.getElem?_append_right (by simp only [List.length_append, List.length_take]; omega), List.getElem?_drop]
   congr 1
   simp only [List.length_append, List.length_take]; omega
theorem q3f (p : Nat × List UInt8) (h1 : p.1 = 1 ∨ p.1 = 2) (h2 : p.2.length ≤ 22) :
  y4 [ASlot.d (D.int .u8 (p.1 : Nat)), ASlot.d (D.int .u8 (IntKind.u8.wrap (p.2.length : Nat))), ASlot.d (D.int .u8 0), ASlot.d (D.int .u8 0), ASlot.d (D.int .u8 0), ASlot.d (D.int .u8 0), ASlot.d (D.int .u8 0), ASlot.d (D.int .u8 0), ASlot.d (D.int .u8 0), ASlot.d (D.int .u8 0), ASlot.d (D.int .u8 0), ASlot.d (D.int .u8 0), ASlot.d (D.int .u8 0), ASlot.d (D.int .u8 0), ASlot.d (D.int .u8 0), ASlot.d (D.int .u8 0), ASlot.d (D.int .u8 0), ASlot.d (D.int .u8 0), ASlot.d (D.int .u8 0), ASlot.d (D.int .u8 0), ASlot.d (D.int .u8 0), ASlot.d (D.int .u8 0), ASlot.d (D.int .u8 0), ASlot.d (D.int .u8 0)] 2 (List.map ASlot.d (List.take 22 (qa p.2)).flatten) = ((xq p).map k7).map ASlot.d := by
 have e1 : (List.take 22 (qa p.2)).flatten = p.2.map k7 := by rw [List.take_of_length_le (by rw [jn]; exact h2), qb1]
 have e2 : [ASlot.d (D.int .u8 (p.1 : Nat)), ASlot.d (D.int .u8 (IntKind.u8.wrap (p.2.length : Nat))), ASlot.d (D.int .u8 0), ASlot.d (D.int .u8 0), ASlot.d (D.int .u8 0), ASlot.d (D.int .u8 0), ASlot.d (D.int .u8 0), ASlot.d (D.int .u8 0), ASlot.d (D.int .u8 0), ASlot.d (D.int .u8 0), ASlot.d (D.int .u8 0), ASlot.d (D.int .u8 0), ASlot.d (D.int .u8 0), ASlot.d (D.int .u8 0), ASlot.d (D.int .u8 0), ASlot.d (D.int .u8 0), ASlot.d (D.int .u8 0), ASlot.d (D.int .u8 0), ASlot.d (D.int .u8 0), ASlot.d (D.int .u8 0), ASlot.d (D.int .u8 0), ASlot.d (D.int .u8 0), ASlot.d (D.int .u8 0), ASlot.d (D.int .u8 0)] = ([UInt8.ofNat p.1, UInt8.ofNat p.2.length] ++ List.replicate 22 0).map (fun c => ASlot.d (k7 c)) := by
  have a1 : ((p.1 : Nat) : Int) = ((UInt8.ofNat p.1).toNat : Int) := by rcases h1 with h | h <;> rw [h] <;> rfl
  have a2 := qr3 p.2.length
  rw [a1, a2]
  rfl
 rw [e1, e2, qyi (by simp; omega)]
 have a3 : ([UInt8.ofNat p.1, UInt8.ofNat p.2.length] ++ List.replicate 22 (0 : UInt8)).drop (2 + p.2.length) = List.replicate (22 - p.2.length) 0 := by
  rw [List.drop_append, List.drop_of_length_le (by simp), List.nil_append, List.drop_replicate]
  congr 1
  simp only [List.length_cons, List.length_nil]; omega
 rw [← List.map_take, ← List.map_drop, List.length_map, List.length_map, a3, xq]
 simp only [List.cons_append, List.nil_append, List.take_succ_cons, List.take_zero, List.map_cons, List.map_nil, List.map_append, List.map_map]
 rfl
theorem qu9 (h : Nat) : y4 [ASlot.d (D.int .u8 0), ASlot.d (D.int .u8 0), ASlot.d (D.int .u8 0), ASlot.d (D.int .u8 0), ASlot.d (D.int .u8 0), ASlot.d (D.int .u8 0), ASlot.d (D.int .u8 0), ASlot.d (D.int .u8 0)] 0 (((be8 h).map k7).map ASlot.d) = ((be8 h).map k7).map .d := rfl
theorem qyj (s : List UInt8) (n : Nat) : (List.take n (s.map k7)).all D.isCell = true := by rw [← List.map_take]; exact qg0 _
theorem qjj {os : List AObj} {id n : Nat} {s : List UInt8} (h : qe os id = (s.map k7).map .d) (hn : s.length = n) : y5 os id 0 1 n = qa s := by
 unfold y5
 rw [h, List.drop_zero, qpp, ← hn, qu6]
theorem q6x (a b c d : AObj) (l : List AObj) (s : List UInt8) (h : s.length = 24) : y5 (a :: b :: c :: d :: .row ((s.map k7).map .d) :: l) 4 0 1 24 = qa s := qjj rfl h
theorem q6y (a b c d e : AObj) (l : List AObj) (s : List UInt8) (h : s.length = 8) : y5 (a :: b :: c :: d :: e :: .row ((s.map k7).map .d) :: l) 5 0 1 8 = qa s := qjj rfl h
def Sapp (file r : List UInt8) (synced : Int) (k : Nat) : St :=
 ⟨[(2, true, .d (.ptr 0 0)), (4, true, .d (.ptr 1 0)), (5, true, .d (.int .i64 0)), (7, true, .d (.ptr 2 0)), (8, true, .d (.ptr 3 0))],
  [.row [.d (.sl 1 (qa file)), .d (.int .i64 synced)], .row [.d .nilsl, .d (.int .i64 0)], .row [.d (.int .u64 ((kj (file, vl file) ((partsOf r).take k)).2 : Nat))], .row [.own 0 1 (qa (kj (file, vl file) ((partsOf r).take k)).1)]], [0], 1⟩
def we (file : List UInt8) (synced : Int) : List D := [.sl 1 (qa file), .int .i64 synced]
theorem qva (file : List UInt8) (synced : Int) : D.noPtrL (we file synced) = true := by simp only [we, D.noPtrL, D.noPtr, zr, Bool.and_self]
attribute [go_sem] qva
set_option maxRecDepth 10000 in
theorem qic (file r : List UInt8) (synced : Int) (hf : file.length ≤ 100000000) (hr : r.length ≤ 2000) :
  qg Tryz.prog 88 [.d (.agg (we file synced)), .d (.sl 1 (qa r))] [] (.tup [.d (.agg (we (vm file r) synced)), .d (.int .i64 0)]) [] := by
 refine F88.goT ?_
 have hr0 : decide ((r.length : Int) > 2000) = false := by simp; omega
 try (refine ev1 @we.eq_1 ?_; try exact True.intro)
 try (refine ev1 @hr0 ?_; try exact True.intro)
 (repeat (with_reducible refine ob ?_)); refine no_ ?_
 try (refine ev ?_; try exact True.intro)
 (repeat (with_reducible refine ob ?_)); refine cl F159 (xfp file (by omega)) ?_
 try (refine ev ?_; try exact True.intro)
 (repeat (with_reducible refine ob ?_))
 refine clO [4] F160 (xbz r) ?_
 try (refine ev ?_; try exact True.intro)
 have hft : List.take (file.length - 0) (qa file) = qa file := List.take_of_length_le (by rw [jn]; omega)
 try (refine ev1 @hft ?_; try exact True.intro)
 refine xhl 232 [.ptr 0 0] [4] [.row [.d (.sl 1 (qa r))]] ((partsOf r).map qbr) (Sapp file r synced) [(2, true, .d (.ptr 0 0)), (4, true, .d (.ptr 1 0)), (5, true, .d (.int .i64 0)), (7, true, .d (.ptr 2 0)), (8, true, .d (.ptr 3 0))]
  (q3d r (by omega)) ?_ ?_ ?_ ?_ ?_ ?_
 ·try (refine ev4 @Sapp.eq_1 @List.take_zero.{0} @kj.eq_1 @List.foldl_nil.{0,0} ?_; try exact True.intro)
 ·intro k vs hk
  rw [List.getElem?_map, Option.map_eq_some_iff] at hk
  obtain ⟨p, hp, rfl⟩ := hk
  obtain ⟨p1, p2⟩ := ko _ r (Nat.le_refl _) p (List.mem_of_getElem? hp)
  obtain ⟨hk, hpk⟩ := List.getElem?_eq_some_iff.1 hp
  have htk : (partsOf r).take (k + 1) = (partsOf r).take k ++ [p] := by rw [List.take_succ_eq_append_getElem hk, hpk]
  have hh := q3e (file, vl file) (q0i file) ((partsOf r).take k)
  have hln : (kj (file, vl file) ((partsOf r).take k)).1.length ≤ 200000000 := by
   rw [qm9 _ _ (fun q hq => (ko _ r (Nat.le_refl _) q (List.mem_of_mem_take hq)).2), List.length_take]
   have := qm8 _ r (Nat.le_refl _)
   simp only; omega
  have h24 := wt p2
  generalize hx : kj (file, vl file) ((partsOf r).take k) = x at hh hln
  have hx1 : kj (file, vl file) ((partsOf r).take (k + 1)) = qdm x p := by rw [htk, qu8, hx]
  have hc := q3f p p1 p2
  have hck := q6t x.2 (xq p) hh (by omega)
  rw [h24] at hck
  try (refine ev5 @Sapp.eq_1 @qbr.eq_1 @hx @hx1 @hc ?_; try exact True.intro)
  (repeat (with_reducible refine ob ?_))
  refine clO [4] F161 hck ?_
  try simp only [qu9, qyj, q6x _ _ _ _ _ _ h24, q6y _ _ _ _ _ _ _ (jz _), jz, h24, xf, go_sem, Nat.reduceAdd, Nat.reduceMul, Nat.reduceSub, Nat.reduceEqDiff, Nat.reduceLT, Nat.reduceLeDiff, Nat.reduceBEq, reduceIte, reduceCtorEq, Int.reduceAdd, Int.reduceLT, Int.reduceLE, Int.reduceGT, Int.reduceGE, Int.reduceEq, Int.reduceNe, Int.reduceBEq, Int.reduceBNe, Int.reduceToNat, Int.reduceNeg]
  refine ⟨by omega, by omega, .weak ?_ (.refl _)⟩
  try (refine ev1 @qdm.eq_1 ?_; try exact True.intro)
 ·have hw : kj (file, vl file) (List.take (partsOf r).length (partsOf r)) = kj (file, vl file) (partsOf r) := by rw [List.take_length]
  try (refine ev3 @Sapp.eq_1 @hw @vm.eq_1 ?_; try exact True.intro)
 ·intro vs hvs
  obtain ⟨p, _, rfl⟩ := List.mem_map.1 hvs
  exact ⟨rfl, by simp [qbr, D.noPtrL, D.noPtr, zr]⟩
 ·try (refine ev ?_; try exact True.intro)
 ·intro k id hid
  have : id = 4 := by simpa using hid
  subst this
  rfl
end Go.Proofs.YtkcdbcbpbolgkaaGreatDoor
namespace Go.Proofs.YtkcdbcbpbolgkaaGreatDoor
open Go.Abs
set_option linter.unusedSimpArgs false
set_option linter.unusedVariables false
noncomputable section
set_option maxRecDepth 100000
set_option linter.defProp false
def d127 := cut Tryz.prog Tryz.f127 news
@[go_sem] def E127 := qm d127
def F127 := fnC d127 follows Tryz.func127
def d86 := cut Tryz.prog Tryz.f86 news
@[go_sem] def E86 := qm d86
def F86 := fnC d86 follows Tryz.func86
end
theorem wo (s : List UInt8) (hl : s.length ≤ 1000000000) : qg Tryz.prog 127 [.d (.sl 1 (qa s))] [] (.d (.sl 1 (qa s))) [] := by
 refine F127.go ?_
 try (refine ev ?_; try exact True.intro)
 refine qjf rfl rfl (fun b hb => ?_)
 try (refine ev ?_; try exact True.intro)
 (repeat (with_reducible refine ob ?_)); refine xk _ (fun h => ?_) (fun h => ?_)
 ·try (refine ev1 (hb h) ?_; try exact True.intro)
 ·try (refine ev ?_; try exact True.intro)
  omega
theorem q3g (w : World) (t : TypeId) (b : Nat) (es : Array MapEntry) (clock : Nat) (hb : w.heap[b]? = some (.map es clock)) :
  (callFunc 158 #[.iface t (.map (some b))]).run Tryz.prog w = .ok (.value (.iface t (.map (some w.heap.size)))) (w.alloc (.map es clock)) := by
 rw [run_callFunc_extern Tryz.func158 rfl (by kernel_rfl) (by kernel_rfl) (e := Extern.MapsClone.clone) (by kernel_rfl)]
 have e : Extern.MapsClone.clone #[.iface t (.map (some b))] = (getObj b >>= fun o => match o with
   | .map entries clock => (newObj (.map entries clock) >>= fun n => pure (.iface t (.map (some n))))
   | _ => stuck "maps.clone: a map expected") := rfl
 rw [e]
 simp [MapKept.run_getObj_map hb, Result.andThen]
set_option maxRecDepth 100000 in
set_option maxHeartbeats 1000000 in
theorem q6z (es : Ents) (c : Nat) : qg Tryz.prog 86 [.d (.map 0)] [.map es c] (.d (.map 1)) [.map es c, .map es c] := by
 intro g w vs hd hlen hv ho
 match vs, hlen with
 | [v0], _ =>
 have h0 := qkb (kz (zg (hv 0 v0 _ rfl rfl)))
 obtain ⟨b, rfl, hg⟩ := h0
 obtain ⟨b', hb', l, hh, hl, he⟩ := (ho.objs 0 _ rfl (by simp)).resolve_right (fun h => by cases h.1)
 have : b' = b := ho.inj b' b 0 hb' hg
 subst this
 go_enter Tryz.func86, Tryz.ntmps86
 have hcl := q3g w 178 b' l.toArray c hh
 have hbin : (binOp .eql 178 (.map (some b')) (.map none)).run Tryz.prog w = .ok (.bool false) w := by
  simp [binOp, qhq Tryz.underlying178]
 have hta : ∀ W, (Instr.typeAssert (.iface 178 (.map (some w.heap.size))) 20 178 false).run Tryz.prog W = .ok (.map (some w.heap.size)) W := fun W => by
  simp [Instr.typeAssert, run_underlying Tryz.underlying178]
 go_wp2_with (first | simp only [hbin, Result.andThen_ok] | simp only [hcl] | simp only [hta, Result.andThen_ok])
 go_ret
 have hs : SR 0 (fun _ => False) g w ⟨[], [.map es c, .none], [], 1⟩ { tmps := #[], defers := [] } := by
  refine ⟨hd, trivial, rfl, fun k v s h => by simp [Fr.get] at h, fun id o hid hn => ?_, ho.inj, fun b id hb => ?_, ⟨by simp, fun k s h => by simp [Fr.get] at h, fun id o hid s hs => ?_⟩⟩
  ·match id with
   | 0 => exact ho.objs 0 o hid hn
   | 1 => simp at hid; exact (hn hid.symm).elim
   | i + 2 => simp at hid
  ·obtain ⟨o, h1, h2⟩ := ho.ids b id hb
   refine ⟨o, ?_, h2⟩
   match id with
   | 0 => exact h1
   | i + 1 => simp at h1
  ·match id with
   | 0 => simp at hid; subst hid; simp [AObj.cells] at hs
   | 1 => simp at hid; subst hid; simp [AObj.cells] at hs
   | i + 2 => simp at hid
 obtain ⟨q1, q2⟩ := hs.newObjA (id := 1) (o := .map es c) (blk := .map l.toArray c) rfl (by simp) (fun hG hr _ => ⟨l, heap_alloc_new w _, hl, fun i e x h1 h2 => (he i e x h1 h2).mono hr⟩) (by simp [AObj.cells])
 refine ⟨_, _, [], rfl, q1, q2.dom, by simp [ASlot.toks], .map _ 1 (Ghost.at_same _ _ _), ⟨fun id o hid hn => q2.objs id o hid hn, q2.inj, fun b id hb => q2.ids b id hb⟩⟩
end Go.Proofs.YtkcdbcbpbolgkaaGreatDoor
namespace Go.Proofs.YtkcdbcbpbolgkaaGreatDoor
open Go.Abs
set_option linter.unusedSimpArgs false
set_option linter.unusedVariables false
abbrev KV := Nat × List UInt8 × List UInt8
structure Cont where
 l : List KV
 c : Nat
 deriving DecidableEq, Inhabited
def qcx (x : KV) : Nat × D × D := (x.1, .str x.2.1, .sl 1 (qa x.2.2))
def mapO (m : Cont) : AObj := .map (m.l.map qcx) m.c
def zb (k : List UInt8) (x : KV) : Bool := k == x.2.1
def mPut (k v : List UInt8) (m : Cont) : Cont := match m.l.findIdx? (zb k) with
 | some j => ⟨m.l.modify j fun e => (e.1, k, v), m.c⟩
 | none => ⟨m.l ++ [(m.c, k, v)], m.c + 1⟩
def mDel (k : List UInt8) (m : Cont) : Cont := match m.l.findIdx? (zb k) with
 | some j => ⟨m.l.eraseIdx j, m.c⟩
 | none => m
def mGet (k : List UInt8) (m : Cont) : Option (List UInt8) := (m.l.find? (zb k)).map (·.2.2)
theorem qg1 (k : List UInt8) (l : List KV) : (l.map qcx).findIdx? (qa0 (.str k)) = l.findIdx? (zb k) := by
 rw [List.findIdx?_map]; rfl
theorem q3h (k v : List UInt8) (m : Cont) : qlv (.str k) (.sl 1 (qa v)) m.c (m.l.map qcx) = (mPut k v m).l.map qcx := by
 unfold qlv mPut
 rw [qg1]
 cases h : m.l.findIdx? (zb k) with
 | none => simp [qcx]
 | some j =>
  simp only
  apply List.ext_getElem?
  intro i
  rw [List.getElem?_modify, List.getElem?_map, List.getElem?_map, List.getElem?_modify]
  cases m.l[i]? with
  | none => rfl
  | some x =>
   show some (if j = i then _ else _) = some (qcx (if j = i then _ else _))
   split <;> rfl
theorem qvb (k v : List UInt8) (m : Cont) : qdx (.str k) m.c (m.l.map qcx) = (mPut k v m).c := by
 unfold qdx mPut
 rw [qg1]
 cases m.l.findIdx? (zb k) <;> rfl
theorem q3i (k : List UInt8) (m : Cont) : qlw (.str k) (m.l.map qcx) = (mDel k m).l.map qcx := by
 unfold qlw mDel
 rw [qg1]
 cases m.l.findIdx? (zb k) with
 | none => rfl
 | some j =>
  simp only
  apply List.ext_getElem?
  intro i
  rw [List.getElem?_eraseIdx, List.getElem?_map, List.getElem?_map, List.getElem?_map, List.getElem?_eraseIdx]
  split <;> rfl
theorem xd1 (k : List UInt8) (m : Cont) : (mDel k m).c = m.c := by unfold mDel; split <;> rfl
theorem q3j (k : List UInt8) (l : List KV) : qj5 .str (.str k) (l.map qcx) = true := by
 simp only [qj5, KD.fit, Bool.true_and, List.all_map]
 exact List.all_eq_true.2 fun x _ => rfl
attribute [go_sem] q3j
def jp : Cont → List OpS → Cont × Bool
 | m, [] => (m, true)
 | m, o :: l => if o.del then jp (mDel o.key m) l else if (mPut o.key o.val m).l.length > 400 then (mPut o.key o.val m, false) else jp (mPut o.key o.val m) l
noncomputable section
set_option maxRecDepth 100000
set_option linter.defProp false
def d87 := cut Tryz.prog Tryz.f87 news
@[go_sem] def E87 := qm d87
def F87 := fnC d87 follows Tryz.func87
end
def qvc (m : Cont) (l : List OpS) (i : { i : Nat × Cont // i.1 ≤ l.length ∧ jp i.2 (l.drop i.1) = jp m l }) : St :=
 ⟨[(0, true, .d (.map 0)), (7, true, .d (.sl 3 (l.map qh))), (8, true, .d (.int .i64 l.length)), (9, true, .d (.int .i64 (i.val.1 : Nat)))], [mapO i.val.2], [], 1⟩
theorem q0j (m : Cont) (l : List OpS) (hl : l.length ≤ 100000) (hv : ∀ o ∈ l, o.val.length ≤ 1000000) : qg Tryz.prog 87 [.d (.map 0), .d (.sl 3 (l.map qh))] [mapO m] (.d (.bool (jp m l).2)) [mapO (jp m l).1] := by
 refine F87.go ?_
 try (refine ev1 @mapO.eq_1 ?_; try exact True.intro)
 refine qk (qvc m l) (fun i => l.length - i.val.1) ⟨(0, m), Nat.zero_le _, rfl⟩ ?_ (fun i => ?_)
 ·try (refine ev2 @qvc.eq_1 @mapO.eq_1 ?_; try exact True.intro)
 obtain ⟨⟨i, mi⟩, hi, ha⟩ := i
 simp only at hi ha
 try (refine ev2 @qvc.eq_1 @mapO.eq_1 ?_; try exact True.intro)
 refine xk _ (fun hc => ?_) (fun hc => ?_)
 ·have hil : i < l.length := by simpa using hc
  have hd : l.drop i = l[i] :: l.drop (i + 1) := List.drop_eq_getElem_cons hil
  rw [hd, jp] at ha
  try (refine ev2 (qi qh l hil) @qh.eq_1 ?_; try exact True.intro)
  (repeat (with_reducible refine ob ?_))
  (repeat (with_reducible refine ob ?_)); refine xk _ (fun h => ?_) (fun h => ?_)
  ·rw [if_pos h] at ha
   try (refine ev1 @q3i ?_; try exact True.intro)
   refine ⟨⟨(i + 1, mDel l[i].key mi), hil, ha⟩, ?_, by dsimp only; omega⟩
   try (refine ev4 @qvc.eq_1 @mapO.eq_1 @xd1 (qd (show i < 9223372036854775807 by omega)) ?_; try exact True.intro)
  ·rw [if_neg (by simp [h])] at ha
   try (refine ev ?_; try exact True.intro)
   (repeat (with_reducible refine ob ?_)); first | refine cl F127 (wo l[i].val (by have := hv l[i] (List.getElem_mem hil); omega)) ?_ | refine clF F127 (wo l[i].val (by have := hv l[i] (List.getElem_mem hil); omega)) (fun _ => by (refine ev1 @qh.eq_1 ?_; try exact True.intro)) ?_
   try simp only [q3h, qvb _ l[i].val, go_sem, Nat.reduceAdd, Nat.reduceMul, Nat.reduceSub, Nat.reduceEqDiff, Nat.reduceLT, Nat.reduceLeDiff, Nat.reduceBEq, reduceIte, reduceCtorEq, Int.reduceAdd, Int.reduceLT, Int.reduceLE, Int.reduceGT, Int.reduceGE, Int.reduceEq, Int.reduceNe, Int.reduceBEq, Int.reduceBNe, Int.reduceToNat, Int.reduceNeg]
   refine xk _ (fun h4 => ?_) (fun h4 => ?_)
   ·rw [if_pos (by simp at h4; omega)] at ha
    try (refine ev1 ha.symm ?_; try exact True.intro)
   ·rw [if_neg (by simp at h4; omega)] at ha
    try (refine ev ?_; try exact True.intro)
    refine ⟨⟨(i + 1, mPut l[i].key l[i].val mi), hil, ha⟩, ?_, by dsimp only; omega⟩
    try (refine ev3 @qvc.eq_1 @mapO.eq_1 (qd (show i < 9223372036854775807 by omega)) ?_; try exact True.intro)
 ·have hie : i = l.length := by simp at hc; omega
  subst hie
  rw [List.drop_length, jp] at ha
  try (refine ev1 ha.symm ?_; try exact True.intro)
end Go.Proofs.YtkcdbcbpbolgkaaGreatDoor
namespace Go.Proofs.YtkcdbcbpbolgkaaGreatDoor
open Go.Abs
set_option linter.unusedSimpArgs false
set_option linter.unusedVariables false
structure Sto where
 file : List UInt8
 synced : Int
 m : Cont
 deriving DecidableEq, Inhabited
def stoO (s : Sto) (id : Nat) : AObj := .row [.d (.sl 1 (qa s.file)), .d (.int .i64 s.synced), .d (.map id)]
def qet : Cont := ⟨[], 0⟩
def newS : Sto := ⟨[], 0, qet⟩
noncomputable section
set_option maxRecDepth 100000
set_option linter.defProp false
def d28 := cut Tryz.prog Tryz.f28 news
@[go_sem] def E28 := qm d28
def F28 := fnC d28 follows Tryz.func28
def d29 := cut Tryz.prog Tryz.f29 news
@[go_sem] def E29 := qm d29
def F29 := fnC d29 follows Tryz.func29
def d184 := cut Tryz.prog Tryz.f184 news
@[go_sem] def E184 := qm d184
def d62 := cut Tryz.prog Tryz.f62 news
@[go_sem] def E62 := qm d62
def d128 := cut Tryz.prog Tryz.f128 news
@[go_sem] def E128 := qm d128
def d61 := cut Tryz.prog Tryz.f61 news
@[go_sem] def E61 := qm d61
end
theorem xhy : qg Tryz.prog 28 [] [] (.d (.ptr 1 0)) [mapO qet, stoO newS 0] := by
 refine F28.go ?_
 try (refine ev6 @mapO.eq_1 @stoO.eq_1 @qet.eq_1 @newS.eq_1 @List.map_nil.{0,0} @xd ?_; try exact True.intro)
def xh (s : Sto) (l : List OpS) : Sto × Int :=
 if (qo l).2 ≠ 0 then (s, (qo l).2) else if (jp s.m l).2 = false then (s, 28) else (⟨vm s.file (qo l).1, s.synced, (jp s.m l).1⟩, 0)
def qid (s : Sto) (l : List OpS) : List AObj := if (xh s l).2 = 0 then [stoO (xh s l).1 2, mapO s.m, mapO (xh s l).1.m] else [stoO s 1, mapO s.m, .none]
theorem vn (l : List OpS) : (qo l).1.length ≤ 2000 := by
 unfold qo
 split
 ·simp
 ·split
  ·simp
  ·rename_i h
   simp only [Bool.or_eq_true, decide_eq_true_eq, not_or] at h
   simp only; omega
theorem ku {l : List OpS} (h : (qo l).2 = 0) : l.length ≤ 20 ∧ (∀ o ∈ l, jo o = true) ∧ qo l = (wOps l, 0) := by
 unfold qo at h ⊢
 split at h
 ·simp at h
 ·rename_i h1
  split at h
  ·simp at h
  ·rename_i h2
   rw [if_neg h1, if_neg h2]
   simp only [Bool.or_eq_true, decide_eq_true_eq, not_or, List.any_eq_true, not_exists, not_and] at h1 h2
   exact ⟨by omega, fun o ho => by simpa using h1.2 o ho, rfl⟩
set_option maxRecDepth 10000 in
theorem qvd (s : Sto) (l : List OpS) (hl : l.length ≤ 100000) (hf : s.file.length ≤ 100000000) :
  qg Tryz.prog 29 [.d (.ptr 0 0), .d (.sl 3 (l.map qh))] [stoO s 1, mapO s.m] (.d (.int .i64 (xh s l).2)) (qid s l) := by
 refine F29.go ?_
 try (refine ev2 @stoO.eq_1 @mapO.eq_1 ?_; try exact True.intro)
 (repeat (with_reducible refine ob ?_)); refine no_ ?_
 try (refine ev ?_; try exact True.intro)
 (repeat (with_reducible refine ob ?_)); first | refine cl F85 (qf2 l hl) ?_ | refine clF F85 (qf2 l hl) (fun _ => by (refine ev1 @qh.eq_1 ?_; try exact True.intro)) ?_
 try (refine ev ?_; try exact True.intro)
 (repeat (with_reducible refine ob ?_)); refine xk _ (fun h => ?_) (fun h => ?_)
 ·have hne : (qo l).2 ≠ 0 := by simpa using h
  have hb : xh s l = (s, (qo l).2) := by unfold xh; rw [if_pos hne]
  have hb2 : qid s l = [stoO s 1, mapO s.m, .none] := by unfold qid; rw [hb, if_neg hne]
  try (refine ev4 @hb @hb2 @stoO.eq_1 @mapO.eq_1 ?_; try exact True.intro)
 have he0 : (qo l).2 = 0 := by simpa using h
 obtain ⟨h20, hpr, henc⟩ := ku he0
 try (refine ev ?_; try exact True.intro)
 refine clO [1, 2] F86 (q6z (s.m.l.map qcx) s.m.c) ?_
 try (refine ev ?_; try exact True.intro)
 have hap := q0j s.m l hl (fun o ho => by have := (js.1 (hpr o ho)).2.2.1; omega)
 simp only [mapO] at hap
 (repeat (with_reducible refine ob ?_)); refine clO [2] F87 (hap) ?_ (hfit := by first | exact ⟨qc, trivial⟩ | exact ⟨qc, qc, trivial⟩ | (refine ev1 @qh.eq_1 ?_; try exact True.intro))
 try (refine ev ?_; try exact True.intro)
 (repeat (with_reducible refine ob ?_)); refine xk _ (fun h => ?_) (fun h => ?_)
 ·have hb : xh s l = (s, 28) := by unfold xh; rw [if_neg (by simp [he0]), if_pos (by simpa using h)]
  have hb2 : qid s l = [stoO s 1, mapO s.m, .none] := by unfold qid; rw [hb, if_neg (by simp)]
  try (refine ev4 @hb @hb2 @stoO.eq_1 @mapO.eq_1 ?_; try exact True.intro)
 have hb : xh s l = (⟨vm s.file (qo l).1, s.synced, (jp s.m l).1⟩, 0) := by unfold xh; rw [if_neg (by simp [he0]), if_neg (by simpa using h)]
 have hb2 : qid s l = [stoO (xh s l).1 2, mapO s.m, mapO (xh s l).1.m] := by unfold qid; rw [if_pos (by rw [hb])]
 try (refine ev ?_; try exact True.intro)
 (repeat (with_reducible refine ob ?_)); first | refine cl F88 (qic s.file (qo l).1 s.synced hf (vn l)) ?_ | refine clF F88 (qic s.file (qo l).1 s.synced hf (vn l)) (fun _ => by (refine ev1 @qh.eq_1 ?_; try exact True.intro)) ?_
 try (refine ev5 @we.eq_1 @hb2 @hb @stoO.eq_1 @mapO.eq_1 ?_; try exact True.intro)
end Go.Proofs.YtkcdbcbpbolgkaaGreatDoor
