/- Texts Wd, We, Va, Wf, Wg, Wh, Kb. -/
import Derived.Test.YtkcdbcbpbolgkaaGreatDoorMql
import Derived.OwnWalkIn
import Derived.TacticsInMore
import Derived.LoopIn
import Derived.WalkKit
set_option linter.unusedSimpArgs false
set_option linter.unusedVariables false
namespace Go.Proofs.YtkcdbcbpbolgkaaGreatDoor
open Go.Abs Go.RowKit
theorem qwh (ro : Option Nat) : (Fw ro).round = ro := rfl
theorem xnb (ro : Option Nat) (f : FuncId) : (Fw ro).fn f = True := rfl
theorem qwi (ro : Option Nat) : (Fw ro).depth = none := rfl
attribute [local go_sem] qwh xnb qwi
def partsOf (r : List UInt8) : List (Nat × List UInt8) := if h : r.length > 22 then (1, r.take 22) :: partsOf (r.drop 22) else [(2, r)]
termination_by r.length
decreasing_by simp; omega
def qdg (p : Nat × List UInt8) : List D := [.int .u8 (p.1 : Nat), .sl 1 (qd p.2)]
theorem yl {r : List UInt8} (h : r.length > 22) : partsOf r = (1, r.take 22) :: partsOf (r.drop 22) := by rw [partsOf, dif_pos h]
theorem ym {r : List UInt8} (h : ¬ r.length > 22) : partsOf r = [(2, r)] := by rw [partsOf, dif_neg h]
theorem ql9 (r : List UInt8) : ∀ n, (0 < n → 22 * n < r.length) → (partsOf r).drop n = partsOf (r.drop (22 * n))
 | 0, _ => by simp
 | n + 1, h => by
  have h1 := h (by omega)
  have ih := ql9 r n (fun _ => by omega)
  rw [← List.drop_drop, ih, yl (by rw [List.length_drop]; omega), List.drop_succ_cons, List.drop_zero, List.drop_drop]
  rfl
theorem qwj {r : List UInt8} {n : Nat} {p : Nat × List UInt8} {l : List (Nat × List UInt8)} (h : (partsOf r).drop n = p :: l) : ((partsOf r).map qdg)[n]? = some (qdg p) := by
 have : (partsOf r)[n]? = some p := by
  have := congrArg (fun l => l[0]?) h
  simpa using this
 rw [List.getElem?_map, this]; rfl
theorem qzv {W : World} {b : Nat} {c : Array Value} {e : TypeId} {z : Nat × Nat} (v : Value) (h : W.heap[b]? = some (.cells c e z)) : (W.setCell ⟨b, 0, none⟩ v).heap[b]? = some (.cells (c.setIfInBounds 0 v) e z) := by
 simp [World.setCell, Array.getElem?_modify, h]
theorem qwk {W : World} {b k : Nat} (v : Value) (h : k ≠ b) : (W.setCell ⟨b, 0, none⟩ v).heap[k]? = W.heap[k]? := by
 simp [World.setCell, Array.getElem?_modify, Ne.symm h]
theorem xc1 {g : Ghost} {w : World} {b off cap len : Nat} {r : List UInt8} (h : RV g w (.slice (some ⟨b, off, none⟩) len cap) (.sl 1 (qd r))) (n m c : Nat) (hn : n + m ≤ r.length) (hc : m ≤ c) (h0 : r ≠ []) :
  RV g w (.slice (some ⟨b, off + n, none⟩) m c) (.sl 1 (qd ((r.drop n).take m))) := by
 generalize hvd : qd r = rows at h
 have hne : rows ≠ [] := by rw [← hvd]; cases r <;> simp [qd] at h0 ⊢
 cases h with
 | nilsl => exact (hne rfl).elim
 | sl _ _ _ _ n0 o _ f hg hnn hcap hes hcl hcell hrv =>
 subst hvd
 have hfl : (qd ((r.drop n).take m)).flatten = (((qd r).flatten).drop n).take m := by simp only [qdy, List.map_take, List.map_drop]
 have hlen : (qd ((r.drop n).take m)).length = m := by rw [jq, List.length_take, List.length_drop]; omega
 have hsub : ∀ (j : Nat) (d : D), (qd ((r.drop n).take m)).flatten[j]? = some d → (qd r).flatten[n + j]? = some d := by
  intro j d hj
  rw [hfl, List.getElem?_take] at hj
  split at hj
  ·rwa [List.getElem?_drop] at hj
  ·cases hj
 have := RV.sl (g := g) (w := w) b (off + n) c 1 n0 o (qd ((r.drop n).take m)) (fun j => f (n + j)) hg (by
   rw [hfl, List.length_take, List.length_drop]
   have h1 : (qd r).flatten.length = r.length := by simp [qdy]
   rw [h1] at hnn ⊢
   omega) (by rw [hlen]; exact hc) (by intro x hx; obtain ⟨c, _, rfl⟩ := List.mem_map.1 hx; rfl) (by
   intro d hd
   obtain ⟨j, hj⟩ := List.getElem?_of_mem hd
   exact hcl d (List.mem_of_getElem? (hsub j d hj))) (fun j d hj => by rw [Nat.add_assoc]; exact hcell _ d (hsub j d hj)) (fun j d hj => hrv _ d (hsub j d hj))
 rwa [hlen] at this
set_option maxRecDepth 100000 in
set_option maxHeartbeats 1000000 in
theorem q8z (r : List UInt8) (hl : r.length ≤ 1000000000) : ASeq Tryz.prog 232 [.ptr 0 0] [.row [.d (.sl 1 (qd r))]] ((partsOf r).map qdg) := by
 refine ⟨by rw [Tryz.func232]; rfl, ?_⟩
 intro g w lb l J hd hlb hrv hobj hab hY h0
 match lb, hlb with
 | [v0], _ =>
 have hp := hrv 0 v0 _ rfl rfl
 cases hp with
 | ptr b _ _ hg =>
 obtain ⟨b', hb', hro⟩ := (hobj.objs 0 _ rfl (by simp)).resolve_right (fun h => by cases h.1)
 have : b' = b := hobj.inj b' b 0 hb' hg
 subst this
 obtain ⟨c, e, hh, hsz, hc⟩ := hro
 obtain ⟨v, hv0, _, hv⟩ := hc 0 _ rfl
 have hv : RV g w v (.sl 1 (qd r)) := hv
 refine callsIn_of_wp Tryz.func232 rfl trivial ?_ rfl
 simp only [Tryz.ntmps232, List.size_toArray, List.length_cons, List.length_nil, Nat.reduceAdd, Nat.reduceSub, Array.replicate_succ, Array.replicate_zero, List.push_toArray, List.append_toArray, List.nil_append, List.cons_append]
 generalize hvd : qd r = rows at hv
 cases hv with
 | nilsl a cc _ hn =>
  have hr0 : r = [] := by cases r <;> simp [qd] at hvd ⊢
  subst hr0
  have hsp : (partsOf []).drop 0 = [(2, [])] := by rw [List.drop_zero, ym (by simp)]
  refine wpIn_seq (wpIn_block ?_)
  refine qcr (fun m a W => (∃ t3 t4 t5 t6 t7 t8 t9 t10 t11 t12 t13 t14 t15, a = { tmps := #[.func (.yield l) #[] #[], .pointer (some ⟨b', 0, none⟩), undef, t3, t4, t5, t6, t7, t8, t9, t10, t11, t12, t13, t14, t15], defers := [] }) ∧ W.heap[b']? = some (.cells c e (0, 0)) ∧ J 0 W) (n0 := 0)
   ⟨⟨_, _, _, _, _, _, _, _, _, _, _, _, _, rfl⟩, hh, h0⟩ ?_
  rintro m ac W ⟨⟨t3, t4, t5, t6, t7, t8, t9, t10, t11, t12, t13, t14, t15, rfl⟩, hhW, hJ⟩
  have hcW : W.cell? ⟨b', 0, none⟩ = some (.slice a 0 cc) := by simp [World.cell?, hhW, hv0]
  have hfW : W.frozen? ⟨b', 0, none⟩ = false := by simp [World.frozen?, hhW]
  obtain ⟨fn, tmps, assign, body, hy, hR⟩ := hY 0 _ [.int .u8 2, .slice a 0 cc] W (qwj hsp) hJ rfl (by
   intro i v d hi hd
   match i with
   | 0 => simp [qdg] at hi hd; subst hi; subst hd; exact .int _ _
   | 1 => simp [qdg] at hi hd; subst hi; subst hd; exact .nilsl a cc 1 hn
   | i + 2 => simp at hi)
  gi_wp2
  refine hR.mono ?_
  rintro e1 W1 ⟨rfl, hJ1, hk1⟩
  gi_wp2
  go_end0
  have hln : (partsOf []).length = 1 := by have := congrArg List.length hsp; simpa using this
  exact ⟨⟨_, rfl⟩, by rw [List.length_map, hln]; exact hJ1⟩
 | sl bb off cap _ n0 o _ f hgb hnn hcap hes hcl hcell hrvv =>
 subst hvd
 have hv : RV g w (.slice (some ⟨bb, off, none⟩) (qd r).length cap) (.sl 1 (qd r)) := hv
 refine wpIn_seq (wpIn_block ?_)
 refine qcr (fun m a W => ∃ n, m = r.length - 22 * n ∧ 22 * n ≤ r.length ∧ (0 < n → 22 * n < r.length) ∧ (∃ t3 t4 t5 t6 t7 t8 t9 t10 t11 t12 t13 t14 t15, a = { tmps := #[.func (.yield l) #[] #[], .pointer (some ⟨b', 0, none⟩), undef, t3, t4, t5, t6, t7, t8, t9, t10, t11, t12, t13, t14, t15], defers := [] }) ∧
  W.heap[b']? = some (.cells (c.setIfInBounds 0 (.slice (some ⟨bb, off + 22 * n, none⟩) (r.length - 22 * n) (cap - 22 * n))) e (0, 0)) ∧ J n W) (n0 := r.length) ⟨0, by omega, by omega, by omega, ⟨_, _, _, _, _, _, _, _, _, _, _, _, _, rfl⟩, ?_, h0⟩ ?_
 ·rw [jq] at hv0
  rw [hh, show off + 22 * 0 = off by omega, show r.length - 22 * 0 = r.length by omega, show cap - 22 * 0 = cap by omega]
  congr 2
  apply Array.ext
  ·simp
  ·intro i h1 h2
   rw [Array.getElem_setIfInBounds]
   split
   ·rename_i h; subst h; simpa [Array.getElem?_eq_getElem h1] using hv0
   ·rfl
 rintro m a W ⟨n, rfl, hn1, hn2, ⟨t3, t4, t5, t6, t7, t8, t9, t10, t11, t12, t13, t14, t15, rfl⟩, hhW, hJ⟩
 have hcW : W.cell? ⟨b', 0, none⟩ = some (.slice (some ⟨bb, off + 22 * n, none⟩) (r.length - 22 * n) (cap - 22 * n)) := by
  have : 0 < c.size := by simp at hsz; omega
  simp [World.cell?, hhW, this]
 have hfW : W.frozen? ⟨b', 0, none⟩ = false := by simp [World.frozen?, hhW]
 by_cases hmore : r.length - 22 * n > 22
 ·have hmi : ((r.length - 22 * n : Nat) : Int) > 22 := by omega
  have hlc : r.length ≤ cap := by simpa [jq] using hcap
  have hci : (22 : Int) ≤ ((cap - 22 * n : Nat) : Int) := by omega
  have hci2 : (22 : Int) ≤ ((r.length - 22 * n : Nat) : Int) := by omega
  have hci3 : ((r.length - 22 * n : Nat) : Int) ≤ ((cap - 22 * n : Nat) : Int) := by omega
  have hsp : (partsOf r).drop n = (1, (r.drop (22 * n)).take 22) :: partsOf ((r.drop (22 * n)).drop 22) := by rw [ql9 r n hn2, yl (by rw [List.length_drop]; exact hmore)]
  obtain ⟨fn, tmps, assign, body, hy, hR⟩ := hY n _ [.int .u8 1, .slice (some ⟨bb, off + 22 * n, none⟩) 22 (cap - 22 * n)] W (qwj hsp) hJ rfl (by
   intro i v d hi hd
   match i with
   | 0 => simp [qdg] at hi hd; subst hi; subst hd; exact .int _ _
   | 1 => simp [qdg] at hi hd; subst hi; subst hd; exact xc1 hv (22 * n) 22 _ (by omega) (by omega) (by intro h; rw [h] at hmore; simp at hmore)
   | i + 2 => simp at hi)
  gi_wp2
  refine hR.mono ?_
  rintro e1 W1 ⟨rfl, hJ1, hk1⟩
  have hhW1 := (hk1 b' 0 hg).trans hhW
  have hcW1 : W1.cell? ⟨b', 0, none⟩ = some (.slice (some ⟨bb, off + 22 * n, none⟩) (r.length - 22 * n) (cap - 22 * n)) := by
   have : 0 < c.size := by simp at hsz; omega
   simp [World.cell?, hhW1, this]
  have hfW1 : W1.frozen? ⟨b', 0, none⟩ = false := by simp [World.frozen?, hhW1]
  gi_wp2
  refine ⟨_, ?_, n + 1, rfl, by omega, by omega, ⟨_, _, _, _, _, _, _, _, _, _, _, _, _, rfl⟩, ?_, ?_⟩
  ·omega
  ·rw [qzv _ hhW1, Array.setIfInBounds_setIfInBounds]
   have e1 : off + 22 * n + 22 = off + 22 * (n + 1) := by omega
   have e2 : r.length - 22 * n - 22 = r.length - 22 * (n + 1) := by omega
   have e3 : cap - 22 * n - 22 = cap - 22 * (n + 1) := by omega
   rw [e1, e2, e3]
  ·refine hab (n + 1) W1 _ hJ1 rfl rfl rfl (by simp [World.setCell]) (fun k hk => qwk _ (fun h => hk 0 (h ▸ hg)))
 ·have hmi : ¬ ((r.length - 22 * n : Nat) : Int) > 22 := by omega
  have hsp : (partsOf r).drop n = [(2, r.drop (22 * n))] := by rw [ql9 r n hn2, ym (by rw [List.length_drop]; exact hmore)]
  have hln : (partsOf r).length = n + 1 := by
   have := congrArg List.length hsp
   simp at this; omega
  obtain ⟨fn, tmps, assign, body, hy, hR⟩ := hY n _ [.int .u8 2, .slice (some ⟨bb, off + 22 * n, none⟩) (r.length - 22 * n) (cap - 22 * n)] W (qwj hsp) hJ rfl (by
   intro i v d hi hd
   match i with
   | 0 => simp [qdg] at hi hd; subst hi; subst hd; exact .int _ _
   | 1 =>
    simp [qdg] at hi hd; subst hi; subst hd
    rcases Nat.eq_zero_or_pos n with rfl | hn0
    ·have e1 : cap - 22 * 0 = cap := by omega
     rw [e1]
     simpa [jq] using hv
    ·have h1 := hn2 hn0
     have := xc1 hv (22 * n) (r.length - 22 * n) (cap - 22 * n) (by omega) (by
      have : r.length ≤ cap := by simpa [jq] using hcap
      omega) (by intro h; rw [h] at h1; simp at h1)
     rwa [List.take_of_length_le (by rw [List.length_drop]; omega)] at this
   | i + 2 => simp at hi)
  gi_wp2
  refine hR.mono ?_
  rintro e1 W1 ⟨rfl, hJ1, hk1⟩
  gi_wp2
  go_end0
  exact ⟨⟨_, rfl⟩, by rw [List.length_map, hln]; exact hJ1⟩
end Go.Proofs.YtkcdbcbpbolgkaaGreatDoor
namespace Go.Proofs.YtkcdbcbpbolgkaaGreatDoor
open Go.Abs
noncomputable section
set_option maxRecDepth 100000
set_option linter.defProp false
def d160 := cut Tryz.prog Tryz.f160 news
@[go_sem] def E160 := ql d160
def F160 := fnC d160 follows Tryz.func160
def d88 := cut Tryz.prog Tryz.f88 news
@[go_sem] def E88 := ql d88
def F88 := fnC d88 follows Tryz.func88
end
theorem xii (r : List UInt8) : qg Tryz.prog 160 [.d (.sl 1 (qd r))] [] (.d (.func (.func 232) [] [.ptr 0 0])) [.row [.d (.sl 1 (qd r))]] := by
 refine F160.go ?_
 try (refine ev ?_; try exact True.intro)
 exact ⟨_, rfl⟩
def jl (p : Nat × List UInt8) : List UInt8 := [UInt8.ofNat p.1, UInt8.ofNat p.2.length] ++ p.2 ++ List.replicate (22 - p.2.length) 0
def qf2 (x : List UInt8 × Nat) (p : Nat × List UInt8) : List UInt8 × Nat := (x.1 ++ jl p ++ be8 (fnv x.2 (jl p)), fnv x.2 (jl p))
def wg (x : List UInt8 × Nat) (l : List (Nat × List UInt8)) : List UInt8 × Nat := l.foldl qf2 x
def yr (file r : List UInt8) : List UInt8 := (wg (file, qby file) (partsOf r)).1
theorem qbm : ∀ (n : Nat) (r : List UInt8), r.length ≤ n → ∀ p ∈ partsOf r, (p.1 = 1 ∨ p.1 = 2) ∧ p.2.length ≤ 22
 | n, r, hn => by
  intro p hp
  by_cases h : r.length > 22
  ·rw [yl h] at hp
   rcases List.mem_cons.1 hp with rfl | hp
   ·exact ⟨.inl rfl, by simp; omega⟩
   ·cases n with
    | zero => omega
    | succ n => exact qbm n (r.drop 22) (by rw [List.length_drop]; omega) p hp
  ·rw [ym h] at hp
   have : p = (2, r) := by simpa using hp
   subst this
   exact ⟨.inr rfl, by simp only; omega⟩
theorem qqr : ∀ (n : Nat) (r : List UInt8), r.length ≤ n → (partsOf r).length ≤ r.length + 1
 | n, r, hn => by
  by_cases h : r.length > 22
  ·rw [yl h]
   cases n with
   | zero => omega
   | succ n =>
    have := qqr n (r.drop 22) (by rw [List.length_drop]; omega)
    rw [List.length_drop] at this
    rw [List.length_cons]
    omega
  ·rw [ym h]; simp
theorem qeb {p : Nat × List UInt8} (h : p.2.length ≤ 22) : (jl p).length = 24 := by simp [jl]; omega
theorem qzw (x : List UInt8 × Nat) (l : List (Nat × List UInt8)) (p : Nat × List UInt8) : wg x (l ++ [p]) = qf2 (wg x l) p := by unfold wg; rw [List.foldl_append, List.foldl_cons, List.foldl_nil]
theorem qqs (x : List UInt8 × Nat) : ∀ l : List (Nat × List UInt8), (∀ p ∈ l, p.2.length ≤ 22) → (wg x l).1.length = x.1.length + 32 * l.length := by
 intro l h
 induction l generalizing x with
 | nil => simp [wg]
 | cons p l ih =>
  have := ih (qf2 x p) (fun q hq => h q (List.mem_cons_of_mem _ hq))
  have h1 := qeb (h p List.mem_cons_self)
  have h2 : wg x (p :: l) = wg (qf2 x p) l := rfl
  rw [h2, this, qf2]
  simp only [List.length_append, k9, h1, List.length_cons]
  omega
theorem q50 (file : List UInt8) : qby file < 18446744073709551616 := by
 unfold qby
 split
 ·omega
 ·have := qwd 8 (file.drop (file.length - 8)) (by rw [List.length_drop]; omega)
  have e : (256 : Nat) ^ 8 = 18446744073709551616 := by decide
  omega
theorem q80 (x : List UInt8 × Nat) (hx : x.2 < 18446744073709551616) (l : List (Nat × List UInt8)) : (wg x l).2 < 18446744073709551616 := by
 induction l generalizing x with
 | nil => exact hx
 | cons p l ih =>
  have h1 : (qf2 x p).2 = fnv x.2 (jl p) := by rw [qf2]
  have h2 : (qf2 x p).2 < 18446744073709551616 := by rw [h1]; exact qqo hx _
  have h3 : wg x (p :: l) = wg (qf2 x p) l := rfl
  rw [h3]; exact ih _ h2
theorem q3v {cs new : List ASlot} {off : Nat} (h : off + new.length ≤ cs.length) : qbg cs off new = cs.take off ++ new ++ cs.drop (off + new.length) := by
 apply List.ext_getElem?
 intro i
 rw [qe6 new cs off i h]
 split
 ·rename_i hi
  rw [List.append_assoc, List.getElem?_append_right (by rw [List.length_take]; omega), List.length_take, Nat.min_eq_left (by omega), List.getElem?_append_left (by omega)]
 ·rename_i hi
  rcases Nat.lt_or_ge i off with h1 | h1
  ·rw [List.append_assoc, List.getElem?_append_left (by rw [List.length_take]; omega), List.getElem?_take, if_pos h1]
  ·rw [List.getElem?_append_right (by simp only [List.length_append, List.length_take]; omega), List.getElem?_drop]
   congr 1
   simp only [List.length_append, List.length_take]; omega
theorem q81 (p : Nat × List UInt8) (h1 : p.1 = 1 ∨ p.1 = 2) (h2 : p.2.length ≤ 22) :
  qbg [ASlot.d (D.int .u8 (p.1 : Nat)), ASlot.d (D.int .u8 (IntKind.u8.wrap (p.2.length : Nat))), ASlot.d (D.int .u8 0), ASlot.d (D.int .u8 0), ASlot.d (D.int .u8 0), ASlot.d (D.int .u8 0), ASlot.d (D.int .u8 0), ASlot.d (D.int .u8 0), ASlot.d (D.int .u8 0), ASlot.d (D.int .u8 0), ASlot.d (D.int .u8 0), ASlot.d (D.int .u8 0), ASlot.d (D.int .u8 0), ASlot.d (D.int .u8 0), ASlot.d (D.int .u8 0), ASlot.d (D.int .u8 0), ASlot.d (D.int .u8 0), ASlot.d (D.int .u8 0), ASlot.d (D.int .u8 0), ASlot.d (D.int .u8 0), ASlot.d (D.int .u8 0), ASlot.d (D.int .u8 0), ASlot.d (D.int .u8 0), ASlot.d (D.int .u8 0)] 2 (List.map ASlot.d (List.take 22 (qd p.2)).flatten) = ((jl p).map ju).map ASlot.d := by
 have e1 : (List.take 22 (qd p.2)).flatten = p.2.map ju := by rw [List.take_of_length_le (by rw [jq]; exact h2), qdy]
 have e2 : [ASlot.d (D.int .u8 (p.1 : Nat)), ASlot.d (D.int .u8 (IntKind.u8.wrap (p.2.length : Nat))), ASlot.d (D.int .u8 0), ASlot.d (D.int .u8 0), ASlot.d (D.int .u8 0), ASlot.d (D.int .u8 0), ASlot.d (D.int .u8 0), ASlot.d (D.int .u8 0), ASlot.d (D.int .u8 0), ASlot.d (D.int .u8 0), ASlot.d (D.int .u8 0), ASlot.d (D.int .u8 0), ASlot.d (D.int .u8 0), ASlot.d (D.int .u8 0), ASlot.d (D.int .u8 0), ASlot.d (D.int .u8 0), ASlot.d (D.int .u8 0), ASlot.d (D.int .u8 0), ASlot.d (D.int .u8 0), ASlot.d (D.int .u8 0), ASlot.d (D.int .u8 0), ASlot.d (D.int .u8 0), ASlot.d (D.int .u8 0), ASlot.d (D.int .u8 0)] = ([UInt8.ofNat p.1, UInt8.ofNat p.2.length] ++ List.replicate 22 0).map (fun c => ASlot.d (ju c)) := by
  have a1 : ((p.1 : Nat) : Int) = ((UInt8.ofNat p.1).toNat : Int) := by rcases h1 with h | h <;> rw [h] <;> rfl
  have a2 := qwa p.2.length
  rw [a1, a2]
  rfl
 rw [e1, e2, q3v (by simp; omega)]
 have a3 : ([UInt8.ofNat p.1, UInt8.ofNat p.2.length] ++ List.replicate 22 (0 : UInt8)).drop (2 + p.2.length) = List.replicate (22 - p.2.length) 0 := by
  rw [List.drop_append, List.drop_of_length_le (by simp), List.nil_append, List.drop_replicate]
  congr 1
  simp only [List.length_cons, List.length_nil]; omega
 rw [← List.map_take, ← List.map_drop, List.length_map, List.length_map, a3, jl]
 simp only [List.cons_append, List.nil_append, List.take_succ_cons, List.take_zero, List.map_cons, List.map_nil, List.map_append, List.map_map]
 rfl
theorem qqt (h : Nat) : qbg [ASlot.d (D.int .u8 0), ASlot.d (D.int .u8 0), ASlot.d (D.int .u8 0), ASlot.d (D.int .u8 0), ASlot.d (D.int .u8 0), ASlot.d (D.int .u8 0), ASlot.d (D.int .u8 0), ASlot.d (D.int .u8 0)] 0 (((be8 h).map ju).map ASlot.d) = ((be8 h).map ju).map .d := rfl
theorem qqu (s : List UInt8) (n : Nat) : (List.take n (s.map ju)).all D.isCell = true := by rw [← List.map_take]; exact qjg _
theorem qic {os : List AObj} {id n : Nat} {s : List UInt8} (h : qh os id = (s.map ju).map .d) (hn : s.length = n) : qa6 os id 0 1 n = qd s := by
 unfold qa6
 rw [h, List.drop_zero, qtr, ← hn, qzr]
theorem xc2 (a b c d : AObj) (l : List AObj) (s : List UInt8) (h : s.length = 24) : qa6 (a :: b :: c :: d :: .row ((s.map ju).map .d) :: l) 4 0 1 24 = qd s := qic rfl h
theorem xc3 (a b c d e : AObj) (l : List AObj) (s : List UInt8) (h : s.length = 8) : qa6 (a :: b :: c :: d :: e :: .row ((s.map ju).map .d) :: l) 5 0 1 8 = qd s := qic rfl h
def Sapp (file r : List UInt8) (synced : Int) (k : Nat) : St :=
 ⟨[(2, true, .d (.ptr 0 0)), (4, true, .d (.ptr 1 0)), (5, true, .d (.int .i64 0)), (7, true, .d (.ptr 2 0)), (8, true, .d (.ptr 3 0))],
  [.row [.d (.sl 1 (qd file)), .d (.int .i64 synced)], .row [.d .nilsl, .d (.int .i64 0)], .row [.d (.int .u64 ((wg (file, qby file) ((partsOf r).take k)).2 : Nat))], .row [.own 0 1 (qd (wg (file, qby file) ((partsOf r).take k)).1)]], [0], 1⟩
def qao (file : List UInt8) (synced : Int) : List D := [.sl 1 (qd file), .int .i64 synced]
theorem qzx (file : List UInt8) (synced : Int) : D.noPtrL (qao file synced) = true := by simp only [qao, D.noPtrL, D.noPtr, y4, Bool.and_self]
attribute [go_sem] qzx
set_option maxRecDepth 10000 in
theorem qkr (file r : List UInt8) (synced : Int) (hf : file.length ≤ 100000000) (hr : r.length ≤ 2000) :
  qg Tryz.prog 88 [.d (.agg (qao file synced)), .d (.sl 1 (qd r))] [] (.tup [.d (.agg (qao (yr file r) synced)), .d (.int .i64 0)]) [] := by
 refine F88.goT ?_
 have hr0 : decide ((r.length : Int) > 2000) = false := by simp; omega
 try (refine ev1 @qao.eq_1 ?_; try exact True.intro)
 try (refine ev1 @hr0 ?_; try exact True.intro)
 (repeat (with_reducible refine ob ?_)); refine no_ ?_
 try (refine ev ?_; try exact True.intro)
 (repeat (with_reducible refine ob ?_)); refine cl F159 (xna file (by omega)) ?_
 try (refine ev ?_; try exact True.intro)
 (repeat (with_reducible refine ob ?_))
 refine clO [4] F160 (xii r) ?_
 try (refine ev ?_; try exact True.intro)
 have hft : List.take (file.length - 0) (qd file) = qd file := List.take_of_length_le (by rw [jq]; omega)
 try (refine ev1 @hft ?_; try exact True.intro)
 refine xp4 232 [.ptr 0 0] [4] [.row [.d (.sl 1 (qd r))]] ((partsOf r).map qdg) (Sapp file r synced) [(2, true, .d (.ptr 0 0)), (4, true, .d (.ptr 1 0)), (5, true, .d (.int .i64 0)), (7, true, .d (.ptr 2 0)), (8, true, .d (.ptr 3 0))]
  (q8z r (by omega)) ?_ ?_ ?_ ?_ ?_ ?_
 ·try (refine ev4 @Sapp.eq_1 @List.take_zero.{0} @wg.eq_1 @List.foldl_nil.{0,0} ?_; try exact True.intro)
 ·intro k vs hk
  rw [List.getElem?_map, Option.map_eq_some_iff] at hk
  obtain ⟨p, hp, rfl⟩ := hk
  obtain ⟨p1, p2⟩ := qbm _ r (Nat.le_refl _) p (List.mem_of_getElem? hp)
  obtain ⟨hk, hpk⟩ := List.getElem?_eq_some_iff.1 hp
  have htk : (partsOf r).take (k + 1) = (partsOf r).take k ++ [p] := by rw [List.take_succ_eq_append_getElem hk, hpk]
  have hh := q80 (file, qby file) (q50 file) ((partsOf r).take k)
  have hln : (wg (file, qby file) ((partsOf r).take k)).1.length ≤ 200000000 := by
   rw [qqs _ _ (fun q hq => (qbm _ r (Nat.le_refl _) q (List.mem_of_mem_take hq)).2), List.length_take]
   have := qqr _ r (Nat.le_refl _)
   simp only; omega
  have h24 := qeb p2
  generalize hx : wg (file, qby file) ((partsOf r).take k) = x at hh hln
  have hx1 : wg (file, qby file) ((partsOf r).take (k + 1)) = qf2 x p := by rw [htk, qzw, hx]
  have hc := q81 p p1 p2
  have hck := xcx x.2 (jl p) hh (by omega)
  rw [h24] at hck
  try (refine ev5 @Sapp.eq_1 @qdg.eq_1 @hx @hx1 @hc ?_; try exact True.intro)
  (repeat (with_reducible refine ob ?_))
  refine clO [4] F161 hck ?_
  try simp only [qqt, qqu, xc2 _ _ _ _ _ _ h24, xc3 _ _ _ _ _ _ _ (k9 _), k9, h24, xz, go_sem, Nat.reduceAdd, Nat.reduceMul, Nat.reduceSub, Nat.reduceEqDiff, Nat.reduceLT, Nat.reduceLeDiff, Nat.reduceBEq, reduceIte, reduceCtorEq, Int.reduceAdd, Int.reduceLT, Int.reduceLE, Int.reduceGT, Int.reduceGE, Int.reduceEq, Int.reduceNe, Int.reduceBEq, Int.reduceBNe, Int.reduceToNat, Int.reduceNeg]
  refine ⟨by omega, by omega, .weak ?_ (.refl _)⟩
  try (refine ev1 @qf2.eq_1 ?_; try exact True.intro)
 ·have hw : wg (file, qby file) (List.take (partsOf r).length (partsOf r)) = wg (file, qby file) (partsOf r) := by rw [List.take_length]
  try (refine ev3 @Sapp.eq_1 @hw @yr.eq_1 ?_; try exact True.intro)
 ·intro vs hvs
  obtain ⟨p, _, rfl⟩ := List.mem_map.1 hvs
  exact ⟨rfl, by simp [qdg, D.noPtrL, D.noPtr, y4]⟩
 ·try (refine ev ?_; try exact True.intro)
 ·intro k id hid
  have : id = 4 := by simpa using hid
  subst this
  rfl
end Go.Proofs.YtkcdbcbpbolgkaaGreatDoor
namespace Go.Proofs.YtkcdbcbpbolgkaaGreatDoor
open Go.Abs
noncomputable section
set_option maxRecDepth 100000
set_option linter.defProp false
def d306 := cut Tryz.prog Tryz.f306 news
@[go_sem] def E306 := ql d306
def F306 := fnC d306 follows Tryz.func306
def d329 := cut Tryz.prog Tryz.f329 news
@[go_sem] def E329 := ql d329
def F329 := fnC d329 follows Tryz.func329
def d307 := cut Tryz.prog Tryz.f307 news
@[go_sem] def E307 := ql d307
def F307 := fnC d307 follows Tryz.func307
def d297 := cut Tryz.prog Tryz.f297 news
@[go_sem] def E297 := ql d297
def F297 := fnC d297 follows Tryz.func297
def d296 := cut Tryz.prog Tryz.f296 news
@[go_sem] def E296 := ql d296
def F296 := fnC d296 follows Tryz.func296
def d305 := cut Tryz.prog Tryz.f305 news
@[go_sem] def E305 := ql d305
def F305 := fnC d305 follows Tryz.func305
def d255 := cut Tryz.prog Tryz.f255 news
@[go_sem] def E255 := ql d255
def F255 := fnC d255 follows Tryz.func255
end
theorem qcd {α : Type} (f : α → List UInt8) (k : Nat) : ∀ l : List α, (∀ x ∈ l, (f x).length ≤ k) → (l.flatMap f).length ≤ l.length * k
 | [], _ => by simp
 | x :: l, h => by
  have h1 := qcd f k l fun y hy => h y (by simp [hy])
  have h2 := h x (by simp)
  simp only [List.flatMap_cons, List.length_append, List.length_cons, Nat.succ_mul]; omega
def qma (l : List Int) : List UInt8 := wInt l.length ++ l.flatMap wInt
def q51 (b : List UInt8) (l : List Int) (i : Nat) : St :=
 ⟨[(0, true, .own 0 1 (qd (b ++ (wInt l.length ++ (l.take i).flatMap wInt)))), (11, true, .d (.sl 1 (l.map encI))), (12, true, .d (.int .i64 l.length)), (13, true, .d (.int .i64 (i : Nat)))], [], [0], 1⟩
theorem q3w (b : List UInt8) (l : List Int) (hb : b.length ≤ 100000000) (hl : l.length ≤ 1000) (hi : ∀ x ∈ l, I64 x) :
  qg Tryz.prog 306 [.own 0 1 (qd b), .d (.sl 1 (l.map encI))] [] (.own 0 1 (qd (b ++ qma l))) [] := by
 have hw := xt (x5 (n := l.length) (by omega))
 refine F306.go ?_
 try (refine ev ?_; try exact True.intro)
 refine clA F147 (kg b l.length (by omega) (x5 (by omega))) ?_
 try (refine ev ?_; try exact True.intro)
 refine qk (fun i : { i : Nat // i ≤ l.length } => q51 b l i.val) (fun i => l.length - i.val) ⟨0, Nat.zero_le _⟩ ?_ (fun i => ?_)
 ·try (refine ev5 @q51.eq_1 @List.take_zero.{0} @List.flatMap_nil.{0,0} @List.append_nil.{0} @Int.ofNat_zero ?_; try exact True.intro)
 obtain ⟨i, hi2⟩ := i
 try (refine ev1 @q51.eq_1 ?_; try exact True.intro)
 refine xq _ (fun hc => ?_) (fun hc => ?_)
 ·have hil : i < l.length := by simpa using hc
  have hfl := qcd wInt 10 (l.take i) fun x hx => xt (hi x (List.mem_of_mem_take hx))
  have htk : (l.take i).length ≤ i := by rw [List.length_take]; omega
  have hfl2 : ((l.take i).flatMap wInt).length ≤ 10000 := by omega
  have hsn := qf1 wInt l hil
  try (refine ev2 (qi encI l hil) @encI.eq_1 ?_; try exact True.intro)
  (repeat (with_reducible refine ob ?_))
  refine clA F147 (kg (b ++ (wInt l.length ++ (l.take i).flatMap wInt)) l[i] (by simp only [List.length_append]; omega) (hi _ (List.getElem_mem hil))) ?_
  try (refine ev ?_; try exact True.intro)
  refine ⟨⟨i + 1, hil⟩, ?_, by dsimp only; omega⟩
  try (refine ev4 @q51.eq_1 @hsn @List.append_assoc.{0} (qf (show i < 9223372036854775807 by omega)) ?_; try exact True.intro)
 ·have hie : i = l.length := by
   have : l.length ≤ i := by simpa using hc
   omega
  subst hie
  try (refine ev2 @List.take_length.{0} @qma.eq_1 ?_; try exact True.intro)
def wAV (v : AV) : List UInt8 := wInt v.kind ++ (if v.kind = 1 then wInt v.n else if v.kind = 2 then qa8 v.s else [])
def AV.Sm (v : AV) : Prop := I64 v.kind ∧ I64 v.n ∧ v.s.length ≤ 1000000
theorem xc4 {v : AV} (h : v.Sm) : (wAV v).length ≤ 1000020 := by
 obtain ⟨h1, h2, h3⟩ := h
 have a1 := xt h1
 have a2 := xt h2
 have a3 := qeq v.s (by omega)
 unfold wAV
 rw [List.length_append]
 split
 ·omega
 ·split
  ·omega
  ·simp only [List.length_nil]; omega
theorem qzy (b : List UInt8) (v : AV) (hb : b.length ≤ 100000000) (hv : v.Sm) :
  qg Tryz.prog 329 [.own 0 1 (qd b), .d (.agg (xr v))] [] (.own 0 1 (qd (b ++ wAV v))) [] := by
 obtain ⟨h1, h2, h3⟩ := hv
 have a1 := xt h1
 refine F329.go ?_
 try (refine ev1 @xr.eq_1 ?_; try exact True.intro)
 refine clA F147 (kg b v.kind (by omega) h1) ?_
 try (refine ev ?_; try exact True.intro)
 refine xq _ (fun hc => ?_) (fun hc => ?_)
 ·have hk : v.kind = 1 := by simpa using hc
  have e : wAV v = wInt v.kind ++ wInt v.n := by rw [wAV, if_pos hk]
  try (refine ev ?_; try exact True.intro)
  refine clA F147 (kg (b ++ wInt v.kind) v.n (by rw [List.length_append]; omega) h2) ?_
  try (refine ev2 @e @List.append_assoc.{0} ?_; try exact True.intro)
 ·have hk : v.kind ≠ 1 := by simpa using hc
  try (refine ev ?_; try exact True.intro)
  refine xq _ (fun hd => ?_) (fun hd => ?_)
  ·have hk2 : v.kind = 2 := by simpa using hd
   have e : wAV v = wInt v.kind ++ qa8 v.s := by rw [wAV, if_neg hk, if_pos hk2]
   try (refine ev ?_; try exact True.intro)
   refine clA F157 (qjd (b ++ wInt v.kind) v.s (by rw [List.length_append]; omega)) ?_
   try (refine ev2 @e @List.append_assoc.{0} ?_; try exact True.intro)
  ·have hk2 : v.kind ≠ 2 := by simpa using hd
   have e : wAV v = wInt v.kind := by rw [wAV, if_neg hk, if_neg hk2, List.append_nil]
   try (refine ev1 @e ?_; try exact True.intro)
def wAVs (l : List AV) : List UInt8 := wInt l.length ++ l.flatMap wAV
def xij (b : List UInt8) (l : List AV) (i : Nat) : St :=
 ⟨[(0, true, .own 0 1 (qd (b ++ (wInt l.length ++ (l.take i).flatMap wAV)))), (11, true, .d (.sl 3 (l.map xr))), (12, true, .d (.int .i64 l.length)), (13, true, .d (.int .i64 (i : Nat)))], [], [0], 1⟩
theorem qwl (b : List UInt8) (l : List AV) (hb : b.length ≤ 10000000) (hl : l.length ≤ 50) (hi : ∀ x ∈ l, x.Sm) :
  qg Tryz.prog 307 [.own 0 1 (qd b), .d (.sl 3 (l.map xr))] [] (.own 0 1 (qd (b ++ wAVs l))) [] := by
 have hw := xt (x5 (n := l.length) (by omega))
 refine F307.go ?_
 try (refine ev ?_; try exact True.intro)
 refine clA F147 (kg b l.length (by omega) (x5 (by omega))) ?_
 try (refine ev ?_; try exact True.intro)
 refine qk (fun i : { i : Nat // i ≤ l.length } => xij b l i.val) (fun i => l.length - i.val) ⟨0, Nat.zero_le _⟩ ?_ (fun i => ?_)
 ·try (refine ev5 @xij.eq_1 @List.take_zero.{0} @List.flatMap_nil.{0,0} @List.append_nil.{0} @Int.ofNat_zero ?_; try exact True.intro)
 obtain ⟨i, hi2⟩ := i
 try (refine ev1 @xij.eq_1 ?_; try exact True.intro)
 refine xq _ (fun hc => ?_) (fun hc => ?_)
 ·have hil : i < l.length := by simpa using hc
  have hfl := qcd wAV 1000020 (l.take i) fun x hx => xc4 (hi x (List.mem_of_mem_take hx))
  have htk : (l.take i).length ≤ i := by rw [List.length_take]; omega
  have hfl2 : ((l.take i).flatMap wAV).length ≤ 60000000 := by omega
  have hsn := qf1 wAV l hil
  try (refine ev2 (qi xr l hil) @xr.eq_1 ?_; try exact True.intro)
  (repeat (with_reducible refine ob ?_))
  have hva := qzy (b ++ (wInt l.length ++ (l.take i).flatMap wAV)) l[i] (by simp only [List.length_append]; omega) (hi _ (List.getElem_mem hil))
  simp only [xr] at hva
  refine clA F329 hva ?_
  try (refine ev ?_; try exact True.intro)
  refine ⟨⟨i + 1, hil⟩, ?_, by dsimp only; omega⟩
  try (refine ev4 @xij.eq_1 @hsn @List.append_assoc.{0} (qf (show i < 9223372036854775807 by omega)) ?_; try exact True.intro)
 ·have hie : i = l.length := by
   have : l.length ≤ i := by simpa using hc
   omega
  subst hie
  try (refine ev2 @List.take_length.{0} @wAVs.eq_1 ?_; try exact True.intro)
theorem qol (s : List UInt8) (hl : s.length ≤ 1000000000) : qg Tryz.prog 297 [.d (.sl 1 (qd s))] [] (.d (.int .u64 (fnv 14695981039346656037 s : Nat))) [] := by
 have h0 := xcw 14695981039346656037 s (by decide) hl
 refine F297.go ?_
 try (refine ev ?_; try exact True.intro)
 (repeat (with_reducible refine ob ?_)); first | refine cl F233 (h0) ?_ | refine clF F233 (h0) (fun _ => by (refine ev3 @xr.eq_1 @encI.eq_1 @qe.eq_1 ?_; try exact True.intro)) ?_
 try (refine ev ?_; try exact True.intro)
def Seig (h : Nat) (i : { i : Nat // i ≤ 8 }) : St :=
 ⟨[(0, true, .d (.int .u64 (h : Nat))), (2, true, .d (.ptr 0 0)), (3, true, .d (.ptr 1 0)), (5, true, .d (.int .i64 (i.val : Nat)))], [.row ((List.replicate 8 (D.int .u8 0)).map .d), .row ((((be8 h).take i.val ++ List.replicate (8 - i.val) 0).map ju).map .d)], [], 1⟩
theorem qom (h : Nat) (hh : h < 18446744073709551616) : qg Tryz.prog 296 [.d (.int .u64 h)] [] (.d (.agg ((be8 h).map ju))) [] := by
 refine F296.go ?_
 try (refine ev ?_; try exact True.intro)
 refine qk (Seig h) (fun i => 8 - i.val) ⟨0, Nat.zero_le _⟩ ?_ (fun i => ?_)
 ·try (refine ev3 @Seig.eq_1 @List.take_zero.{0} @ql8 ?_; try exact True.intro)
 obtain ⟨i, hi⟩ := i
 try (refine ev1 @Seig.eq_1 ?_; try exact True.intro)
 refine xq _ (fun hc => ?_) (fun hc => ?_)
 ·have hil : i < 8 := by simp at hc; omega
  have e1 : IntKind.i64.wrap (7 - (i : Int)) = 7 - i := zk (by unfold I64; omega)
  have e2 : IntKind.i64.wrap (8 * (7 - (i : Int))) = 8 * (7 - i) := zk (by unfold I64; omega)
  have hlen := k9 h
  try simp only [Nat.mul_one, qwc _ _ hil, qdz, q3s _ hil, e1, e2, List.length_take, List.length_replicate, go_sem, Nat.reduceAdd, Nat.reduceMul, Nat.reduceSub, Nat.reduceEqDiff, Nat.reduceLT, Nat.reduceLeDiff, Nat.reduceBEq, reduceIte, reduceCtorEq, Int.reduceAdd, Int.reduceLT, Int.reduceLE, Int.reduceGT, Int.reduceGE, Int.reduceEq, Int.reduceNe, Int.reduceBEq, Int.reduceBNe, Int.reduceToNat, Int.reduceNeg]
  (repeat (with_reducible refine ob ?_))
  refine ⟨⟨i + 1, hil⟩, ?_, by dsimp only; omega⟩
  try (refine ev2 @Seig.eq_1 (qf (show i < 9223372036854775807 by omega)) ?_; try exact True.intro)
 ·have hie : i = 8 := by simp at hc; omega
  subst hie
  try (refine ev3 @q3t @be8.eq_1 @ju.eq_1 ?_; try exact True.intro)
def qhr (s : List UInt8) : List UInt8 := s ++ be8 (fnv 14695981039346656037 s)
theorem xc5 (s : List UInt8) (hl : s.length ≤ 100000000) : qg Tryz.prog 305 [.d (.sl 1 (qd s))] [] (.d (.sl 1 (qd (qhr s)))) [] := by
 have hlt := qqo (h := 14695981039346656037) (by decide) s
 refine F305.go ?_
 try (refine ev ?_; try exact True.intro)
 (repeat (with_reducible refine ob ?_)); first | refine cl F297 (qol s (by omega)) ?_ | refine clF F297 (qol s (by omega)) (fun _ => by (refine ev3 @xr.eq_1 @encI.eq_1 @qe.eq_1 ?_; try exact True.intro)) ?_
 try (refine ev ?_; try exact True.intro)
 have hw : IntKind.i64.wrap ((s.length : Int) + 8) = ((s.length + 8 : Nat) : Int) := by rw [zk (by unfold I64; omega)]; omega
 (repeat (with_reducible refine ob ?_)); first | refine cl F296 (qom _ hlt) ?_ | refine clF F296 (qom _ hlt) (fun _ => by (refine ev3 @xr.eq_1 @encI.eq_1 @qe.eq_1 ?_; try exact True.intro)) ?_
 generalize hh : fnv 14695981039346656037 s = h
 have hr : qa6 [AObj.row (((be8 h).map ju).map ASlot.d)] 0 0 1 8 = qd (be8 h) := qic rfl (k9 _)
 have h8 := k9 h
 have hs : qd s ++ qd (be8 h) = qd (qhr s) := by rw [xz, qhr, hh]
 try (refine ev6 @hw @qqt @qqu @k9 @hr @hs ?_; try exact True.intro)
 (repeat (with_reducible refine ob ?_))
 omega
def kx (p : Pk) : List Int := [p.kind, p.sess, p.epoch, p.from_, p.to, p.seq, p.label]
def yd (p : Pk) : List UInt8 := (kx p).flatMap wInt ++ wAVs p.values ++ qma p.clock
def qa9 (p : Pk) : List UInt8 × Int := if qj p then (qhr (yd p), 0) else ([], 1)
structure Pk.W (p : Pk) : Prop where
 h : ∀ x ∈ kx p, I64 x
 v : ∀ x ∈ p.values, x.Sm
 c : ∀ x ∈ p.clock, I64 x
def xik (p : Pk) (i : Nat) : St :=
 ⟨[(1, true, .d (.ptr 0 0)), (4, true, .own 0 1 (qd (((kx p).take i).flatMap wInt))), (24, true, .d (.sl 1 ((kx p).map encI))), (25, true, .d (.int .i64 7)), (26, true, .d (.int .i64 (i : Nat)))], [.row ((qe p).map .d)], [0], 1⟩
theorem qer {p : Pk} (h : qj p = true) : p.values.length ≤ 4 ∧ p.clock.length ≤ 6 := by
 unfold qj data ack order bare at h
 grind
set_option maxRecDepth 10000 in
theorem q82 (p : Pk) (hp : p.Sm) (hw : p.W) : qg Tryz.prog 255 [.d (.agg (qe p))] [] (.tup [.d (.sl 1 (qd (qa9 p).1)), .d (.int .i64 (qa9 p).2)]) [] := by
 refine F255.goT ?_
 try (refine ev1 @qe.eq_1 ?_; try exact True.intro)
 (repeat (with_reducible refine ob ?_)); first | refine cl F70 (zr p hp.v hp.c) ?_ | refine clF F70 (zr p hp.v hp.c) (fun _ => by (refine ev3 @xr.eq_1 @encI.eq_1 @qe.eq_1 ?_; try exact True.intro)) ?_
 try (refine ev ?_; try exact True.intro)
 (repeat (with_reducible refine ob ?_)); refine xq _ (fun h => ?_) (fun h => ?_)
 ·have hb : qa9 p = ([], 1) := by unfold qa9; rw [if_neg]; simpa using h
  try (refine ev2 @hb @qu ?_; try exact True.intro)
 have hv : qj p = true := by simpa using h
 have hb : qa9 p = (qhr (yd p), 0) := by unfold qa9; rw [if_pos hv]
 obtain ⟨f1, f2⟩ := qer hv
 try (refine ev ?_; try exact True.intro)
 refine qk (fun i : { i : Nat // i ≤ 7 } => xik p i.val) (fun i => 7 - i.val) ⟨0, Nat.zero_le _⟩ ?_ (fun i => ?_)
 ·try simp only [xik, List.take_zero, List.flatMap_nil, qu, Int.ofNat_zero, qe, kx, List.map_cons, List.map_nil, encI, go_sem, Nat.reduceAdd, Nat.reduceMul, Nat.reduceSub, Nat.reduceEqDiff, Nat.reduceLT, Nat.reduceLeDiff, Nat.reduceBEq, reduceIte, reduceCtorEq, Int.reduceAdd, Int.reduceLT, Int.reduceLE, Int.reduceGT, Int.reduceGE, Int.reduceEq, Int.reduceNe, Int.reduceBEq, Int.reduceBNe, Int.reduceToNat, Int.reduceNeg]
 obtain ⟨i, hi⟩ := i
 try (refine ev1 @xik.eq_1 ?_; try exact True.intro)
 refine xq _ (fun hc => ?_) (fun hc => ?_)
 ·have hil : i < (kx p).length := by simp [kx] at hc ⊢; omega
  have hx := hw.h _ (List.getElem_mem hil)
  have hfl := qcd wInt 10 ((kx p).take i) fun x hx => xt (hw.h x (List.mem_of_mem_take hx))
  have htk : ((kx p).take i).length ≤ 7 := by rw [List.length_take]; omega
  have hsn := qf1 wInt (kx p) hil
  have h7 : (kx p).length = 7 := rfl
  try (refine ev2 (qi encI (kx p) hil) @encI.eq_1 ?_; try exact True.intro)
  (repeat (with_reducible refine ob ?_))
  refine clA F147 (kg (((kx p).take i).flatMap wInt) (kx p)[i] (by omega) hx) ?_
  try (refine ev ?_; try exact True.intro)
  refine ⟨⟨i + 1, hil⟩, ?_, by dsimp only; omega⟩
  try (refine ev3 @xik.eq_1 @hsn (qf (show i < 9223372036854775807 by omega)) ?_; try exact True.intro)
 ·have hie : i = 7 := by simp at hc; omega
  subst hie
  have ht : (kx p).take 7 = kx p := rfl
  have hfl := qcd wInt 10 (kx p) fun x hx => xt (hw.h x hx)
  have h7 : (kx p).length = 7 := rfl
  have hwv : (wAVs p.values).length ≤ 5000000 := by
   have h1 := xt (x5 (n := p.values.length) (by omega))
   have h2 := qcd wAV 1000020 p.values fun x hx => xc4 (hw.v x hx)
   simp only [wAVs, List.length_append]; omega
  have hwc : (qma p.clock).length ≤ 5000000 := by
   have h1 := xt (x5 (n := p.clock.length) (by omega))
   have h2 := qcd wInt 10 p.clock fun x hx => xt (hw.c x hx)
   simp only [qma, List.length_append]; omega
  try (refine ev2 @ht @qe.eq_1 ?_; try exact True.intro)
  refine clA F307 (qwl ((kx p).flatMap wInt) p.values (by omega) (by omega) hw.v) ?_
  try (refine ev ?_; try exact True.intro)
  refine clA F306 (q3w ((kx p).flatMap wInt ++ wAVs p.values) p.clock (by rw [List.length_append]; omega) (by omega) hw.c) ?_
  try (refine ev ?_; try exact True.intro)
  (repeat (with_reducible refine ob ?_)); first | refine cl F305 (xc5 (yd p) (by simp only [yd, List.length_append]; omega)) ?_ | refine clF F305 (xc5 (yd p) (by simp only [yd, List.length_append]; omega)) (fun _ => by (refine ev3 @xr.eq_1 @encI.eq_1 @qe.eq_1 ?_; try exact True.intro)) ?_
  try (refine ev1 @hb ?_; try exact True.intro)
end Go.Proofs.YtkcdbcbpbolgkaaGreatDoor
namespace Go.Proofs.YtkcdbcbpbolgkaaGreatDoor
open Go.Abs
noncomputable section
set_option maxRecDepth 100000
set_option linter.defProp false
def d127 := cut Tryz.prog Tryz.f127 news
@[go_sem] def E127 := ql d127
def F127 := fnC d127 follows Tryz.func127
def d86 := cut Tryz.prog Tryz.f86 news
@[go_sem] def E86 := ql d86
def F86 := fnC d86 follows Tryz.func86
end
theorem yw (s : List UInt8) (hl : s.length ≤ 1000000000) : qg Tryz.prog 127 [.d (.sl 1 (qd s))] [] (.d (.sl 1 (qd s))) [] := by
 refine F127.go ?_
 try (refine ev ?_; try exact True.intro)
 refine ql4 rfl rfl (fun b hb => ?_)
 try (refine ev ?_; try exact True.intro)
 (repeat (with_reducible refine ob ?_)); refine xq _ (fun h => ?_) (fun h => ?_)
 ·try (refine ev1 (hb h) ?_; try exact True.intro)
 ·try (refine ev ?_; try exact True.intro)
  omega
theorem q83 (w : World) (t : TypeId) (b : Nat) (es : Array MapEntry) (clock : Nat) (hb : w.heap[b]? = some (.map es clock)) :
  (callFunc 158 #[.iface t (.map (some b))]).run Tryz.prog w = .ok (.value (.iface t (.map (some w.heap.size)))) (w.alloc (.map es clock)) := by
 rw [run_callFunc_extern Tryz.func158 rfl (by kernel_rfl) (by kernel_rfl) (e := Extern.MapsClone.clone) (by kernel_rfl)]
 have e : Extern.MapsClone.clone #[.iface t (.map (some b))] = (getObj b >>= fun o => match o with
   | .map entries clock => (newObj (.map entries clock) >>= fun n => pure (.iface t (.map (some n))))
   | _ => stuck "maps.clone: a map expected") := rfl
 rw [e]
 simp [MapKept.run_getObj_map hb, Result.andThen]
set_option maxRecDepth 100000 in
set_option maxHeartbeats 1000000 in
theorem xc6 (es : Ents) (c : Nat) : qg Tryz.prog 86 [.d (.map 0)] [.map es c] (.d (.map 1)) [.map es c, .map es c] := by
 intro g w vs hd hlen hv ho
 match vs, hlen with
 | [v0], _ =>
 have h0 := qna (wj (je (hv 0 v0 _ rfl rfl)))
 obtain ⟨b, rfl, hg⟩ := h0
 obtain ⟨b', hb', l, hh, hl, he⟩ := (ho.objs 0 _ rfl (by simp)).resolve_right (fun h => by cases h.1)
 have : b' = b := ho.inj b' b 0 hb' hg
 subst this
 go_enter Tryz.func86, Tryz.ntmps86
 have hcl := q83 w 178 b' l.toArray c hh
 have hbin : (binOp .eql 178 (.map (some b')) (.map none)).run Tryz.prog w = .ok (.bool false) w := by
  simp [binOp, qj6 Tryz.underlying178]
 have hta : ∀ W, (Instr.typeAssert (.iface 178 (.map (some w.heap.size))) 20 178 false).run Tryz.prog W = .ok (.map (some w.heap.size)) W := fun W => by
  simp [Instr.typeAssert, run_underlying Tryz.underlying178]
 go_wp2_with (first | simp only [hbin, Result.andThen_ok] | simp only [hcl] | simp only [hta, Result.andThen_ok])
 go_ret
 have hs : SR 0 (fun _ => False) g w ⟨[], [.map es c, .none], [], 1⟩ { tmps := #[], defers := [] } := by
  refine ⟨hd, trivial, rfl, fun k v s h => by simp [Fr.get] at h, fun id o hid hn => ?_, ho.inj, fun b id hb => ?_, ⟨by simp, fun k s h => by simp [Fr.get] at h, fun id o hid s hs => ?_⟩⟩
  ·match id with
   | 0 => exact ho.objs 0 o hid hn
   | 1 => simp at hid; exact (hn hid.symm).elim
   | i + 2 => simp at hid
  ·obtain ⟨o, h1, h2⟩ := ho.ids b id hb
   refine ⟨o, ?_, h2⟩
   match id with
   | 0 => exact h1
   | i + 1 => simp at h1
  ·match id with
   | 0 => simp at hid; subst hid; simp [AObj.cells] at hs
   | 1 => simp at hid; subst hid; simp [AObj.cells] at hs
   | i + 2 => simp at hid
 obtain ⟨q1, q2⟩ := hs.newObjA (id := 1) (o := .map es c) (blk := .map l.toArray c) rfl (by simp) (fun hG hr _ => ⟨l, heap_alloc_new w _, hl, fun i e x h1 h2 => (he i e x h1 h2).mono hr⟩) (by simp [AObj.cells])
 refine ⟨_, _, [], rfl, q1, q2.dom, by simp [ASlot.toks, xh, AObj.cells], .map _ 1 (Ghost.at_same _ _ _), ⟨fun id o hid hn => q2.objs id o hid hn, q2.inj, fun b id hb => q2.ids b id hb⟩⟩
end Go.Proofs.YtkcdbcbpbolgkaaGreatDoor
namespace Go.Proofs.YtkcdbcbpbolgkaaGreatDoor
open Go.Abs
abbrev KV := Nat × List UInt8 × List UInt8
structure Cont where
 l : List KV
 c : Nat
 deriving DecidableEq, Inhabited
def qe3 (x : KV) : Nat × D × D := (x.1, .str x.2.1, .sl 1 (qd x.2.2))
def mapO (m : Cont) : AObj := .map (m.l.map qe3) m.c
def zt (k : List UInt8) (x : KV) : Bool := k == x.2.1
def mPut (k v : List UInt8) (m : Cont) : Cont := match m.l.findIdx? (zt k) with
 | some j => ⟨m.l.modify j fun e => (e.1, k, v), m.c⟩
 | none => ⟨m.l ++ [(m.c, k, v)], m.c + 1⟩
def mDel (k : List UInt8) (m : Cont) : Cont := match m.l.findIdx? (zt k) with
 | some j => ⟨m.l.eraseIdx j, m.c⟩
 | none => m
def mGet (k : List UInt8) (m : Cont) : Option (List UInt8) := (m.l.find? (zt k)).map (·.2.2)
theorem qjh (k : List UInt8) (l : List KV) : (l.map qe3).findIdx? (qba (.str k)) = l.findIdx? (zt k) := by
 rw [List.findIdx?_map]; rfl
theorem q84 (k v : List UInt8) (m : Cont) : qhb (.str k) (.sl 1 (qd v)) m.c (m.l.map qe3) = (mPut k v m).l.map qe3 := by
 unfold qhb mPut
 rw [qjh]
 cases h : m.l.findIdx? (zt k) with
 | none => simp [qe3]
 | some j =>
  simp only
  apply List.ext_getElem?
  intro i
  rw [List.getElem?_modify, List.getElem?_map, List.getElem?_map, List.getElem?_modify]
  cases m.l[i]? with
  | none => rfl
  | some x =>
   show some (if j = i then _ else _) = some (qe3 (if j = i then _ else _))
   split <;> rfl
theorem qzz (k v : List UInt8) (m : Cont) : qb3 (.str k) m.c (m.l.map qe3) = (mPut k v m).c := by
 unfold qb3 mPut
 rw [qjh]
 cases m.l.findIdx? (zt k) <;> rfl
theorem q85 (k : List UInt8) (m : Cont) : qo3 (.str k) (m.l.map qe3) = (mDel k m).l.map qe3 := by
 unfold qo3 mDel
 rw [qjh]
 cases m.l.findIdx? (zt k) with
 | none => rfl
 | some j =>
  simp only
  apply List.ext_getElem?
  intro i
  rw [List.getElem?_eraseIdx, List.getElem?_map, List.getElem?_map, List.getElem?_map, List.getElem?_eraseIdx]
  split <;> rfl
theorem xlg (k : List UInt8) (m : Cont) : (mDel k m).c = m.c := by unfold mDel; split <;> rfl
theorem q86 (k : List UInt8) (l : List KV) : keyFit .str (.str k) (l.map qe3) = true := by
 simp only [keyFit, KD.fit, Bool.true_and, List.all_map]
 exact List.all_eq_true.2 fun x _ => rfl
attribute [go_sem] q86
def jr : Cont → List OpS → Cont × Bool
 | m, [] => (m, true)
 | m, o :: l => if o.del then jr (mDel o.key m) l else if (mPut o.key o.val m).l.length > 400 then (mPut o.key o.val m, false) else jr (mPut o.key o.val m) l
noncomputable section
set_option maxRecDepth 100000
set_option linter.defProp false
def d87 := cut Tryz.prog Tryz.f87 news
@[go_sem] def E87 := ql d87
def F87 := fnC d87 follows Tryz.func87
end
def qz0 (m : Cont) (l : List OpS) (i : { i : Nat × Cont // i.1 ≤ l.length ∧ jr i.2 (l.drop i.1) = jr m l }) : St :=
 ⟨[(0, true, .d (.map 0)), (7, true, .d (.sl 3 (l.map qo))), (8, true, .d (.int .i64 l.length)), (9, true, .d (.int .i64 (i.val.1 : Nat)))], [mapO i.val.2], [], 1⟩
theorem q52 (m : Cont) (l : List OpS) (hl : l.length ≤ 100000) (hv : ∀ o ∈ l, o.val.length ≤ 1000000) : qg Tryz.prog 87 [.d (.map 0), .d (.sl 3 (l.map qo))] [mapO m] (.d (.bool (jr m l).2)) [mapO (jr m l).1] := by
 refine F87.go ?_
 try (refine ev1 @mapO.eq_1 ?_; try exact True.intro)
 refine qk (qz0 m l) (fun i => l.length - i.val.1) ⟨(0, m), Nat.zero_le _, rfl⟩ ?_ (fun i => ?_)
 ·try (refine ev2 @qz0.eq_1 @mapO.eq_1 ?_; try exact True.intro)
 obtain ⟨⟨i, mi⟩, hi, ha⟩ := i
 simp only at hi ha
 try (refine ev2 @qz0.eq_1 @mapO.eq_1 ?_; try exact True.intro)
 refine xq _ (fun hc => ?_) (fun hc => ?_)
 ·have hil : i < l.length := by simpa using hc
  have hd : l.drop i = l[i] :: l.drop (i + 1) := List.drop_eq_getElem_cons hil
  rw [hd, jr] at ha
  try (refine ev2 (qi qo l hil) @qo.eq_1 ?_; try exact True.intro)
  (repeat (with_reducible refine ob ?_))
  (repeat (with_reducible refine ob ?_)); refine xq _ (fun h => ?_) (fun h => ?_)
  ·rw [if_pos h] at ha
   try (refine ev1 @q85 ?_; try exact True.intro)
   refine ⟨⟨(i + 1, mDel l[i].key mi), hil, ha⟩, ?_, by dsimp only; omega⟩
   try (refine ev4 @qz0.eq_1 @mapO.eq_1 @xlg (qf (show i < 9223372036854775807 by omega)) ?_; try exact True.intro)
  ·rw [if_neg (by simp [h])] at ha
   try (refine ev ?_; try exact True.intro)
   (repeat (with_reducible refine ob ?_)); first | refine cl F127 (yw l[i].val (by have := hv l[i] (List.getElem_mem hil); omega)) ?_ | refine clF F127 (yw l[i].val (by have := hv l[i] (List.getElem_mem hil); omega)) (fun _ => by (refine ev1 @qo.eq_1 ?_; try exact True.intro)) ?_
   try simp only [q84, qzz _ l[i].val, go_sem, Nat.reduceAdd, Nat.reduceMul, Nat.reduceSub, Nat.reduceEqDiff, Nat.reduceLT, Nat.reduceLeDiff, Nat.reduceBEq, reduceIte, reduceCtorEq, Int.reduceAdd, Int.reduceLT, Int.reduceLE, Int.reduceGT, Int.reduceGE, Int.reduceEq, Int.reduceNe, Int.reduceBEq, Int.reduceBNe, Int.reduceToNat, Int.reduceNeg]
   refine xq _ (fun h4 => ?_) (fun h4 => ?_)
   ·rw [if_pos (by simp at h4; omega)] at ha
    try (refine ev1 ha.symm ?_; try exact True.intro)
   ·rw [if_neg (by simp at h4; omega)] at ha
    try (refine ev ?_; try exact True.intro)
    refine ⟨⟨(i + 1, mPut l[i].key l[i].val mi), hil, ha⟩, ?_, by dsimp only; omega⟩
    try (refine ev3 @qz0.eq_1 @mapO.eq_1 (qf (show i < 9223372036854775807 by omega)) ?_; try exact True.intro)
 ·have hie : i = l.length := by simp at hc; omega
  subst hie
  rw [List.drop_length, jr] at ha
  try (refine ev1 ha.symm ?_; try exact True.intro)
end Go.Proofs.YtkcdbcbpbolgkaaGreatDoor
namespace Go.Proofs.YtkcdbcbpbolgkaaGreatDoor
open Go.Abs
structure Sto where
 file : List UInt8
 synced : Int
 m : Cont
 deriving DecidableEq, Inhabited
def stoO (s : Sto) (id : Nat) : AObj := .row [.d (.sl 1 (qd s.file)), .d (.int .i64 s.synced), .d (.map id)]
def qds : Cont := ⟨[], 0⟩
def newS : Sto := ⟨[], 0, qds⟩
noncomputable section
set_option maxRecDepth 100000
set_option linter.defProp false
def d28 := cut Tryz.prog Tryz.f28 news
@[go_sem] def E28 := ql d28
def F28 := fnC d28 follows Tryz.func28
def d29 := cut Tryz.prog Tryz.f29 news
@[go_sem] def E29 := ql d29
def F29 := fnC d29 follows Tryz.func29
def d184 := cut Tryz.prog Tryz.f184 news
@[go_sem] def E184 := ql d184
def d62 := cut Tryz.prog Tryz.f62 news
@[go_sem] def E62 := ql d62
def F62 := fnC d62 follows Tryz.func62
def d128 := cut Tryz.prog Tryz.f128 news
@[go_sem] def E128 := ql d128
def F128 := fnC d128 follows Tryz.func128
def d61 := cut Tryz.prog Tryz.f61 news
@[go_sem] def E61 := ql d61
def F61 := fnC d61 follows Tryz.func61
end
theorem xlh : qg Tryz.prog 28 [] [] (.d (.ptr 1 0)) [mapO qds, stoO newS 0] := by
 refine F28.go ?_
 try (refine ev6 @mapO.eq_1 @stoO.eq_1 @qds.eq_1 @newS.eq_1 @List.map_nil.{0,0} @qu ?_; try exact True.intro)
def xg (s : Sto) (l : List OpS) : Sto × Int :=
 if (qr l).2 ≠ 0 then (s, (qr l).2) else if (jr s.m l).2 = false then (s, 28) else (⟨yr s.file (qr l).1, s.synced, (jr s.m l).1⟩, 0)
def qc8 (s : Sto) (l : List OpS) : List AObj := if (xg s l).2 = 0 then [stoO (xg s l).1 2, mapO s.m, mapO (xg s l).1.m] else [stoO s 1, mapO s.m, .none]
theorem qap (l : List OpS) : (qr l).1.length ≤ 2000 := by
 unfold qr
 split
 ·simp
 ·split
  ·simp
  ·rename_i h
   simp only [Bool.or_eq_true, decide_eq_true_eq, not_or] at h
   simp only; omega
theorem wh {l : List OpS} (h : (qr l).2 = 0) : l.length ≤ 20 ∧ (∀ o ∈ l, kj o = true) ∧ qr l = (wOps l, 0) := by
 unfold qr at h ⊢
 split at h
 ·simp at h
 ·rename_i h1
  split at h
  ·simp at h
  ·rename_i h2
   rw [if_neg h1, if_neg h2]
   simp only [Bool.or_eq_true, decide_eq_true_eq, not_or, List.any_eq_true, not_exists, not_and] at h1 h2
   exact ⟨by omega, fun o ho => by simpa using h1.2 o ho, rfl⟩
set_option maxRecDepth 10000 in
theorem qks (s : Sto) (l : List OpS) (hl : l.length ≤ 100000) (hf : s.file.length ≤ 100000000) :
  qg Tryz.prog 29 [.d (.ptr 0 0), .d (.sl 3 (l.map qo))] [stoO s 1, mapO s.m] (.d (.int .i64 (xg s l).2)) (qc8 s l) := by
 refine F29.go ?_
 try (refine ev2 @stoO.eq_1 @mapO.eq_1 ?_; try exact True.intro)
 (repeat (with_reducible refine ob ?_)); refine no_ ?_
 try (refine ev ?_; try exact True.intro)
 (repeat (with_reducible refine ob ?_)); first | refine cl F85 (qia l hl) ?_ | refine clF F85 (qia l hl) (fun _ => by (refine ev1 @qo.eq_1 ?_; try exact True.intro)) ?_
 try (refine ev ?_; try exact True.intro)
 (repeat (with_reducible refine ob ?_)); refine xq _ (fun h => ?_) (fun h => ?_)
 ·have hne : (qr l).2 ≠ 0 := by simpa using h
  have hb : xg s l = (s, (qr l).2) := by unfold xg; rw [if_pos hne]
  have hb2 : qc8 s l = [stoO s 1, mapO s.m, .none] := by unfold qc8; rw [hb, if_neg hne]
  try (refine ev4 @hb @hb2 @stoO.eq_1 @mapO.eq_1 ?_; try exact True.intro)
 have he0 : (qr l).2 = 0 := by simpa using h
 obtain ⟨h20, hpr, henc⟩ := wh he0
 try (refine ev ?_; try exact True.intro)
 refine clO [1, 2] F86 (xc6 (s.m.l.map qe3) s.m.c) ?_
 try (refine ev ?_; try exact True.intro)
 have hap := q52 s.m l hl (fun o ho => by have := (we.1 (hpr o ho)).2.2.1; omega)
 simp only [mapO] at hap
 (repeat (with_reducible refine ob ?_)); refine clO [2] F87 (hap) ?_ (hfit := by first | exact ⟨qc, trivial⟩ | exact ⟨qc, qc, trivial⟩ | (refine ev1 @qo.eq_1 ?_; try exact True.intro))
 try (refine ev ?_; try exact True.intro)
 (repeat (with_reducible refine ob ?_)); refine xq _ (fun h => ?_) (fun h => ?_)
 ·have hb : xg s l = (s, 28) := by unfold xg; rw [if_neg (by simp [he0]), if_pos (by simpa using h)]
  have hb2 : qc8 s l = [stoO s 1, mapO s.m, .none] := by unfold qc8; rw [hb, if_neg (by simp)]
  try (refine ev4 @hb @hb2 @stoO.eq_1 @mapO.eq_1 ?_; try exact True.intro)
 have hb : xg s l = (⟨yr s.file (qr l).1, s.synced, (jr s.m l).1⟩, 0) := by unfold xg; rw [if_neg (by simp [he0]), if_neg (by simpa using h)]
 have hb2 : qc8 s l = [stoO (xg s l).1 2, mapO s.m, mapO (xg s l).1.m] := by unfold qc8; rw [if_pos (by rw [hb])]
 try (refine ev ?_; try exact True.intro)
 (repeat (with_reducible refine ob ?_)); first | refine cl F88 (qkr s.file (qr l).1 s.synced hf (qap l)) ?_ | refine clF F88 (qkr s.file (qr l).1 s.synced hf (qap l)) (fun _ => by (refine ev1 @qo.eq_1 ?_; try exact True.intro)) ?_
 try (refine ev5 @qao.eq_1 @hb2 @hb @stoO.eq_1 @mapO.eq_1 ?_; try exact True.intro)
theorem xli (s : Sto) (hf : s.file.length ≤ 1000000000) :
  qg Tryz.prog 62 [.d (.ptr 0 0)] [stoO s 1, mapO s.m] (.d (.agg (qao s.file s.synced))) [stoO s 1, mapO s.m] := by
 refine F62.go ?_
 try (refine ev2 @stoO.eq_1 @mapO.eq_1 ?_; try exact True.intro)
 (repeat (with_reducible refine ob ?_)); refine no_ ?_
 try (refine ev ?_; try exact True.intro)
 (repeat (with_reducible refine ob ?_)); first | refine cl F127 (yw s.file hf) ?_ | refine clF F127 (yw s.file hf) (fun _ => by (refine ev1 @qo.eq_1 ?_; try exact True.intro)) ?_
 try (refine ev1 @qao.eq_1 ?_; try exact True.intro)
theorem qid (file : List UInt8) (synced : Int) (hf : file.length ≤ 1000000000) :
  qg Tryz.prog 128 [.d (.agg (qao file synced))] [] (.d (.agg (qao file file.length))) [] := by
 refine F128.go ?_
 try (refine ev1 @qao.eq_1 ?_; try exact True.intro)
 (repeat (with_reducible refine ob ?_)); first | refine cl F127 (yw file hf) ?_ | refine clF F127 (yw file hf) (fun _ => by (refine ev1 @qo.eq_1 ?_; try exact True.intro)) ?_
 try (refine ev ?_; try exact True.intro)
def qn8 (s : Sto) : Sto := ⟨s.file, s.file.length, s.m⟩
theorem xnc (s : Sto) (hf : s.file.length ≤ 1000000000) :
  qg Tryz.prog 61 [.d (.ptr 0 0)] [stoO s 1, mapO s.m] (.d (.int .i64 0)) [stoO (qn8 s) 1, mapO s.m] := by
 refine F61.go ?_
 try (refine ev2 @stoO.eq_1 @mapO.eq_1 ?_; try exact True.intro)
 (repeat (with_reducible refine ob ?_)); refine no_ ?_
 try (refine ev ?_; try exact True.intro)
 (repeat (with_reducible refine ob ?_)); first | refine cl F128 (qid s.file s.synced hf) ?_ | refine clF F128 (qid s.file s.synced hf) (fun _ => by (refine ev1 @qo.eq_1 ?_; try exact True.intro)) ?_
 try (refine ev2 @qao.eq_1 @qn8.eq_1 ?_; try exact True.intro)
end Go.Proofs.YtkcdbcbpbolgkaaGreatDoor
namespace Go.Proofs.YtkcdbcbpbolgkaaGreatDoor
open Go.Abs Go.RowKit
attribute [local go_sem] qwh xnb qwi
def in1 (n : Nat) (s f t : Nat) : List (Nat × Nat × Nat) := (List.range' t (n - t)).flatMap fun t => if f = t then [] else [(s, f, t)]
def in2 (n : Nat) (s f : Nat) : List (Nat × Nat × Nat) := (List.range' f (n - f)).flatMap fun f => in1 n s f 0
def in3 (n ss : Nat) (s : Nat) : List (Nat × Nat × Nat) := (List.range' s (ss + 1 - s)).flatMap fun s => in2 n s 0
def x6 (n ss : Nat) : List (Nat × Nat × Nat) := in3 n ss 1
def q87 (p : Nat × Nat × Nat) : List D := [.agg [.int .i64 (p.1 : Nat), .int .i64 (p.2.1 : Nat), .int .i64 (p.2.2 : Nat)]]
theorem xnd {n s f t : Nat} (h : n ≤ t) : in1 n s f t = [] := by unfold in1; rw [show n - t = 0 by omega]; rfl
theorem xqi {n s f t : Nat} (h : t < n) (he : f = t) : in1 n s f t = in1 n s f (t + 1) := by
 unfold in1
 rw [show n - t = (n - (t + 1)) + 1 by omega, List.range'_succ, List.flatMap_cons, if_pos he]; rfl
theorem xqj {n s f t : Nat} (h : t < n) (he : f ≠ t) : in1 n s f t = (s, f, t) :: in1 n s f (t + 1) := by
 unfold in1
 rw [show n - t = (n - (t + 1)) + 1 by omega, List.range'_succ, List.flatMap_cons, if_neg he]; rfl
theorem xne {n s f : Nat} (h : n ≤ f) : in2 n s f = [] := by unfold in2; rw [show n - f = 0 by omega]; rfl
theorem xil {n s f : Nat} (h : f < n) : in2 n s f = in1 n s f 0 ++ in2 n s (f + 1) := by
 unfold in2
 rw [show n - f = (n - (f + 1)) + 1 by omega, List.range'_succ, List.flatMap_cons]
theorem xnf {n ss s : Nat} (h : ss < s) : in3 n ss s = [] := by unfold in3; rw [show ss + 1 - s = 0 by omega]; rfl
theorem xim {n ss s : Nat} (h : s ≤ ss) : in3 n ss s = in2 n s 0 ++ in3 n ss (s + 1) := by
 unfold in3
 rw [show ss + 1 - s = (ss + 1 - (s + 1)) + 1 by omega, List.range'_succ, List.flatMap_cons]
theorem xng {L : List (Nat × Nat × Nat)} {k : Nat} {x : Nat × Nat × Nat} {r : List (Nat × Nat × Nat)} (h : L.drop k = x :: r) : (L.map q87)[k]? = some (q87 x) ∧ L.drop (k + 1) = r := by
 have h1 : L[k]? = some x := by
  have := congrArg (fun l => l[0]?) h
  simpa using this
 refine ⟨by rw [List.getElem?_map, h1]; rfl, ?_⟩
 have := congrArg (List.drop 1) h
 rwa [List.drop_drop, List.drop_succ_cons, List.drop_zero] at this
set_option maxRecDepth 100000 in
set_option maxHeartbeats 4000000 in
theorem q88 (n ss : Nat) (hn : n ≤ 1000) (hs : ss ≤ 1000) : xgp Tryz.prog 130 [(n : Nat), (ss : Nat)] ((x6 n ss).map q87) := by
 refine ⟨by rw [Tryz.func130]; rfl, ?_⟩
 intro w bx bb l J E hsee hY h0
 refine callsIn_of_wp Tryz.func130 rfl trivial ?_ rfl
 simp only [Tryz.ntmps130, List.size_toArray, List.length_cons, List.length_nil, Nat.reduceAdd, Nat.reduceSub, Array.replicate_succ, Array.replicate_zero, List.push_toArray, List.append_toArray, List.nil_append, List.cons_append]
 have see : ∀ k W, J k W → W.cell? ⟨bx, 0, none⟩ = some (.pointer (some ⟨bb, 0, none⟩)) ∧ W.frozen? ⟨bx, 0, none⟩ = false ∧ W.cell? ⟨bb, 0, none⟩ = some (.int .i64 n) ∧ W.cell? ⟨bb, 1, none⟩ = some (.int .i64 ss) ∧ W.frozen? ⟨bb, 0, none⟩ = false ∧ W.frozen? ⟨bb, 1, none⟩ = false := by
  intro k W hJ
  obtain ⟨⟨c, e, h1, h2⟩, c', e', h3, h4⟩ := hsee k W hJ
  have h5 := h4 0 n rfl
  have h6 := h4 1 ss rfl
  refine ⟨by simp [World.cell?, h1, h2], by simp [World.frozen?, h1], by simp [World.cell?, h3, h5], by simp [World.cell?, h3, h6], by simp [World.frozen?, h3], by simp [World.frozen?, h3]⟩
 gi_wp2
 refine qcr (fun m a W => ∃ s k : Nat, m = ss + 1 - s ∧ 1 ≤ s ∧ s ≤ ss + 1 ∧ (x6 n ss).drop k = in3 n ss s ∧ k ≤ (x6 n ss).length ∧ (∃ t2 t4 t5 t6 t7 t8 t9 t10 t11 t12 t13 t14 t15 t16 t17 t18 t19 t20 t21 t22 t23 t24 t25 t26 t27 t28 t29 t30 t31 t32 t33 t34 t35 t36 t37 t38 t39 t40 t41, a = { tmps := #[.func (.yield l) #[] #[], .pointer (some ⟨bx, 0, none⟩), t2, .int .i64 s, t4, t5, t6, t7, t8, t9, t10, t11, t12, t13, t14, t15, t16, t17, t18, t19, t20, t21, t22, t23, t24, t25, t26, t27, t28, t29, t30, t31, t32, t33, t34, t35, t36, t37, t38, t39, t40, t41], defers := [] }) ∧ J k W) (n0 := ss)
  ⟨1, 0, by omega, by omega, by omega, rfl, by omega, ⟨_, _, _, _, _, _, _, _, _, _, _, _, _, _, _, _, _, _, _, _, _, _, _, _, _, _, _, _, _, _, _, _, _, _, _, _, _, _, _, rfl⟩, h0⟩ ?_
 rintro m a W ⟨s, k, rfl, hs1, hs2, hdr, hk, ⟨t2, t4, t5, t6, t7, t8, t9, t10, t11, t12, t13, t14, t15, t16, t17, t18, t19, t20, t21, t22, t23, t24, t25, t26, t27, t28, t29, t30, t31, t32, t33, t34, t35, t36, t37, t38, t39, t40, t41, rfl⟩, hJ⟩
 obtain ⟨hcx, hfx, hc0, hc1, hf0, hf1⟩ := see k W hJ
 by_cases hlt : s ≤ ss
 ·have hlti : (s : Int) ≤ (ss : Int) := by omega
  gi_wp2
  refine qcr (fun m a W => ∃ f k : Nat, m = n - f ∧ f ≤ n ∧ (x6 n ss).drop k = in2 n s f ++ in3 n ss (s + 1) ∧ k ≤ (x6 n ss).length ∧ (∃ t2 t4 t5 t6 t7 t8 t9 t10 t11 t12 t13 t14 t15 t16 t19 t20 t21 t22 t23 t24 t25 t26 t27 t28 t29 t30 t31 t32 t33 t34 t35 t36 t37 t38 t39 t40 t41, a = { tmps := #[.func (.yield l) #[] #[], .pointer (some ⟨bx, 0, none⟩), t2, .int .i64 s, t4, t5, t6, t7, t8, t9, t10, t11, t12, t13, t14, t15, t16, .int .i64 n, .int .i64 f, t19, t20, t21, t22, t23, t24, t25, t26, t27, t28, t29, t30, t31, t32, t33, t34, t35, t36, t37, t38, t39, t40, t41], defers := [] }) ∧ J k W) (n0 := n)
   ⟨0, k, by omega, by omega, by rw [hdr, xim hlt], hk, ⟨_, _, _, _, _, _, _, _, _, _, _, _, _, _, _, _, _, _, _, _, _, _, _, _, _, _, _, _, _, _, _, _, _, _, _, _, _, rfl⟩, hJ⟩ ?_
  clear hJ hdr hcx hfx hc0 hc1 hf0 hf1 hk
  clear k W
  rintro m a W ⟨f, k, rfl, hf, hdr, hk, ⟨t2, t4, t5, t6, t7, t8, t9, t10, t11, t12, t13, t14, t15, t16, t19, t20, t21, t22, t23, t24, t25, t26, t27, t28, t29, t30, t31, t32, t33, t34, t35, t36, t37, t38, t39, t40, t41, rfl⟩, hJ⟩
  obtain ⟨hcx, hfx, hc0, hc1, hf0, hf1⟩ := see k W hJ
  by_cases hfn : f < n
  ·have hfni : (f : Int) < (n : Int) := by omega
   have hwf : (IntKind.wrap .i64 ((f : Int) + 1)) = ((f + 1 : Nat) : Int) := qf (by omega)
   gi_wp2
   refine qcr (fun m a W => ∃ t k : Nat, m = n - t ∧ t ≤ n ∧ (x6 n ss).drop k = in1 n s f t ++ (in2 n s (f + 1) ++ in3 n ss (s + 1)) ∧ k ≤ (x6 n ss).length ∧ (∃ t2 t5 t6 t7 t8 t9 t10 t11 t12 t13 t14 t15 t16 t19 t20 t21 t22 t23 t26 t27 t28 t29 t30 t31 t32 t33 t34 t35 t36 t37 t38 t39 t40 t41, a = { tmps := #[.func (.yield l) #[] #[], .pointer (some ⟨bx, 0, none⟩), t2, .int .i64 s, .int .i64 f, t5, t6, t7, t8, t9, t10, t11, t12, t13, t14, t15, t16, .int .i64 n, .int .i64 f, t19, t20, t21, t22, t23, .int .i64 n, .int .i64 t, t26, t27, t28, t29, t30, t31, t32, t33, t34, t35, t36, t37, t38, t39, t40, t41], defers := [] }) ∧ J k W) (n0 := n)
    ⟨0, k, by omega, by omega, by rw [hdr, xil hfn, List.append_assoc], hk, ⟨_, _, _, _, _, _, _, _, _, _, _, _, _, _, _, _, _, _, _, _, _, _, _, _, _, _, _, _, _, _, _, _, _, _, rfl⟩, hJ⟩ ?_
   clear hJ hdr hcx hfx hc0 hc1 hf0 hf1 hk
   clear k W
   rintro m a W ⟨t, k, rfl, ht, hdr, hk, ⟨t2, t5, t6, t7, t8, t9, t10, t11, t12, t13, t14, t15, t16, t19, t20, t21, t22, t23, t26, t27, t28, t29, t30, t31, t32, t33, t34, t35, t36, t37, t38, t39, t40, t41, rfl⟩, hJ⟩
   by_cases htn : t < n
   ·have htni : (t : Int) < (n : Int) := by omega
    by_cases hft : f = t
    ·subst hft
     gi_wp2
     refine ⟨n - (f + 1), by omega, f + 1, k, rfl, by omega, by rw [hdr, xqi (by omega) rfl], hk, ?_, hJ⟩
     exact ⟨_, _, _, _, _, _, _, _, _, _, _, _, _, _, _, _, _, _, _, _, _, _, _, _, _, _, _, _, _, _, _, _, _, _, rfl⟩
    ·have hfti : (f : Int) ≠ (t : Int) := by omega
     rw [xqj htn hft, List.cons_append] at hdr
     obtain ⟨hd1, hd2⟩ := xng hdr
     obtain ⟨fn, tmps, assign, body, hy, hR⟩ := hY k _ [.agg #[.int .i64 s, .int .i64 f, .int .i64 t]] W hd1 hJ rfl (by
      intro i v d hi hd
      match i with
      | 0 =>
       simp [q87] at hi hd; subst hi; subst hd
       exact .agg [.int .i64 s, .int .i64 f, .int .i64 t] _ rfl (by simp [D.isCell]) (fun j v d h1 h2 => by
        match j with
        | 0 => simp at h1 h2; subst h1; subst h2; exact .int _ _
        | 1 => simp at h1 h2; subst h1; subst h2; exact .int _ _
        | 2 => simp at h1 h2; subst h1; subst h2; exact .int _ _
        | j + 3 => simp at h1)
      | i + 1 => simp at hi)
     gi_wp2
     refine hR.mono ?_
     rintro e1 W1 (⟨rfl, hJ1⟩ | ⟨rfl, hE⟩)
     ·gi_wp2
      exact ⟨n - (t + 1), by omega, t + 1, k + 1, rfl, by omega, hd2, (by
       rcases Nat.lt_or_ge k (x6 n ss).length with h | h
       ·omega
       ·rw [List.drop_eq_nil_of_le h] at hdr; cases hdr), ⟨_, _, _, _, _, _, _, _, _, _, _, _, _, _, _, _, _, _, _, _, _, _, _, _, _, _, _, _, _, _, _, _, _, _, rfl⟩, hJ1⟩
     ·gi_wp2
      refine bodyPost_ret (results_none rfl _ _ _) rfl ?_
      exact ⟨⟨_, rfl⟩, .inr hE⟩
   ·have htni : ¬ (t : Int) < (n : Int) := by omega
    gi_wp2
    exact ⟨n - (f + 1), by omega, f + 1, rfl, by omega, k, by rw [hdr, xnd (by omega), List.nil_append], hk, by push_cast; rfl, hJ⟩
  ·have hfni : ¬ (f : Int) < (n : Int) := by omega
   gi_wp2
   exact ⟨ss + 1 - (s + 1), by omega, s + 1, rfl, by omega, by omega, k, by rw [hdr, xne (by omega), List.nil_append], hk, by push_cast; rfl, hJ⟩
 ·have hlti : ¬ (s : Int) ≤ (ss : Int) := by omega
  gi_wp2
  have hkl : k = (x6 n ss).length := by
   rw [xnf (by omega)] at hdr
   have := congrArg List.length hdr
   simp at this; omega
  subst hkl
  go_end0
  exact ⟨⟨_, rfl⟩, .inl hJ⟩
end Go.Proofs.YtkcdbcbpbolgkaaGreatDoor
