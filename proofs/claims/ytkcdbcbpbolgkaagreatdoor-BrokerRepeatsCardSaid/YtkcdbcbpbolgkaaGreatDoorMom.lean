/- Texts Wd, We, Va, Wf, Wg, Wh, Kb. -/
import Derived.Test.YtkcdbcbpbolgkaaGreatDoorMol
import Derived.OwnWalkIn
import Derived.TacticsInMore
import Derived.LoopIn
import Derived.WalkKit
set_option linter.unusedSimpArgs false
set_option linter.unusedVariables false
namespace Go.Proofs.YtkcdbcbpbolgkaaGreatDoor
open Go.Abs Go.RowKit
theorem qv4 (ro : Option Nat) : (Fw ro).round = ro := rfl
theorem xmr (ro : Option Nat) (f : FuncId) : (Fw ro).fn f = True := rfl
theorem qv5 (ro : Option Nat) : (Fw ro).depth = none := rfl
attribute [local go_sem] qv4 xmr qv5
def partsOf (r : List UInt8) : List (Nat × List UInt8) := if h : r.length > 22 then (1, r.take 22) :: partsOf (r.drop 22) else [(2, r)]
termination_by r.length
decreasing_by simp; omega
def qc6 (p : Nat × List UInt8) : List D := [.int .u8 (p.1 : Nat), .sl 1 (qd p.2)]
theorem yf {r : List UInt8} (h : r.length > 22) : partsOf r = (1, r.take 22) :: partsOf (r.drop 22) := by rw [partsOf, dif_pos h]
theorem yg {r : List UInt8} (h : ¬ r.length > 22) : partsOf r = [(2, r)] := by rw [partsOf, dif_neg h]
theorem ql7 (r : List UInt8) : ∀ n, (0 < n → 22 * n < r.length) → (partsOf r).drop n = partsOf (r.drop (22 * n))
 | 0, _ => by simp
 | n + 1, h => by
  have h1 := h (by omega)
  have ih := ql7 r n (fun _ => by omega)
  rw [← List.drop_drop, ih, yf (by rw [List.length_drop]; omega), List.drop_succ_cons, List.drop_zero, List.drop_drop]
  rfl
theorem qv6 {r : List UInt8} {n : Nat} {p : Nat × List UInt8} {l : List (Nat × List UInt8)} (h : (partsOf r).drop n = p :: l) : ((partsOf r).map qc6)[n]? = some (qc6 p) := by
 have : (partsOf r)[n]? = some p := by
  have := congrArg (fun l => l[0]?) h
  simpa using this
 rw [List.getElem?_map, this]; rfl
theorem qzl {W : World} {b : Nat} {c : Array Value} {e : TypeId} {z : Nat × Nat} (v : Value) (h : W.heap[b]? = some (.cells c e z)) : (W.setCell ⟨b, 0, none⟩ v).heap[b]? = some (.cells (c.setIfInBounds 0 v) e z) := by
 simp [World.setCell, Array.getElem?_modify, h]
theorem qv7 {W : World} {b k : Nat} (v : Value) (h : k ≠ b) : (W.setCell ⟨b, 0, none⟩ v).heap[k]? = W.heap[k]? := by
 simp [World.setCell, Array.getElem?_modify, Ne.symm h]
theorem xck {g : Ghost} {w : World} {b off cap len : Nat} {r : List UInt8} (h : RV g w (.slice (some ⟨b, off, none⟩) len cap) (.sl 1 (qd r))) (n m c : Nat) (hn : n + m ≤ r.length) (hc : m ≤ c) (h0 : r ≠ []) :
  RV g w (.slice (some ⟨b, off + n, none⟩) m c) (.sl 1 (qd ((r.drop n).take m))) := by
 generalize hvd : qd r = rows at h
 have hne : rows ≠ [] := by rw [← hvd]; cases r <;> simp [qd] at h0 ⊢
 cases h with
 | nilsl => exact (hne rfl).elim
 | sl _ _ _ _ n0 o _ f hg hnn hcap hes hcl hcell hrv =>
 subst hvd
 have hfl : (qd ((r.drop n).take m)).flatten = (((qd r).flatten).drop n).take m := by simp only [qdq, List.map_take, List.map_drop]
 have hlen : (qd ((r.drop n).take m)).length = m := by rw [jo, List.length_take, List.length_drop]; omega
 have hsub : ∀ (j : Nat) (d : D), (qd ((r.drop n).take m)).flatten[j]? = some d → (qd r).flatten[n + j]? = some d := by
  intro j d hj
  rw [hfl, List.getElem?_take] at hj
  split at hj
  ·rwa [List.getElem?_drop] at hj
  ·cases hj
 have := RV.sl (g := g) (w := w) b (off + n) c 1 n0 o (qd ((r.drop n).take m)) (fun j => f (n + j)) hg (by
   rw [hfl, List.length_take, List.length_drop]
   have h1 : (qd r).flatten.length = r.length := by simp [qdq]
   rw [h1] at hnn ⊢
   omega) (by rw [hlen]; exact hc) (by intro x hx; obtain ⟨c, _, rfl⟩ := List.mem_map.1 hx; rfl) (by
   intro d hd
   obtain ⟨j, hj⟩ := List.getElem?_of_mem hd
   exact hcl d (List.mem_of_getElem? (hsub j d hj))) (fun j d hj => by rw [Nat.add_assoc]; exact hcell _ d (hsub j d hj)) (fun j d hj => hrv _ d (hsub j d hj))
 rwa [hlen] at this
set_option maxRecDepth 100000 in
set_option maxHeartbeats 1000000 in
theorem q8h (r : List UInt8) (hl : r.length ≤ 1000000000) : ASeq Tryz.prog 232 [.ptr 0 0] [.row [.d (.sl 1 (qd r))]] ((partsOf r).map qc6) := by
 refine ⟨by rw [Tryz.func232]; rfl, ?_⟩
 intro g w lb l J hd hlb hrv hobj hab hY h0
 match lb, hlb with
 | [v0], _ =>
 have hp := hrv 0 v0 _ rfl rfl
 cases hp with
 | ptr b _ _ hg =>
 obtain ⟨b', hb', hro⟩ := (hobj.objs 0 _ rfl (by simp)).resolve_right (fun h => by cases h.1)
 have : b' = b := hobj.inj b' b 0 hb' hg
 subst this
 obtain ⟨c, e, hh, hsz, hc⟩ := hro
 obtain ⟨v, hv0, _, hv⟩ := hc 0 _ rfl
 have hv : RV g w v (.sl 1 (qd r)) := hv
 refine callsIn_of_wp Tryz.func232 rfl trivial ?_ rfl
 simp only [Tryz.ntmps232, List.size_toArray, List.length_cons, List.length_nil, Nat.reduceAdd, Nat.reduceSub, Array.replicate_succ, Array.replicate_zero, List.push_toArray, List.append_toArray, List.nil_append, List.cons_append]
 generalize hvd : qd r = rows at hv
 cases hv with
 | nilsl a cc _ hn =>
  have hr0 : r = [] := by cases r <;> simp [qd] at hvd ⊢
  subst hr0
  have hsp : (partsOf []).drop 0 = [(2, [])] := by rw [List.drop_zero, yg (by simp)]
  refine wpIn_seq (wpIn_block ?_)
  refine qch (fun m a W => (∃ t3 t4 t5 t6 t7 t8 t9 t10 t11 t12 t13 t14 t15, a = { tmps := #[.func (.yield l) #[] #[], .pointer (some ⟨b', 0, none⟩), undef, t3, t4, t5, t6, t7, t8, t9, t10, t11, t12, t13, t14, t15], defers := [] }) ∧ W.heap[b']? = some (.cells c e (0, 0)) ∧ J 0 W) (n0 := 0)
   ⟨⟨_, _, _, _, _, _, _, _, _, _, _, _, _, rfl⟩, hh, h0⟩ ?_
  rintro m ac W ⟨⟨t3, t4, t5, t6, t7, t8, t9, t10, t11, t12, t13, t14, t15, rfl⟩, hhW, hJ⟩
  have hcW : W.cell? ⟨b', 0, none⟩ = some (.slice a 0 cc) := by simp [World.cell?, hhW, hv0]
  have hfW : W.frozen? ⟨b', 0, none⟩ = false := by simp [World.frozen?, hhW]
  obtain ⟨fn, tmps, assign, body, hy, hR⟩ := hY 0 _ [.int .u8 2, .slice a 0 cc] W (qv6 hsp) hJ rfl (by
   intro i v d hi hd
   match i with
   | 0 => simp [qc6] at hi hd; subst hi; subst hd; exact .int _ _
   | 1 => simp [qc6] at hi hd; subst hi; subst hd; exact .nilsl a cc 1 hn
   | i + 2 => simp at hi)
  gi_wp2
  refine hR.mono ?_
  rintro e1 W1 ⟨rfl, hJ1, hk1⟩
  gi_wp2
  go_end0
  have hln : (partsOf []).length = 1 := by have := congrArg List.length hsp; simpa using this
  exact ⟨⟨_, rfl⟩, by rw [List.length_map, hln]; exact hJ1⟩
 | sl bb off cap _ n0 o _ f hgb hnn hcap hes hcl hcell hrvv =>
 subst hvd
 have hv : RV g w (.slice (some ⟨bb, off, none⟩) (qd r).length cap) (.sl 1 (qd r)) := hv
 refine wpIn_seq (wpIn_block ?_)
 refine qch (fun m a W => ∃ n, m = r.length - 22 * n ∧ 22 * n ≤ r.length ∧ (0 < n → 22 * n < r.length) ∧ (∃ t3 t4 t5 t6 t7 t8 t9 t10 t11 t12 t13 t14 t15, a = { tmps := #[.func (.yield l) #[] #[], .pointer (some ⟨b', 0, none⟩), undef, t3, t4, t5, t6, t7, t8, t9, t10, t11, t12, t13, t14, t15], defers := [] }) ∧
  W.heap[b']? = some (.cells (c.setIfInBounds 0 (.slice (some ⟨bb, off + 22 * n, none⟩) (r.length - 22 * n) (cap - 22 * n))) e (0, 0)) ∧ J n W) (n0 := r.length) ⟨0, by omega, by omega, by omega, ⟨_, _, _, _, _, _, _, _, _, _, _, _, _, rfl⟩, ?_, h0⟩ ?_
 ·rw [jo] at hv0
  rw [hh, show off + 22 * 0 = off by omega, show r.length - 22 * 0 = r.length by omega, show cap - 22 * 0 = cap by omega]
  congr 2
  apply Array.ext
  ·simp
  ·intro i h1 h2
   rw [Array.getElem_setIfInBounds]
   split
   ·rename_i h; subst h; simpa [Array.getElem?_eq_getElem h1] using hv0
   ·rfl
 rintro m a W ⟨n, rfl, hn1, hn2, ⟨t3, t4, t5, t6, t7, t8, t9, t10, t11, t12, t13, t14, t15, rfl⟩, hhW, hJ⟩
 have hcW : W.cell? ⟨b', 0, none⟩ = some (.slice (some ⟨bb, off + 22 * n, none⟩) (r.length - 22 * n) (cap - 22 * n)) := by
  have : 0 < c.size := by simp at hsz; omega
  simp [World.cell?, hhW, this]
 have hfW : W.frozen? ⟨b', 0, none⟩ = false := by simp [World.frozen?, hhW]
 by_cases hmore : r.length - 22 * n > 22
 ·have hmi : ((r.length - 22 * n : Nat) : Int) > 22 := by omega
  have hlc : r.length ≤ cap := by simpa [jo] using hcap
  have hci : (22 : Int) ≤ ((cap - 22 * n : Nat) : Int) := by omega
  have hci2 : (22 : Int) ≤ ((r.length - 22 * n : Nat) : Int) := by omega
  have hci3 : ((r.length - 22 * n : Nat) : Int) ≤ ((cap - 22 * n : Nat) : Int) := by omega
  have hsp : (partsOf r).drop n = (1, (r.drop (22 * n)).take 22) :: partsOf ((r.drop (22 * n)).drop 22) := by rw [ql7 r n hn2, yf (by rw [List.length_drop]; exact hmore)]
  obtain ⟨fn, tmps, assign, body, hy, hR⟩ := hY n _ [.int .u8 1, .slice (some ⟨bb, off + 22 * n, none⟩) 22 (cap - 22 * n)] W (qv6 hsp) hJ rfl (by
   intro i v d hi hd
   match i with
   | 0 => simp [qc6] at hi hd; subst hi; subst hd; exact .int _ _
   | 1 => simp [qc6] at hi hd; subst hi; subst hd; exact xck hv (22 * n) 22 _ (by omega) (by omega) (by intro h; rw [h] at hmore; simp at hmore)
   | i + 2 => simp at hi)
  gi_wp2
  refine hR.mono ?_
  rintro e1 W1 ⟨rfl, hJ1, hk1⟩
  have hhW1 := (hk1 b' 0 hg).trans hhW
  have hcW1 : W1.cell? ⟨b', 0, none⟩ = some (.slice (some ⟨bb, off + 22 * n, none⟩) (r.length - 22 * n) (cap - 22 * n)) := by
   have : 0 < c.size := by simp at hsz; omega
   simp [World.cell?, hhW1, this]
  have hfW1 : W1.frozen? ⟨b', 0, none⟩ = false := by simp [World.frozen?, hhW1]
  gi_wp2
  refine ⟨_, ?_, n + 1, rfl, by omega, by omega, ⟨_, _, _, _, _, _, _, _, _, _, _, _, _, rfl⟩, ?_, ?_⟩
  ·omega
  ·rw [qzl _ hhW1, Array.setIfInBounds_setIfInBounds]
   have e1 : off + 22 * n + 22 = off + 22 * (n + 1) := by omega
   have e2 : r.length - 22 * n - 22 = r.length - 22 * (n + 1) := by omega
   have e3 : cap - 22 * n - 22 = cap - 22 * (n + 1) := by omega
   rw [e1, e2, e3]
  ·refine hab (n + 1) W1 _ hJ1 rfl rfl rfl (by simp [World.setCell]) (fun k hk => qv7 _ (fun h => hk 0 (h ▸ hg)))
 ·have hmi : ¬ ((r.length - 22 * n : Nat) : Int) > 22 := by omega
  have hsp : (partsOf r).drop n = [(2, r.drop (22 * n))] := by rw [ql7 r n hn2, yg (by rw [List.length_drop]; exact hmore)]
  have hln : (partsOf r).length = n + 1 := by
   have := congrArg List.length hsp
   simp at this; omega
  obtain ⟨fn, tmps, assign, body, hy, hR⟩ := hY n _ [.int .u8 2, .slice (some ⟨bb, off + 22 * n, none⟩) (r.length - 22 * n) (cap - 22 * n)] W (qv6 hsp) hJ rfl (by
   intro i v d hi hd
   match i with
   | 0 => simp [qc6] at hi hd; subst hi; subst hd; exact .int _ _
   | 1 =>
    simp [qc6] at hi hd; subst hi; subst hd
    rcases Nat.eq_zero_or_pos n with rfl | hn0
    ·have e1 : cap - 22 * 0 = cap := by omega
     rw [e1]
     simpa [jo] using hv
    ·have h1 := hn2 hn0
     have := xck hv (22 * n) (r.length - 22 * n) (cap - 22 * n) (by omega) (by
      have : r.length ≤ cap := by simpa [jo] using hcap
      omega) (by intro h; rw [h] at h1; simp at h1)
     rwa [List.take_of_length_le (by rw [List.length_drop]; omega)] at this
   | i + 2 => simp at hi)
  gi_wp2
  refine hR.mono ?_
  rintro e1 W1 ⟨rfl, hJ1, hk1⟩
  gi_wp2
  go_end0
  exact ⟨⟨_, rfl⟩, by rw [List.length_map, hln]; exact hJ1⟩
end Go.Proofs.YtkcdbcbpbolgkaaGreatDoor
namespace Go.Proofs.YtkcdbcbpbolgkaaGreatDoor
open Go.Abs
noncomputable section
set_option maxRecDepth 100000
set_option linter.defProp false
def d160 := cut Tryz.prog Tryz.f160 news
@[go_sem] def E160 := ql d160
def F160 := fnC d160 follows Tryz.func160
def d88 := cut Tryz.prog Tryz.f88 news
@[go_sem] def E88 := ql d88
def F88 := fnC d88 follows Tryz.func88
end
theorem xhz (r : List UInt8) : qg Tryz.prog 160 [.d (.sl 1 (qd r))] [] (.d (.func (.func 232) [] [.ptr 0 0])) [.row [.d (.sl 1 (qd r))]] := by
 refine F160.go ?_
 try (refine ev ?_; try exact True.intro)
 exact ⟨_, rfl⟩
def jj (p : Nat × List UInt8) : List UInt8 := [UInt8.ofNat p.1, UInt8.ofNat p.2.length] ++ p.2 ++ List.replicate (22 - p.2.length) 0
def qft (x : List UInt8 × Nat) (p : Nat × List UInt8) : List UInt8 × Nat := (x.1 ++ jj p ++ be8 (fnv x.2 (jj p)), fnv x.2 (jj p))
def vz (x : List UInt8 × Nat) (l : List (Nat × List UInt8)) : List UInt8 × Nat := l.foldl qft x
def yl (file r : List UInt8) : List UInt8 := (vz (file, qbm file) (partsOf r)).1
theorem qbb : ∀ (n : Nat) (r : List UInt8), r.length ≤ n → ∀ p ∈ partsOf r, (p.1 = 1 ∨ p.1 = 2) ∧ p.2.length ≤ 22
 | n, r, hn => by
  intro p hp
  by_cases h : r.length > 22
  ·rw [yf h] at hp
   rcases List.mem_cons.1 hp with rfl | hp
   ·exact ⟨.inl rfl, by simp; omega⟩
   ·cases n with
    | zero => omega
    | succ n => exact qbb n (r.drop 22) (by rw [List.length_drop]; omega) p hp
  ·rw [yg h] at hp
   have : p = (2, r) := by simpa using hp
   subst this
   exact ⟨.inr rfl, by simp only; omega⟩
theorem qqn : ∀ (n : Nat) (r : List UInt8), r.length ≤ n → (partsOf r).length ≤ r.length + 1
 | n, r, hn => by
  by_cases h : r.length > 22
  ·rw [yf h]
   cases n with
   | zero => omega
   | succ n =>
    have := qqn n (r.drop 22) (by rw [List.length_drop]; omega)
    rw [List.length_drop] at this
    rw [List.length_cons]
    omega
  ·rw [yg h]; simp
theorem qd1 {p : Nat × List UInt8} (h : p.2.length ≤ 22) : (jj p).length = 24 := by simp [jj]; omega
theorem qzm (x : List UInt8 × Nat) (l : List (Nat × List UInt8)) (p : Nat × List UInt8) : vz x (l ++ [p]) = qft (vz x l) p := by unfold vz; rw [List.foldl_append, List.foldl_cons, List.foldl_nil]
theorem qqo (x : List UInt8 × Nat) : ∀ l : List (Nat × List UInt8), (∀ p ∈ l, p.2.length ≤ 22) → (vz x l).1.length = x.1.length + 32 * l.length := by
 intro l h
 induction l generalizing x with
 | nil => simp [vz]
 | cons p l ih =>
  have := ih (qft x p) (fun q hq => h q (List.mem_cons_of_mem _ hq))
  have h1 := qd1 (h p List.mem_cons_self)
  have h2 : vz x (p :: l) = vz (qft x p) l := rfl
  rw [h2, this, qft]
  simp only [List.length_append, kz, h1, List.length_cons]
  omega
theorem q5o (file : List UInt8) : qbm file < 18446744073709551616 := by
 unfold qbm
 split
 ·omega
 ·have := qv0 8 (file.drop (file.length - 8)) (by rw [List.length_drop]; omega)
  have e : (256 : Nat) ^ 8 = 18446744073709551616 := by decide
  omega
theorem q8i (x : List UInt8 × Nat) (hx : x.2 < 18446744073709551616) (l : List (Nat × List UInt8)) : (vz x l).2 < 18446744073709551616 := by
 induction l generalizing x with
 | nil => exact hx
 | cons p l ih =>
  have h1 : (qft x p).2 = fnv x.2 (jj p) := by rw [qft]
  have h2 : (qft x p).2 < 18446744073709551616 := by rw [h1]; exact qqk hx _
  have h3 : vz x (p :: l) = vz (qft x p) l := rfl
  rw [h3]; exact ih _ h2
theorem q3j {cs new : List ASlot} {off : Nat} (h : off + new.length ≤ cs.length) : qa6 cs off new = cs.take off ++ new ++ cs.drop (off + new.length) := by
 apply List.ext_getElem?
 intro i
 rw [qeu new cs off i h]
 split
 ·rename_i hi
  rw [List.append_assoc, List.getElem?_append_right (by rw [List.length_take]; omega), List.length_take, Nat.min_eq_left (by omega), List.getElem?_append_left (by omega)]
 ·rename_i hi
  rcases Nat.lt_or_ge i off with h1 | h1
  ·rw [List.append_assoc, List.getElem?_append_left (by rw [List.length_take]; omega), List.getElem?_take, if_pos h1]
  ·rw [List.getElem?_append_right (by simp only [List.length_append, List.length_take]; omega), List.getElem?_drop]
   congr 1
   simp only [List.length_append, List.length_take]; omega
theorem q8j (p : Nat × List UInt8) (h1 : p.1 = 1 ∨ p.1 = 2) (h2 : p.2.length ≤ 22) :
  qa6 [ASlot.d (D.int .u8 (p.1 : Nat)), ASlot.d (D.int .u8 (IntKind.u8.wrap (p.2.length : Nat))), ASlot.d (D.int .u8 0), ASlot.d (D.int .u8 0), ASlot.d (D.int .u8 0), ASlot.d (D.int .u8 0), ASlot.d (D.int .u8 0), ASlot.d (D.int .u8 0), ASlot.d (D.int .u8 0), ASlot.d (D.int .u8 0), ASlot.d (D.int .u8 0), ASlot.d (D.int .u8 0), ASlot.d (D.int .u8 0), ASlot.d (D.int .u8 0), ASlot.d (D.int .u8 0), ASlot.d (D.int .u8 0), ASlot.d (D.int .u8 0), ASlot.d (D.int .u8 0), ASlot.d (D.int .u8 0), ASlot.d (D.int .u8 0), ASlot.d (D.int .u8 0), ASlot.d (D.int .u8 0), ASlot.d (D.int .u8 0), ASlot.d (D.int .u8 0)] 2 (List.map ASlot.d (List.take 22 (qd p.2)).flatten) = ((jj p).map js).map ASlot.d := by
 have e1 : (List.take 22 (qd p.2)).flatten = p.2.map js := by rw [List.take_of_length_le (by rw [jo]; exact h2), qdq]
 have e2 : [ASlot.d (D.int .u8 (p.1 : Nat)), ASlot.d (D.int .u8 (IntKind.u8.wrap (p.2.length : Nat))), ASlot.d (D.int .u8 0), ASlot.d (D.int .u8 0), ASlot.d (D.int .u8 0), ASlot.d (D.int .u8 0), ASlot.d (D.int .u8 0), ASlot.d (D.int .u8 0), ASlot.d (D.int .u8 0), ASlot.d (D.int .u8 0), ASlot.d (D.int .u8 0), ASlot.d (D.int .u8 0), ASlot.d (D.int .u8 0), ASlot.d (D.int .u8 0), ASlot.d (D.int .u8 0), ASlot.d (D.int .u8 0), ASlot.d (D.int .u8 0), ASlot.d (D.int .u8 0), ASlot.d (D.int .u8 0), ASlot.d (D.int .u8 0), ASlot.d (D.int .u8 0), ASlot.d (D.int .u8 0), ASlot.d (D.int .u8 0), ASlot.d (D.int .u8 0)] = ([UInt8.ofNat p.1, UInt8.ofNat p.2.length] ++ List.replicate 22 0).map (fun c => ASlot.d (js c)) := by
  have a1 : ((p.1 : Nat) : Int) = ((UInt8.ofNat p.1).toNat : Int) := by rcases h1 with h | h <;> rw [h] <;> rfl
  have a2 := qvx p.2.length
  rw [a1, a2]
  rfl
 rw [e1, e2, q3j (by simp; omega)]
 have a3 : ([UInt8.ofNat p.1, UInt8.ofNat p.2.length] ++ List.replicate 22 (0 : UInt8)).drop (2 + p.2.length) = List.replicate (22 - p.2.length) 0 := by
  rw [List.drop_append, List.drop_of_length_le (by simp), List.nil_append, List.drop_replicate]
  congr 1
  simp only [List.length_cons, List.length_nil]; omega
 rw [← List.map_take, ← List.map_drop, List.length_map, List.length_map, a3, jj]
 simp only [List.cons_append, List.nil_append, List.take_succ_cons, List.take_zero, List.map_cons, List.map_nil, List.map_append, List.map_map]
 rfl
theorem qqp (h : Nat) : qa6 [ASlot.d (D.int .u8 0), ASlot.d (D.int .u8 0), ASlot.d (D.int .u8 0), ASlot.d (D.int .u8 0), ASlot.d (D.int .u8 0), ASlot.d (D.int .u8 0), ASlot.d (D.int .u8 0), ASlot.d (D.int .u8 0)] 0 (((be8 h).map js).map ASlot.d) = ((be8 h).map js).map .d := rfl
theorem qqq (s : List UInt8) (n : Nat) : (List.take n (s.map js)).all D.isCell = true := by rw [← List.map_take]; exact qjd _
theorem qh9 {os : List AObj} {id n : Nat} {s : List UInt8} (h : qh os id = (s.map js).map .d) (hn : s.length = n) : qay os id 0 1 n = qd s := by
 unfold qay
 rw [h, List.drop_zero, qth, ← hn, qzh]
theorem xcl (a b c d : AObj) (l : List AObj) (s : List UInt8) (h : s.length = 24) : qay (a :: b :: c :: d :: .row ((s.map js).map .d) :: l) 4 0 1 24 = qd s := qh9 rfl h
theorem xcm (a b c d e : AObj) (l : List AObj) (s : List UInt8) (h : s.length = 8) : qay (a :: b :: c :: d :: e :: .row ((s.map js).map .d) :: l) 5 0 1 8 = qd s := qh9 rfl h
def Sapp (file r : List UInt8) (synced : Int) (k : Nat) : St :=
 ⟨[(2, true, .d (.ptr 0 0)), (4, true, .d (.ptr 1 0)), (5, true, .d (.int .i64 0)), (7, true, .d (.ptr 2 0)), (8, true, .d (.ptr 3 0))],
  [.row [.d (.sl 1 (qd file)), .d (.int .i64 synced)], .row [.d .nilsl, .d (.int .i64 0)], .row [.d (.int .u64 ((vz (file, qbm file) ((partsOf r).take k)).2 : Nat))], .row [.own 0 1 (qd (vz (file, qbm file) ((partsOf r).take k)).1)]], [0], 1⟩
def wz (file : List UInt8) (synced : Int) : List D := [.sl 1 (qd file), .int .i64 synced]
theorem qzn (file : List UInt8) (synced : Int) : D.noPtrL (wz file synced) = true := by simp only [wz, D.noPtrL, D.noPtr, yv, Bool.and_self]
attribute [go_sem] qzn
set_option maxRecDepth 10000 in
theorem qkn (file r : List UInt8) (synced : Int) (hf : file.length ≤ 100000000) (hr : r.length ≤ 2000) :
  qg Tryz.prog 88 [.d (.agg (wz file synced)), .d (.sl 1 (qd r))] [] (.tup [.d (.agg (wz (yl file r) synced)), .d (.int .i64 0)]) [] := by
 refine F88.goT ?_
 have hr0 : decide ((r.length : Int) > 2000) = false := by simp; omega
 try (refine ev1 @wz.eq_1 ?_; try exact True.intro)
 try (refine ev1 @hr0 ?_; try exact True.intro)
 (repeat (with_reducible refine ob ?_)); refine no_ ?_
 try (refine ev ?_; try exact True.intro)
 (repeat (with_reducible refine ob ?_)); refine cl F159 (xmq file (by omega)) ?_
 try (refine ev ?_; try exact True.intro)
 (repeat (with_reducible refine ob ?_))
 refine clO [4] F160 (xhz r) ?_
 try (refine ev ?_; try exact True.intro)
 have hft : List.take (file.length - 0) (qd file) = qd file := List.take_of_length_le (by rw [jo]; omega)
 try (refine ev1 @hft ?_; try exact True.intro)
 refine xpl 232 [.ptr 0 0] [4] [.row [.d (.sl 1 (qd r))]] ((partsOf r).map qc6) (Sapp file r synced) [(2, true, .d (.ptr 0 0)), (4, true, .d (.ptr 1 0)), (5, true, .d (.int .i64 0)), (7, true, .d (.ptr 2 0)), (8, true, .d (.ptr 3 0))]
  (q8h r (by omega)) ?_ ?_ ?_ ?_ ?_ ?_
 ·try (refine ev4 @Sapp.eq_1 @List.take_zero.{0} @vz.eq_1 @List.foldl_nil.{0,0} ?_; try exact True.intro)
 ·intro k vs hk
  rw [List.getElem?_map, Option.map_eq_some_iff] at hk
  obtain ⟨p, hp, rfl⟩ := hk
  obtain ⟨p1, p2⟩ := qbb _ r (Nat.le_refl _) p (List.mem_of_getElem? hp)
  obtain ⟨hk, hpk⟩ := List.getElem?_eq_some_iff.1 hp
  have htk : (partsOf r).take (k + 1) = (partsOf r).take k ++ [p] := by rw [List.take_succ_eq_append_getElem hk, hpk]
  have hh := q8i (file, qbm file) (q5o file) ((partsOf r).take k)
  have hln : (vz (file, qbm file) ((partsOf r).take k)).1.length ≤ 200000000 := by
   rw [qqo _ _ (fun q hq => (qbb _ r (Nat.le_refl _) q (List.mem_of_mem_take hq)).2), List.length_take]
   have := qqn _ r (Nat.le_refl _)
   simp only; omega
  have h24 := qd1 p2
  generalize hx : vz (file, qbm file) ((partsOf r).take k) = x at hh hln
  have hx1 : vz (file, qbm file) ((partsOf r).take (k + 1)) = qft x p := by rw [htk, qzm, hx]
  have hc := q8j p p1 p2
  have hck := xcf x.2 (jj p) hh (by omega)
  rw [h24] at hck
  try (refine ev5 @Sapp.eq_1 @qc6.eq_1 @hx @hx1 @hc ?_; try exact True.intro)
  (repeat (with_reducible refine ob ?_))
  refine clO [4] F161 hck ?_
  try simp only [qqp, qqq, xcl _ _ _ _ _ _ h24, xcm _ _ _ _ _ _ _ (kz _), kz, h24, xy, go_sem, Nat.reduceAdd, Nat.reduceMul, Nat.reduceSub, Nat.reduceEqDiff, Nat.reduceLT, Nat.reduceLeDiff, Nat.reduceBEq, reduceIte, reduceCtorEq, Int.reduceAdd, Int.reduceLT, Int.reduceLE, Int.reduceGT, Int.reduceGE, Int.reduceEq, Int.reduceNe, Int.reduceBEq, Int.reduceBNe, Int.reduceToNat, Int.reduceNeg]
  refine ⟨by omega, by omega, .weak ?_ (.refl _)⟩
  try (refine ev1 @qft.eq_1 ?_; try exact True.intro)
 ·have hw : vz (file, qbm file) (List.take (partsOf r).length (partsOf r)) = vz (file, qbm file) (partsOf r) := by rw [List.take_length]
  try (refine ev3 @Sapp.eq_1 @hw @yl.eq_1 ?_; try exact True.intro)
 ·intro vs hvs
  obtain ⟨p, _, rfl⟩ := List.mem_map.1 hvs
  exact ⟨rfl, by simp [qc6, D.noPtrL, D.noPtr, yv]⟩
 ·try (refine ev ?_; try exact True.intro)
 ·intro k id hid
  have : id = 4 := by simpa using hid
  subst this
  rfl
end Go.Proofs.YtkcdbcbpbolgkaaGreatDoor
namespace Go.Proofs.YtkcdbcbpbolgkaaGreatDoor
open Go.Abs
noncomputable section
set_option maxRecDepth 100000
set_option linter.defProp false
def d306 := cut Tryz.prog Tryz.f306 news
@[go_sem] def E306 := ql d306
def F306 := fnC d306 follows Tryz.func306
def d329 := cut Tryz.prog Tryz.f329 news
@[go_sem] def E329 := ql d329
def F329 := fnC d329 follows Tryz.func329
def d307 := cut Tryz.prog Tryz.f307 news
@[go_sem] def E307 := ql d307
def F307 := fnC d307 follows Tryz.func307
def d297 := cut Tryz.prog Tryz.f297 news
@[go_sem] def E297 := ql d297
def F297 := fnC d297 follows Tryz.func297
def d296 := cut Tryz.prog Tryz.f296 news
@[go_sem] def E296 := ql d296
def F296 := fnC d296 follows Tryz.func296
def d305 := cut Tryz.prog Tryz.f305 news
@[go_sem] def E305 := ql d305
def F305 := fnC d305 follows Tryz.func305
def d255 := cut Tryz.prog Tryz.f255 news
@[go_sem] def E255 := ql d255
def F255 := fnC d255 follows Tryz.func255
end
theorem qb2 {α : Type} (f : α → List UInt8) (k : Nat) : ∀ l : List α, (∀ x ∈ l, (f x).length ≤ k) → (l.flatMap f).length ≤ l.length * k
 | [], _ => by simp
 | x :: l, h => by
  have h1 := qb2 f k l fun y hy => h y (by simp [hy])
  have h2 := h x (by simp)
  simp only [List.flatMap_cons, List.length_append, List.length_cons, Nat.succ_mul]; omega
def ql8 (l : List Int) : List UInt8 := wInt l.length ++ l.flatMap wInt
def q5p (b : List UInt8) (l : List Int) (i : Nat) : St :=
 ⟨[(0, true, .own 0 1 (qd (b ++ (wInt l.length ++ (l.take i).flatMap wInt)))), (11, true, .d (.sl 1 (l.map encI))), (12, true, .d (.int .i64 l.length)), (13, true, .d (.int .i64 (i : Nat)))], [], [0], 1⟩
theorem q3k (b : List UInt8) (l : List Int) (hb : b.length ≤ 100000000) (hl : l.length ≤ 1000) (hi : ∀ x ∈ l, I64 x) :
  qg Tryz.prog 306 [.own 0 1 (qd b), .d (.sl 1 (l.map encI))] [] (.own 0 1 (qd (b ++ ql8 l))) [] := by
 have hw := xo (xz (n := l.length) (by omega))
 refine F306.go ?_
 try (refine ev ?_; try exact True.intro)
 refine clA F147 (jy b l.length (by omega) (xz (by omega))) ?_
 try (refine ev ?_; try exact True.intro)
 refine qj (fun i : { i : Nat // i ≤ l.length } => q5p b l i.val) (fun i => l.length - i.val) ⟨0, Nat.zero_le _⟩ ?_ (fun i => ?_)
 ·try (refine ev5 @q5p.eq_1 @List.take_zero.{0} @List.flatMap_nil.{0,0} @List.append_nil.{0} @Int.ofNat_zero ?_; try exact True.intro)
 obtain ⟨i, hi2⟩ := i
 try (refine ev1 @q5p.eq_1 ?_; try exact True.intro)
 refine xn _ (fun hc => ?_) (fun hc => ?_)
 ·have hil : i < l.length := by simpa using hc
  have hfl := qb2 wInt 10 (l.take i) fun x hx => xo (hi x (List.mem_of_mem_take hx))
  have htk : (l.take i).length ≤ i := by rw [List.length_take]; omega
  have hfl2 : ((l.take i).flatMap wInt).length ≤ 10000 := by omega
  have hsn := qfr wInt l hil
  try (refine ev2 (qi encI l hil) @encI.eq_1 ?_; try exact True.intro)
  (repeat (with_reducible refine ob ?_))
  refine clA F147 (jy (b ++ (wInt l.length ++ (l.take i).flatMap wInt)) l[i] (by simp only [List.length_append]; omega) (hi _ (List.getElem_mem hil))) ?_
  try (refine ev ?_; try exact True.intro)
  refine ⟨⟨i + 1, hil⟩, ?_, by dsimp only; omega⟩
  try (refine ev4 @q5p.eq_1 @hsn @List.append_assoc.{0} (qf (show i < 9223372036854775807 by omega)) ?_; try exact True.intro)
 ·have hie : i = l.length := by
   have : l.length ≤ i := by simpa using hc
   omega
  subst hie
  try (refine ev2 @List.take_length.{0} @ql8.eq_1 ?_; try exact True.intro)
def wAV (v : AV) : List UInt8 := wInt v.kind ++ (if v.kind = 1 then wInt v.n else if v.kind = 2 then qa0 v.s else [])
def AV.Sm (v : AV) : Prop := I64 v.kind ∧ I64 v.n ∧ v.s.length ≤ 1000000
theorem xcn {v : AV} (h : v.Sm) : (wAV v).length ≤ 1000020 := by
 obtain ⟨h1, h2, h3⟩ := h
 have a1 := xo h1
 have a2 := xo h2
 have a3 := qeg v.s (by omega)
 unfold wAV
 rw [List.length_append]
 split
 ·omega
 ·split
  ·omega
  ·simp only [List.length_nil]; omega
theorem qzo (b : List UInt8) (v : AV) (hb : b.length ≤ 100000000) (hv : v.Sm) :
  qg Tryz.prog 329 [.own 0 1 (qd b), .d (.agg (xq v))] [] (.own 0 1 (qd (b ++ wAV v))) [] := by
 obtain ⟨h1, h2, h3⟩ := hv
 have a1 := xo h1
 refine F329.go ?_
 try (refine ev1 @xq.eq_1 ?_; try exact True.intro)
 refine clA F147 (jy b v.kind (by omega) h1) ?_
 try (refine ev ?_; try exact True.intro)
 refine xn _ (fun hc => ?_) (fun hc => ?_)
 ·have hk : v.kind = 1 := by simpa using hc
  have e : wAV v = wInt v.kind ++ wInt v.n := by rw [wAV, if_pos hk]
  try (refine ev ?_; try exact True.intro)
  refine clA F147 (jy (b ++ wInt v.kind) v.n (by rw [List.length_append]; omega) h2) ?_
  try (refine ev2 @e @List.append_assoc.{0} ?_; try exact True.intro)
 ·have hk : v.kind ≠ 1 := by simpa using hc
  try (refine ev ?_; try exact True.intro)
  refine xn _ (fun hd => ?_) (fun hd => ?_)
  ·have hk2 : v.kind = 2 := by simpa using hd
   have e : wAV v = wInt v.kind ++ qa0 v.s := by rw [wAV, if_neg hk, if_pos hk2]
   try (refine ev ?_; try exact True.intro)
   refine clA F157 (qja (b ++ wInt v.kind) v.s (by rw [List.length_append]; omega)) ?_
   try (refine ev2 @e @List.append_assoc.{0} ?_; try exact True.intro)
  ·have hk2 : v.kind ≠ 2 := by simpa using hd
   have e : wAV v = wInt v.kind := by rw [wAV, if_neg hk, if_neg hk2, List.append_nil]
   try (refine ev1 @e ?_; try exact True.intro)
def wAVs (l : List AV) : List UInt8 := wInt l.length ++ l.flatMap wAV
def xh0 (b : List UInt8) (l : List AV) (i : Nat) : St :=
 ⟨[(0, true, .own 0 1 (qd (b ++ (wInt l.length ++ (l.take i).flatMap wAV)))), (11, true, .d (.sl 3 (l.map xq))), (12, true, .d (.int .i64 l.length)), (13, true, .d (.int .i64 (i : Nat)))], [], [0], 1⟩
theorem qv8 (b : List UInt8) (l : List AV) (hb : b.length ≤ 10000000) (hl : l.length ≤ 50) (hi : ∀ x ∈ l, x.Sm) :
  qg Tryz.prog 307 [.own 0 1 (qd b), .d (.sl 3 (l.map xq))] [] (.own 0 1 (qd (b ++ wAVs l))) [] := by
 have hw := xo (xz (n := l.length) (by omega))
 refine F307.go ?_
 try (refine ev ?_; try exact True.intro)
 refine clA F147 (jy b l.length (by omega) (xz (by omega))) ?_
 try (refine ev ?_; try exact True.intro)
 refine qj (fun i : { i : Nat // i ≤ l.length } => xh0 b l i.val) (fun i => l.length - i.val) ⟨0, Nat.zero_le _⟩ ?_ (fun i => ?_)
 ·try (refine ev5 @xh0.eq_1 @List.take_zero.{0} @List.flatMap_nil.{0,0} @List.append_nil.{0} @Int.ofNat_zero ?_; try exact True.intro)
 obtain ⟨i, hi2⟩ := i
 try (refine ev1 @xh0.eq_1 ?_; try exact True.intro)
 refine xn _ (fun hc => ?_) (fun hc => ?_)
 ·have hil : i < l.length := by simpa using hc
  have hfl := qb2 wAV 1000020 (l.take i) fun x hx => xcn (hi x (List.mem_of_mem_take hx))
  have htk : (l.take i).length ≤ i := by rw [List.length_take]; omega
  have hfl2 : ((l.take i).flatMap wAV).length ≤ 60000000 := by omega
  have hsn := qfr wAV l hil
  try (refine ev2 (qi xq l hil) @xq.eq_1 ?_; try exact True.intro)
  (repeat (with_reducible refine ob ?_))
  have hva := qzo (b ++ (wInt l.length ++ (l.take i).flatMap wAV)) l[i] (by simp only [List.length_append]; omega) (hi _ (List.getElem_mem hil))
  simp only [xq] at hva
  refine clA F329 hva ?_
  try (refine ev ?_; try exact True.intro)
  refine ⟨⟨i + 1, hil⟩, ?_, by dsimp only; omega⟩
  try (refine ev4 @xh0.eq_1 @hsn @List.append_assoc.{0} (qf (show i < 9223372036854775807 by omega)) ?_; try exact True.intro)
 ·have hie : i = l.length := by
   have : l.length ≤ i := by simpa using hc
   omega
  subst hie
  try (refine ev2 @List.take_length.{0} @wAVs.eq_1 ?_; try exact True.intro)
theorem qoi (s : List UInt8) (hl : s.length ≤ 1000000000) : qg Tryz.prog 297 [.d (.sl 1 (qd s))] [] (.d (.int .u64 (fnv 14695981039346656037 s : Nat))) [] := by
 have h0 := xce 14695981039346656037 s (by decide) hl
 refine F297.go ?_
 try (refine ev ?_; try exact True.intro)
 (repeat (with_reducible refine ob ?_)); first | refine cl F233 (h0) ?_ | refine clF F233 (h0) (fun _ => by (refine ev3 @xq.eq_1 @encI.eq_1 @qe.eq_1 ?_; try exact True.intro)) ?_
 try (refine ev ?_; try exact True.intro)
def Seig (h : Nat) (i : { i : Nat // i ≤ 8 }) : St :=
 ⟨[(0, true, .d (.int .u64 (h : Nat))), (2, true, .d (.ptr 0 0)), (3, true, .d (.ptr 1 0)), (5, true, .d (.int .i64 (i.val : Nat)))], [.row ((List.replicate 8 (D.int .u8 0)).map .d), .row ((((be8 h).take i.val ++ List.replicate (8 - i.val) 0).map js).map .d)], [], 1⟩
theorem qoj (h : Nat) (hh : h < 18446744073709551616) : qg Tryz.prog 296 [.d (.int .u64 h)] [] (.d (.agg ((be8 h).map js))) [] := by
 refine F296.go ?_
 try (refine ev ?_; try exact True.intro)
 refine qj (Seig h) (fun i => 8 - i.val) ⟨0, Nat.zero_le _⟩ ?_ (fun i => ?_)
 ·try (refine ev3 @Seig.eq_1 @List.take_zero.{0} @ql5 ?_; try exact True.intro)
 obtain ⟨i, hi⟩ := i
 try (refine ev1 @Seig.eq_1 ?_; try exact True.intro)
 refine xn _ (fun hc => ?_) (fun hc => ?_)
 ·have hil : i < 8 := by simp at hc; omega
  have e1 : IntKind.i64.wrap (7 - (i : Int)) = 7 - i := zf (by unfold I64; omega)
  have e2 : IntKind.i64.wrap (8 * (7 - (i : Int))) = 8 * (7 - i) := zf (by unfold I64; omega)
  have hlen := kz h
  try simp only [Nat.mul_one, qvz _ _ hil, qdr, q3g _ hil, e1, e2, List.length_take, List.length_replicate, go_sem, Nat.reduceAdd, Nat.reduceMul, Nat.reduceSub, Nat.reduceEqDiff, Nat.reduceLT, Nat.reduceLeDiff, Nat.reduceBEq, reduceIte, reduceCtorEq, Int.reduceAdd, Int.reduceLT, Int.reduceLE, Int.reduceGT, Int.reduceGE, Int.reduceEq, Int.reduceNe, Int.reduceBEq, Int.reduceBNe, Int.reduceToNat, Int.reduceNeg]
  (repeat (with_reducible refine ob ?_))
  refine ⟨⟨i + 1, hil⟩, ?_, by dsimp only; omega⟩
  try (refine ev2 @Seig.eq_1 (qf (show i < 9223372036854775807 by omega)) ?_; try exact True.intro)
 ·have hie : i = 8 := by simp at hc; omega
  subst hie
  try (refine ev3 @q3h @be8.eq_1 @js.eq_1 ?_; try exact True.intro)
def qhm (s : List UInt8) : List UInt8 := s ++ be8 (fnv 14695981039346656037 s)
theorem xco (s : List UInt8) (hl : s.length ≤ 100000000) : qg Tryz.prog 305 [.d (.sl 1 (qd s))] [] (.d (.sl 1 (qd (qhm s)))) [] := by
 have hlt := qqk (h := 14695981039346656037) (by decide) s
 refine F305.go ?_
 try (refine ev ?_; try exact True.intro)
 (repeat (with_reducible refine ob ?_)); first | refine cl F297 (qoi s (by omega)) ?_ | refine clF F297 (qoi s (by omega)) (fun _ => by (refine ev3 @xq.eq_1 @encI.eq_1 @qe.eq_1 ?_; try exact True.intro)) ?_
 try (refine ev ?_; try exact True.intro)
 have hw : IntKind.i64.wrap ((s.length : Int) + 8) = ((s.length + 8 : Nat) : Int) := by rw [zf (by unfold I64; omega)]; omega
 (repeat (with_reducible refine ob ?_)); first | refine cl F296 (qoj _ hlt) ?_ | refine clF F296 (qoj _ hlt) (fun _ => by (refine ev3 @xq.eq_1 @encI.eq_1 @qe.eq_1 ?_; try exact True.intro)) ?_
 generalize hh : fnv 14695981039346656037 s = h
 have hr : qay [AObj.row (((be8 h).map js).map ASlot.d)] 0 0 1 8 = qd (be8 h) := qh9 rfl (kz _)
 have h8 := kz h
 have hs : qd s ++ qd (be8 h) = qd (qhm s) := by rw [xy, qhm, hh]
 try (refine ev6 @hw @qqp @qqq @kz @hr @hs ?_; try exact True.intro)
 (repeat (with_reducible refine ob ?_))
 omega
def k7 (p : Pk) : List Int := [p.kind, p.sess, p.epoch, p.from_, p.to, p.seq, p.label]
def w5 (p : Pk) : List UInt8 := (k7 p).flatMap wInt ++ wAVs p.values ++ ql8 p.clock
def qa1 (p : Pk) : List UInt8 × Int := if qk p then (qhm (w5 p), 0) else ([], 1)
structure Pk.W (p : Pk) : Prop where
 h : ∀ x ∈ k7 p, I64 x
 v : ∀ x ∈ p.values, x.Sm
 c : ∀ x ∈ p.clock, I64 x
def xh1 (p : Pk) (i : Nat) : St :=
 ⟨[(1, true, .d (.ptr 0 0)), (4, true, .own 0 1 (qd (((k7 p).take i).flatMap wInt))), (24, true, .d (.sl 1 ((k7 p).map encI))), (25, true, .d (.int .i64 7)), (26, true, .d (.int .i64 (i : Nat)))], [.row ((qe p).map .d)], [0], 1⟩
theorem qko {p : Pk} (h : qk p = true) : p.values.length ≤ 4 ∧ p.clock.length ≤ 6 := by
 unfold qk data ack order bare at h
 grind
set_option maxRecDepth 10000 in
theorem q8k (p : Pk) (hp : p.Sm) (hw : p.W) : qg Tryz.prog 255 [.d (.agg (qe p))] [] (.tup [.d (.sl 1 (qd (qa1 p).1)), .d (.int .i64 (qa1 p).2)]) [] := by
 refine F255.goT ?_
 try (refine ev1 @qe.eq_1 ?_; try exact True.intro)
 (repeat (with_reducible refine ob ?_)); first | refine cl F70 (zo p hp.v hp.c) ?_ | refine clF F70 (zo p hp.v hp.c) (fun _ => by (refine ev3 @xq.eq_1 @encI.eq_1 @qe.eq_1 ?_; try exact True.intro)) ?_
 try (refine ev ?_; try exact True.intro)
 (repeat (with_reducible refine ob ?_)); refine xn _ (fun h => ?_) (fun h => ?_)
 ·have hb : qa1 p = ([], 1) := by unfold qa1; rw [if_neg]; simpa using h
  try (refine ev2 @hb @qx ?_; try exact True.intro)
 have hv : qk p = true := by simpa using h
 have hb : qa1 p = (qhm (w5 p), 0) := by unfold qa1; rw [if_pos hv]
 obtain ⟨f1, f2⟩ := qko hv
 try (refine ev ?_; try exact True.intro)
 refine qj (fun i : { i : Nat // i ≤ 7 } => xh1 p i.val) (fun i => 7 - i.val) ⟨0, Nat.zero_le _⟩ ?_ (fun i => ?_)
 ·try simp only [xh1, List.take_zero, List.flatMap_nil, qx, Int.ofNat_zero, qe, k7, List.map_cons, List.map_nil, encI, go_sem, Nat.reduceAdd, Nat.reduceMul, Nat.reduceSub, Nat.reduceEqDiff, Nat.reduceLT, Nat.reduceLeDiff, Nat.reduceBEq, reduceIte, reduceCtorEq, Int.reduceAdd, Int.reduceLT, Int.reduceLE, Int.reduceGT, Int.reduceGE, Int.reduceEq, Int.reduceNe, Int.reduceBEq, Int.reduceBNe, Int.reduceToNat, Int.reduceNeg]
 obtain ⟨i, hi⟩ := i
 try (refine ev1 @xh1.eq_1 ?_; try exact True.intro)
 refine xn _ (fun hc => ?_) (fun hc => ?_)
 ·have hil : i < (k7 p).length := by simp [k7] at hc ⊢; omega
  have hx := hw.h _ (List.getElem_mem hil)
  have hfl := qb2 wInt 10 ((k7 p).take i) fun x hx => xo (hw.h x (List.mem_of_mem_take hx))
  have htk : ((k7 p).take i).length ≤ 7 := by rw [List.length_take]; omega
  have hsn := qfr wInt (k7 p) hil
  have h7 : (k7 p).length = 7 := rfl
  try (refine ev2 (qi encI (k7 p) hil) @encI.eq_1 ?_; try exact True.intro)
  (repeat (with_reducible refine ob ?_))
  refine clA F147 (jy (((k7 p).take i).flatMap wInt) (k7 p)[i] (by omega) hx) ?_
  try (refine ev ?_; try exact True.intro)
  refine ⟨⟨i + 1, hil⟩, ?_, by dsimp only; omega⟩
  try (refine ev3 @xh1.eq_1 @hsn (qf (show i < 9223372036854775807 by omega)) ?_; try exact True.intro)
 ·have hie : i = 7 := by simp at hc; omega
  subst hie
  have ht : (k7 p).take 7 = k7 p := rfl
  have hfl := qb2 wInt 10 (k7 p) fun x hx => xo (hw.h x hx)
  have h7 : (k7 p).length = 7 := rfl
  have hwv : (wAVs p.values).length ≤ 5000000 := by
   have h1 := xo (xz (n := p.values.length) (by omega))
   have h2 := qb2 wAV 1000020 p.values fun x hx => xcn (hw.v x hx)
   simp only [wAVs, List.length_append]; omega
  have hwc : (ql8 p.clock).length ≤ 5000000 := by
   have h1 := xo (xz (n := p.clock.length) (by omega))
   have h2 := qb2 wInt 10 p.clock fun x hx => xo (hw.c x hx)
   simp only [ql8, List.length_append]; omega
  try (refine ev2 @ht @qe.eq_1 ?_; try exact True.intro)
  refine clA F307 (qv8 ((k7 p).flatMap wInt) p.values (by omega) (by omega) hw.v) ?_
  try (refine ev ?_; try exact True.intro)
  refine clA F306 (q3k ((k7 p).flatMap wInt ++ wAVs p.values) p.clock (by rw [List.length_append]; omega) (by omega) hw.c) ?_
  try (refine ev ?_; try exact True.intro)
  (repeat (with_reducible refine ob ?_)); first | refine cl F305 (xco (w5 p) (by simp only [w5, List.length_append]; omega)) ?_ | refine clF F305 (xco (w5 p) (by simp only [w5, List.length_append]; omega)) (fun _ => by (refine ev3 @xq.eq_1 @encI.eq_1 @qe.eq_1 ?_; try exact True.intro)) ?_
  try (refine ev1 @hb ?_; try exact True.intro)
end Go.Proofs.YtkcdbcbpbolgkaaGreatDoor
namespace Go.Proofs.YtkcdbcbpbolgkaaGreatDoor
open Go.Abs
noncomputable section
set_option maxRecDepth 100000
set_option linter.defProp false
def d127 := cut Tryz.prog Tryz.f127 news
@[go_sem] def E127 := ql d127
def F127 := fnC d127 follows Tryz.func127
def d86 := cut Tryz.prog Tryz.f86 news
@[go_sem] def E86 := ql d86
def F86 := fnC d86 follows Tryz.func86
end
theorem yq (s : List UInt8) (hl : s.length ≤ 1000000000) : qg Tryz.prog 127 [.d (.sl 1 (qd s))] [] (.d (.sl 1 (qd s))) [] := by
 refine F127.go ?_
 try (refine ev ?_; try exact True.intro)
 refine ql1 rfl rfl (fun b hb => ?_)
 try (refine ev ?_; try exact True.intro)
 (repeat (with_reducible refine ob ?_)); refine xn _ (fun h => ?_) (fun h => ?_)
 ·try (refine ev1 (hb h) ?_; try exact True.intro)
 ·try (refine ev ?_; try exact True.intro)
  omega
theorem q8l (w : World) (t : TypeId) (b : Nat) (es : Array MapEntry) (clock : Nat) (hb : w.heap[b]? = some (.map es clock)) :
  (callFunc 158 #[.iface t (.map (some b))]).run Tryz.prog w = .ok (.value (.iface t (.map (some w.heap.size)))) (w.alloc (.map es clock)) := by
 rw [run_callFunc_extern Tryz.func158 rfl (by kernel_rfl) (by kernel_rfl) (e := Extern.MapsClone.clone) (by kernel_rfl)]
 have e : Extern.MapsClone.clone #[.iface t (.map (some b))] = (getObj b >>= fun o => match o with
   | .map entries clock => (newObj (.map entries clock) >>= fun n => pure (.iface t (.map (some n))))
   | _ => stuck "maps.clone: a map expected") := rfl
 rw [e]
 simp [MapKept.run_getObj_map hb, Result.andThen]
set_option maxRecDepth 100000 in
set_option maxHeartbeats 1000000 in
theorem xcp (es : Ents) (c : Nat) : qg Tryz.prog 86 [.d (.map 0)] [.map es c] (.d (.map 1)) [.map es c, .map es c] := by
 intro g w vs hd hlen hv ho
 match vs, hlen with
 | [v0], _ =>
 have h0 := qm6 (v8 (jc (hv 0 v0 _ rfl rfl)))
 obtain ⟨b, rfl, hg⟩ := h0
 obtain ⟨b', hb', l, hh, hl, he⟩ := (ho.objs 0 _ rfl (by simp)).resolve_right (fun h => by cases h.1)
 have : b' = b := ho.inj b' b 0 hb' hg
 subst this
 go_enter Tryz.func86, Tryz.ntmps86
 have hcl := q8l w 178 b' l.toArray c hh
 have hbin : (binOp .eql 178 (.map (some b')) (.map none)).run Tryz.prog w = .ok (.bool false) w := by
  simp [binOp, qj3 Tryz.underlying178]
 have hta : ∀ W, (Instr.typeAssert (.iface 178 (.map (some w.heap.size))) 20 178 false).run Tryz.prog W = .ok (.map (some w.heap.size)) W := fun W => by
  simp [Instr.typeAssert, run_underlying Tryz.underlying178]
 go_wp2_with (first | simp only [hbin, Result.andThen_ok] | simp only [hcl] | simp only [hta, Result.andThen_ok])
 go_ret
 have hs : SR 0 (fun _ => False) g w ⟨[], [.map es c, .none], [], 1⟩ { tmps := #[], defers := [] } := by
  refine ⟨hd, trivial, rfl, fun k v s h => by simp [Fr.get] at h, fun id o hid hn => ?_, ho.inj, fun b id hb => ?_, ⟨by simp, fun k s h => by simp [Fr.get] at h, fun id o hid s hs => ?_⟩⟩
  ·match id with
   | 0 => exact ho.objs 0 o hid hn
   | 1 => simp at hid; exact (hn hid.symm).elim
   | i + 2 => simp at hid
  ·obtain ⟨o, h1, h2⟩ := ho.ids b id hb
   refine ⟨o, ?_, h2⟩
   match id with
   | 0 => exact h1
   | i + 1 => simp at h1
  ·match id with
   | 0 => simp at hid; subst hid; simp [AObj.cells] at hs
   | 1 => simp at hid; subst hid; simp [AObj.cells] at hs
   | i + 2 => simp at hid
 obtain ⟨q1, q2⟩ := hs.newObjA (id := 1) (o := .map es c) (blk := .map l.toArray c) rfl (by simp) (fun hG hr _ => ⟨l, heap_alloc_new w _, hl, fun i e x h1 h2 => (he i e x h1 h2).mono hr⟩) (by simp [AObj.cells])
 refine ⟨_, _, [], rfl, q1, q2.dom, by simp [ASlot.toks, xg, AObj.cells], .map _ 1 (Ghost.at_same _ _ _), ⟨fun id o hid hn => q2.objs id o hid hn, q2.inj, fun b id hb => q2.ids b id hb⟩⟩
end Go.Proofs.YtkcdbcbpbolgkaaGreatDoor
namespace Go.Proofs.YtkcdbcbpbolgkaaGreatDoor
open Go.Abs
abbrev KV := Nat × List UInt8 × List UInt8
structure Cont where
 l : List KV
 c : Nat
 deriving DecidableEq, Inhabited
def qer (x : KV) : Nat × D × D := (x.1, .str x.2.1, .sl 1 (qd x.2.2))
def mapO (m : Cont) : AObj := .map (m.l.map qer) m.c
def zp (k : List UInt8) (x : KV) : Bool := k == x.2.1
def mPut (k v : List UInt8) (m : Cont) : Cont := match m.l.findIdx? (zp k) with
 | some j => ⟨m.l.modify j fun e => (e.1, k, v), m.c⟩
 | none => ⟨m.l ++ [(m.c, k, v)], m.c + 1⟩
def mDel (k : List UInt8) (m : Cont) : Cont := match m.l.findIdx? (zp k) with
 | some j => ⟨m.l.eraseIdx j, m.c⟩
 | none => m
def mGet (k : List UInt8) (m : Cont) : Option (List UInt8) := (m.l.find? (zp k)).map (·.2.2)
theorem qje (k : List UInt8) (l : List KV) : (l.map qer).findIdx? (qa2 (.str k)) = l.findIdx? (zp k) := by
 rw [List.findIdx?_map]; rfl
theorem q8m (k v : List UInt8) (m : Cont) : qg5 (.str k) (.sl 1 (qd v)) m.c (m.l.map qer) = (mPut k v m).l.map qer := by
 unfold qg5 mPut
 rw [qje]
 cases h : m.l.findIdx? (zp k) with
 | none => simp [qer]
 | some j =>
  simp only
  apply List.ext_getElem?
  intro i
  rw [List.getElem?_modify, List.getElem?_map, List.getElem?_map, List.getElem?_modify]
  cases m.l[i]? with
  | none => rfl
  | some x =>
   show some (if j = i then _ else _) = some (qer (if j = i then _ else _))
   split <;> rfl
theorem qzp (k v : List UInt8) (m : Cont) : qbr (.str k) m.c (m.l.map qer) = (mPut k v m).c := by
 unfold qbr mPut
 rw [qje]
 cases m.l.findIdx? (zp k) <;> rfl
theorem q8n (k : List UInt8) (m : Cont) : qoz (.str k) (m.l.map qer) = (mDel k m).l.map qer := by
 unfold qoz mDel
 rw [qje]
 cases m.l.findIdx? (zp k) with
 | none => rfl
 | some j =>
  simp only
  apply List.ext_getElem?
  intro i
  rw [List.getElem?_eraseIdx, List.getElem?_map, List.getElem?_map, List.getElem?_map, List.getElem?_eraseIdx]
  split <;> rfl
theorem xkv (k : List UInt8) (m : Cont) : (mDel k m).c = m.c := by unfold mDel; split <;> rfl
theorem q8o (k : List UInt8) (l : List KV) : keyFit .str (.str k) (l.map qer) = true := by
 simp only [keyFit, KD.fit, Bool.true_and, List.all_map]
 exact List.all_eq_true.2 fun x _ => rfl
attribute [go_sem] q8o
def jp : Cont → List OpS → Cont × Bool
 | m, [] => (m, true)
 | m, o :: l => if o.del then jp (mDel o.key m) l else if (mPut o.key o.val m).l.length > 400 then (mPut o.key o.val m, false) else jp (mPut o.key o.val m) l
noncomputable section
set_option maxRecDepth 100000
set_option linter.defProp false
def d87 := cut Tryz.prog Tryz.f87 news
@[go_sem] def E87 := ql d87
def F87 := fnC d87 follows Tryz.func87
end
def qzq (m : Cont) (l : List OpS) (i : { i : Nat × Cont // i.1 ≤ l.length ∧ jp i.2 (l.drop i.1) = jp m l }) : St :=
 ⟨[(0, true, .d (.map 0)), (7, true, .d (.sl 3 (l.map qp))), (8, true, .d (.int .i64 l.length)), (9, true, .d (.int .i64 (i.val.1 : Nat)))], [mapO i.val.2], [], 1⟩
theorem q5q (m : Cont) (l : List OpS) (hl : l.length ≤ 100000) (hv : ∀ o ∈ l, o.val.length ≤ 1000000) : qg Tryz.prog 87 [.d (.map 0), .d (.sl 3 (l.map qp))] [mapO m] (.d (.bool (jp m l).2)) [mapO (jp m l).1] := by
 refine F87.go ?_
 try (refine ev1 @mapO.eq_1 ?_; try exact True.intro)
 refine qj (qzq m l) (fun i => l.length - i.val.1) ⟨(0, m), Nat.zero_le _, rfl⟩ ?_ (fun i => ?_)
 ·try (refine ev2 @qzq.eq_1 @mapO.eq_1 ?_; try exact True.intro)
 obtain ⟨⟨i, mi⟩, hi, ha⟩ := i
 simp only at hi ha
 try (refine ev2 @qzq.eq_1 @mapO.eq_1 ?_; try exact True.intro)
 refine xn _ (fun hc => ?_) (fun hc => ?_)
 ·have hil : i < l.length := by simpa using hc
  have hd : l.drop i = l[i] :: l.drop (i + 1) := List.drop_eq_getElem_cons hil
  rw [hd, jp] at ha
  try (refine ev2 (qi qp l hil) @qp.eq_1 ?_; try exact True.intro)
  (repeat (with_reducible refine ob ?_))
  (repeat (with_reducible refine ob ?_)); refine xn _ (fun h => ?_) (fun h => ?_)
  ·rw [if_pos h] at ha
   try (refine ev1 @q8n ?_; try exact True.intro)
   refine ⟨⟨(i + 1, mDel l[i].key mi), hil, ha⟩, ?_, by dsimp only; omega⟩
   try (refine ev4 @qzq.eq_1 @mapO.eq_1 @xkv (qf (show i < 9223372036854775807 by omega)) ?_; try exact True.intro)
  ·rw [if_neg (by simp [h])] at ha
   try (refine ev ?_; try exact True.intro)
   (repeat (with_reducible refine ob ?_)); first | refine cl F127 (yq l[i].val (by have := hv l[i] (List.getElem_mem hil); omega)) ?_ | refine clF F127 (yq l[i].val (by have := hv l[i] (List.getElem_mem hil); omega)) (fun _ => by (refine ev1 @qp.eq_1 ?_; try exact True.intro)) ?_
   try simp only [q8m, qzp _ l[i].val, go_sem, Nat.reduceAdd, Nat.reduceMul, Nat.reduceSub, Nat.reduceEqDiff, Nat.reduceLT, Nat.reduceLeDiff, Nat.reduceBEq, reduceIte, reduceCtorEq, Int.reduceAdd, Int.reduceLT, Int.reduceLE, Int.reduceGT, Int.reduceGE, Int.reduceEq, Int.reduceNe, Int.reduceBEq, Int.reduceBNe, Int.reduceToNat, Int.reduceNeg]
   refine xn _ (fun h4 => ?_) (fun h4 => ?_)
   ·rw [if_pos (by simp at h4; omega)] at ha
    try (refine ev1 ha.symm ?_; try exact True.intro)
   ·rw [if_neg (by simp at h4; omega)] at ha
    try (refine ev ?_; try exact True.intro)
    refine ⟨⟨(i + 1, mPut l[i].key l[i].val mi), hil, ha⟩, ?_, by dsimp only; omega⟩
    try (refine ev3 @qzq.eq_1 @mapO.eq_1 (qf (show i < 9223372036854775807 by omega)) ?_; try exact True.intro)
 ·have hie : i = l.length := by simp at hc; omega
  subst hie
  rw [List.drop_length, jp] at ha
  try (refine ev1 ha.symm ?_; try exact True.intro)
end Go.Proofs.YtkcdbcbpbolgkaaGreatDoor
namespace Go.Proofs.YtkcdbcbpbolgkaaGreatDoor
open Go.Abs
structure Sto where
 file : List UInt8
 synced : Int
 m : Cont
 deriving DecidableEq, Inhabited
def stoO (s : Sto) (id : Nat) : AObj := .row [.d (.sl 1 (qd s.file)), .d (.int .i64 s.synced), .d (.map id)]
def qdi : Cont := ⟨[], 0⟩
def newS : Sto := ⟨[], 0, qdi⟩
noncomputable section
set_option maxRecDepth 100000
set_option linter.defProp false
def d28 := cut Tryz.prog Tryz.f28 news
@[go_sem] def E28 := ql d28
def F28 := fnC d28 follows Tryz.func28
def d29 := cut Tryz.prog Tryz.f29 news
@[go_sem] def E29 := ql d29
def F29 := fnC d29 follows Tryz.func29
def d184 := cut Tryz.prog Tryz.f184 news
@[go_sem] def E184 := ql d184
def d62 := cut Tryz.prog Tryz.f62 news
@[go_sem] def E62 := ql d62
def F62 := fnC d62 follows Tryz.func62
def d128 := cut Tryz.prog Tryz.f128 news
@[go_sem] def E128 := ql d128
def F128 := fnC d128 follows Tryz.func128
def d61 := cut Tryz.prog Tryz.f61 news
@[go_sem] def E61 := ql d61
def F61 := fnC d61 follows Tryz.func61
end
theorem xkw : qg Tryz.prog 28 [] [] (.d (.ptr 1 0)) [mapO qdi, stoO newS 0] := by
 refine F28.go ?_
 try (refine ev6 @mapO.eq_1 @stoO.eq_1 @qdi.eq_1 @newS.eq_1 @List.map_nil.{0,0} @qx ?_; try exact True.intro)
def xf (s : Sto) (l : List OpS) : Sto × Int :=
 if (qr l).2 ≠ 0 then (s, (qr l).2) else if (jp s.m l).2 = false then (s, 28) else (⟨yl s.file (qr l).1, s.synced, (jp s.m l).1⟩, 0)
def qcx (s : Sto) (l : List OpS) : List AObj := if (xf s l).2 = 0 then [stoO (xf s l).1 2, mapO s.m, mapO (xf s l).1.m] else [stoO s 1, mapO s.m, .none]
theorem qai (l : List OpS) : (qr l).1.length ≤ 2000 := by
 unfold qr
 split
 ·simp
 ·split
  ·simp
  ·rename_i h
   simp only [Bool.or_eq_true, decide_eq_true_eq, not_or] at h
   simp only; omega
theorem v6 {l : List OpS} (h : (qr l).2 = 0) : l.length ≤ 20 ∧ (∀ o ∈ l, jz o = true) ∧ qr l = (wOps l, 0) := by
 unfold qr at h ⊢
 split at h
 ·simp at h
 ·rename_i h1
  split at h
  ·simp at h
  ·rename_i h2
   rw [if_neg h1, if_neg h2]
   simp only [Bool.or_eq_true, decide_eq_true_eq, not_or, List.any_eq_true, not_exists, not_and] at h1 h2
   exact ⟨by omega, fun o ho => by simpa using h1.2 o ho, rfl⟩
set_option maxRecDepth 10000 in
theorem qkp (s : Sto) (l : List OpS) (hl : l.length ≤ 100000) (hf : s.file.length ≤ 100000000) :
  qg Tryz.prog 29 [.d (.ptr 0 0), .d (.sl 3 (l.map qp))] [stoO s 1, mapO s.m] (.d (.int .i64 (xf s l).2)) (qcx s l) := by
 refine F29.go ?_
 try (refine ev2 @stoO.eq_1 @mapO.eq_1 ?_; try exact True.intro)
 (repeat (with_reducible refine ob ?_)); refine no_ ?_
 try (refine ev ?_; try exact True.intro)
 (repeat (with_reducible refine ob ?_)); first | refine cl F85 (qh7 l hl) ?_ | refine clF F85 (qh7 l hl) (fun _ => by (refine ev1 @qp.eq_1 ?_; try exact True.intro)) ?_
 try (refine ev ?_; try exact True.intro)
 (repeat (with_reducible refine ob ?_)); refine xn _ (fun h => ?_) (fun h => ?_)
 ·have hne : (qr l).2 ≠ 0 := by simpa using h
  have hb : xf s l = (s, (qr l).2) := by unfold xf; rw [if_pos hne]
  have hb2 : qcx s l = [stoO s 1, mapO s.m, .none] := by unfold qcx; rw [hb, if_neg hne]
  try (refine ev4 @hb @hb2 @stoO.eq_1 @mapO.eq_1 ?_; try exact True.intro)
 have he0 : (qr l).2 = 0 := by simpa using h
 obtain ⟨h20, hpr, henc⟩ := v6 he0
 try (refine ev ?_; try exact True.intro)
 refine clO [1, 2] F86 (xcp (s.m.l.map qer) s.m.c) ?_
 try (refine ev ?_; try exact True.intro)
 have hap := q5q s.m l hl (fun o ho => by have := (vy.1 (hpr o ho)).2.2.1; omega)
 simp only [mapO] at hap
 (repeat (with_reducible refine ob ?_)); refine clO [2] F87 (hap) ?_ (hfit := by first | exact ⟨qc, trivial⟩ | exact ⟨qc, qc, trivial⟩ | (refine ev1 @qp.eq_1 ?_; try exact True.intro))
 try (refine ev ?_; try exact True.intro)
 (repeat (with_reducible refine ob ?_)); refine xn _ (fun h => ?_) (fun h => ?_)
 ·have hb : xf s l = (s, 28) := by unfold xf; rw [if_neg (by simp [he0]), if_pos (by simpa using h)]
  have hb2 : qcx s l = [stoO s 1, mapO s.m, .none] := by unfold qcx; rw [hb, if_neg (by simp)]
  try (refine ev4 @hb @hb2 @stoO.eq_1 @mapO.eq_1 ?_; try exact True.intro)
 have hb : xf s l = (⟨yl s.file (qr l).1, s.synced, (jp s.m l).1⟩, 0) := by unfold xf; rw [if_neg (by simp [he0]), if_neg (by simpa using h)]
 have hb2 : qcx s l = [stoO (xf s l).1 2, mapO s.m, mapO (xf s l).1.m] := by unfold qcx; rw [if_pos (by rw [hb])]
 try (refine ev ?_; try exact True.intro)
 (repeat (with_reducible refine ob ?_)); first | refine cl F88 (qkn s.file (qr l).1 s.synced hf (qai l)) ?_ | refine clF F88 (qkn s.file (qr l).1 s.synced hf (qai l)) (fun _ => by (refine ev1 @qp.eq_1 ?_; try exact True.intro)) ?_
 try (refine ev5 @wz.eq_1 @hb2 @hb @stoO.eq_1 @mapO.eq_1 ?_; try exact True.intro)
theorem xcq (s : Sto) (hf : s.file.length ≤ 1000000000) :
  qg Tryz.prog 62 [.d (.ptr 0 0)] [stoO s 1, mapO s.m] (.d (.agg (wz s.file s.synced))) [stoO s 1, mapO s.m] := by
 refine F62.go ?_
 try (refine ev2 @stoO.eq_1 @mapO.eq_1 ?_; try exact True.intro)
 (repeat (with_reducible refine ob ?_)); refine no_ ?_
 try (refine ev ?_; try exact True.intro)
 (repeat (with_reducible refine ob ?_)); first | refine cl F127 (yq s.file hf) ?_ | refine clF F127 (yq s.file hf) (fun _ => by (refine ev1 @qp.eq_1 ?_; try exact True.intro)) ?_
 try (refine ev1 @wz.eq_1 ?_; try exact True.intro)
theorem qia (file : List UInt8) (synced : Int) (hf : file.length ≤ 1000000000) :
  qg Tryz.prog 128 [.d (.agg (wz file synced))] [] (.d (.agg (wz file file.length))) [] := by
 refine F128.go ?_
 try (refine ev1 @wz.eq_1 ?_; try exact True.intro)
 (repeat (with_reducible refine ob ?_)); first | refine cl F127 (yq file hf) ?_ | refine clF F127 (yq file hf) (fun _ => by (refine ev1 @qp.eq_1 ?_; try exact True.intro)) ?_
 try (refine ev ?_; try exact True.intro)
def qn4 (s : Sto) : Sto := ⟨s.file, s.file.length, s.m⟩
theorem xms (s : Sto) (hf : s.file.length ≤ 1000000000) :
  qg Tryz.prog 61 [.d (.ptr 0 0)] [stoO s 1, mapO s.m] (.d (.int .i64 0)) [stoO (qn4 s) 1, mapO s.m] := by
 refine F61.go ?_
 try (refine ev2 @stoO.eq_1 @mapO.eq_1 ?_; try exact True.intro)
 (repeat (with_reducible refine ob ?_)); refine no_ ?_
 try (refine ev ?_; try exact True.intro)
 (repeat (with_reducible refine ob ?_)); first | refine cl F128 (qia s.file s.synced hf) ?_ | refine clF F128 (qia s.file s.synced hf) (fun _ => by (refine ev1 @qp.eq_1 ?_; try exact True.intro)) ?_
 try (refine ev2 @wz.eq_1 @qn4.eq_1 ?_; try exact True.intro)
end Go.Proofs.YtkcdbcbpbolgkaaGreatDoor
namespace Go.Proofs.YtkcdbcbpbolgkaaGreatDoor
open Go.Abs Go.RowKit
attribute [local go_sem] qv4 xmr qv5
def in1 (n : Nat) (s f t : Nat) : List (Nat × Nat × Nat) := (List.range' t (n - t)).flatMap fun t => if f = t then [] else [(s, f, t)]
def in2 (n : Nat) (s f : Nat) : List (Nat × Nat × Nat) := (List.range' f (n - f)).flatMap fun f => in1 n s f 0
def in3 (n ss : Nat) (s : Nat) : List (Nat × Nat × Nat) := (List.range' s (ss + 1 - s)).flatMap fun s => in2 n s 0
def jk (n ss : Nat) : List (Nat × Nat × Nat) := in3 n ss 1
def q8p (p : Nat × Nat × Nat) : List D := [.agg [.int .i64 (p.1 : Nat), .int .i64 (p.2.1 : Nat), .int .i64 (p.2.2 : Nat)]]
theorem xmt {n s f t : Nat} (h : n ≤ t) : in1 n s f t = [] := by unfold in1; rw [show n - t = 0 by omega]; rfl
theorem xpx {n s f t : Nat} (h : t < n) (he : f = t) : in1 n s f t = in1 n s f (t + 1) := by
 unfold in1
 rw [show n - t = (n - (t + 1)) + 1 by omega, List.range'_succ, List.flatMap_cons, if_pos he]; rfl
theorem xpy {n s f t : Nat} (h : t < n) (he : f ≠ t) : in1 n s f t = (s, f, t) :: in1 n s f (t + 1) := by
 unfold in1
 rw [show n - t = (n - (t + 1)) + 1 by omega, List.range'_succ, List.flatMap_cons, if_neg he]; rfl
theorem xmu {n s f : Nat} (h : n ≤ f) : in2 n s f = [] := by unfold in2; rw [show n - f = 0 by omega]; rfl
theorem xh2 {n s f : Nat} (h : f < n) : in2 n s f = in1 n s f 0 ++ in2 n s (f + 1) := by
 unfold in2
 rw [show n - f = (n - (f + 1)) + 1 by omega, List.range'_succ, List.flatMap_cons]
theorem xmv {n ss s : Nat} (h : ss < s) : in3 n ss s = [] := by unfold in3; rw [show ss + 1 - s = 0 by omega]; rfl
theorem xh3 {n ss s : Nat} (h : s ≤ ss) : in3 n ss s = in2 n s 0 ++ in3 n ss (s + 1) := by
 unfold in3
 rw [show ss + 1 - s = (ss + 1 - (s + 1)) + 1 by omega, List.range'_succ, List.flatMap_cons]
theorem xmw {L : List (Nat × Nat × Nat)} {k : Nat} {x : Nat × Nat × Nat} {r : List (Nat × Nat × Nat)} (h : L.drop k = x :: r) : (L.map q8p)[k]? = some (q8p x) ∧ L.drop (k + 1) = r := by
 have h1 : L[k]? = some x := by
  have := congrArg (fun l => l[0]?) h
  simpa using this
 refine ⟨by rw [List.getElem?_map, h1]; rfl, ?_⟩
 have := congrArg (List.drop 1) h
 rwa [List.drop_drop, List.drop_succ_cons, List.drop_zero] at this
set_option maxRecDepth 100000 in
set_option maxHeartbeats 4000000 in
theorem q8q (n ss : Nat) (hn : n ≤ 1000) (hs : ss ≤ 1000) : xf6 Tryz.prog 130 [(n : Nat), (ss : Nat)] ((jk n ss).map q8p) := by
 refine ⟨by rw [Tryz.func130]; rfl, ?_⟩
 intro w bx bb l J E hsee hY h0
 refine callsIn_of_wp Tryz.func130 rfl trivial ?_ rfl
 simp only [Tryz.ntmps130, List.size_toArray, List.length_cons, List.length_nil, Nat.reduceAdd, Nat.reduceSub, Array.replicate_succ, Array.replicate_zero, List.push_toArray, List.append_toArray, List.nil_append, List.cons_append]
 have see : ∀ k W, J k W → W.cell? ⟨bx, 0, none⟩ = some (.pointer (some ⟨bb, 0, none⟩)) ∧ W.frozen? ⟨bx, 0, none⟩ = false ∧ W.cell? ⟨bb, 0, none⟩ = some (.int .i64 n) ∧ W.cell? ⟨bb, 1, none⟩ = some (.int .i64 ss) ∧ W.frozen? ⟨bb, 0, none⟩ = false ∧ W.frozen? ⟨bb, 1, none⟩ = false := by
  intro k W hJ
  obtain ⟨⟨c, e, h1, h2⟩, c', e', h3, h4⟩ := hsee k W hJ
  have h5 := h4 0 n rfl
  have h6 := h4 1 ss rfl
  refine ⟨by simp [World.cell?, h1, h2], by simp [World.frozen?, h1], by simp [World.cell?, h3, h5], by simp [World.cell?, h3, h6], by simp [World.frozen?, h3], by simp [World.frozen?, h3]⟩
 gi_wp2
 refine qch (fun m a W => ∃ s k : Nat, m = ss + 1 - s ∧ 1 ≤ s ∧ s ≤ ss + 1 ∧ (jk n ss).drop k = in3 n ss s ∧ k ≤ (jk n ss).length ∧ (∃ t2 t4 t5 t6 t7 t8 t9 t10 t11 t12 t13 t14 t15 t16 t17 t18 t19 t20 t21 t22 t23 t24 t25 t26 t27 t28 t29 t30 t31 t32 t33 t34 t35 t36 t37 t38 t39 t40 t41, a = { tmps := #[.func (.yield l) #[] #[], .pointer (some ⟨bx, 0, none⟩), t2, .int .i64 s, t4, t5, t6, t7, t8, t9, t10, t11, t12, t13, t14, t15, t16, t17, t18, t19, t20, t21, t22, t23, t24, t25, t26, t27, t28, t29, t30, t31, t32, t33, t34, t35, t36, t37, t38, t39, t40, t41], defers := [] }) ∧ J k W) (n0 := ss)
  ⟨1, 0, by omega, by omega, by omega, rfl, by omega, ⟨_, _, _, _, _, _, _, _, _, _, _, _, _, _, _, _, _, _, _, _, _, _, _, _, _, _, _, _, _, _, _, _, _, _, _, _, _, _, _, rfl⟩, h0⟩ ?_
 rintro m a W ⟨s, k, rfl, hs1, hs2, hdr, hk, ⟨t2, t4, t5, t6, t7, t8, t9, t10, t11, t12, t13, t14, t15, t16, t17, t18, t19, t20, t21, t22, t23, t24, t25, t26, t27, t28, t29, t30, t31, t32, t33, t34, t35, t36, t37, t38, t39, t40, t41, rfl⟩, hJ⟩
 obtain ⟨hcx, hfx, hc0, hc1, hf0, hf1⟩ := see k W hJ
 by_cases hlt : s ≤ ss
 ·have hlti : (s : Int) ≤ (ss : Int) := by omega
  gi_wp2
  refine qch (fun m a W => ∃ f k : Nat, m = n - f ∧ f ≤ n ∧ (jk n ss).drop k = in2 n s f ++ in3 n ss (s + 1) ∧ k ≤ (jk n ss).length ∧ (∃ t2 t4 t5 t6 t7 t8 t9 t10 t11 t12 t13 t14 t15 t16 t19 t20 t21 t22 t23 t24 t25 t26 t27 t28 t29 t30 t31 t32 t33 t34 t35 t36 t37 t38 t39 t40 t41, a = { tmps := #[.func (.yield l) #[] #[], .pointer (some ⟨bx, 0, none⟩), t2, .int .i64 s, t4, t5, t6, t7, t8, t9, t10, t11, t12, t13, t14, t15, t16, .int .i64 n, .int .i64 f, t19, t20, t21, t22, t23, t24, t25, t26, t27, t28, t29, t30, t31, t32, t33, t34, t35, t36, t37, t38, t39, t40, t41], defers := [] }) ∧ J k W) (n0 := n)
   ⟨0, k, by omega, by omega, by rw [hdr, xh3 hlt], hk, ⟨_, _, _, _, _, _, _, _, _, _, _, _, _, _, _, _, _, _, _, _, _, _, _, _, _, _, _, _, _, _, _, _, _, _, _, _, _, rfl⟩, hJ⟩ ?_
  clear hJ hdr hcx hfx hc0 hc1 hf0 hf1 hk
  clear k W
  rintro m a W ⟨f, k, rfl, hf, hdr, hk, ⟨t2, t4, t5, t6, t7, t8, t9, t10, t11, t12, t13, t14, t15, t16, t19, t20, t21, t22, t23, t24, t25, t26, t27, t28, t29, t30, t31, t32, t33, t34, t35, t36, t37, t38, t39, t40, t41, rfl⟩, hJ⟩
  obtain ⟨hcx, hfx, hc0, hc1, hf0, hf1⟩ := see k W hJ
  by_cases hfn : f < n
  ·have hfni : (f : Int) < (n : Int) := by omega
   have hwf : (IntKind.wrap .i64 ((f : Int) + 1)) = ((f + 1 : Nat) : Int) := qf (by omega)
   gi_wp2
   refine qch (fun m a W => ∃ t k : Nat, m = n - t ∧ t ≤ n ∧ (jk n ss).drop k = in1 n s f t ++ (in2 n s (f + 1) ++ in3 n ss (s + 1)) ∧ k ≤ (jk n ss).length ∧ (∃ t2 t5 t6 t7 t8 t9 t10 t11 t12 t13 t14 t15 t16 t19 t20 t21 t22 t23 t26 t27 t28 t29 t30 t31 t32 t33 t34 t35 t36 t37 t38 t39 t40 t41, a = { tmps := #[.func (.yield l) #[] #[], .pointer (some ⟨bx, 0, none⟩), t2, .int .i64 s, .int .i64 f, t5, t6, t7, t8, t9, t10, t11, t12, t13, t14, t15, t16, .int .i64 n, .int .i64 f, t19, t20, t21, t22, t23, .int .i64 n, .int .i64 t, t26, t27, t28, t29, t30, t31, t32, t33, t34, t35, t36, t37, t38, t39, t40, t41], defers := [] }) ∧ J k W) (n0 := n)
    ⟨0, k, by omega, by omega, by rw [hdr, xh2 hfn, List.append_assoc], hk, ⟨_, _, _, _, _, _, _, _, _, _, _, _, _, _, _, _, _, _, _, _, _, _, _, _, _, _, _, _, _, _, _, _, _, _, rfl⟩, hJ⟩ ?_
   clear hJ hdr hcx hfx hc0 hc1 hf0 hf1 hk
   clear k W
   rintro m a W ⟨t, k, rfl, ht, hdr, hk, ⟨t2, t5, t6, t7, t8, t9, t10, t11, t12, t13, t14, t15, t16, t19, t20, t21, t22, t23, t26, t27, t28, t29, t30, t31, t32, t33, t34, t35, t36, t37, t38, t39, t40, t41, rfl⟩, hJ⟩
   by_cases htn : t < n
   ·have htni : (t : Int) < (n : Int) := by omega
    by_cases hft : f = t
    ·subst hft
     gi_wp2
     refine ⟨n - (f + 1), by omega, f + 1, k, rfl, by omega, by rw [hdr, xpx (by omega) rfl], hk, ?_, hJ⟩
     exact ⟨_, _, _, _, _, _, _, _, _, _, _, _, _, _, _, _, _, _, _, _, _, _, _, _, _, _, _, _, _, _, _, _, _, _, rfl⟩
    ·have hfti : (f : Int) ≠ (t : Int) := by omega
     rw [xpy htn hft, List.cons_append] at hdr
     obtain ⟨hd1, hd2⟩ := xmw hdr
     obtain ⟨fn, tmps, assign, body, hy, hR⟩ := hY k _ [.agg #[.int .i64 s, .int .i64 f, .int .i64 t]] W hd1 hJ rfl (by
      intro i v d hi hd
      match i with
      | 0 =>
       simp [q8p] at hi hd; subst hi; subst hd
       exact .agg [.int .i64 s, .int .i64 f, .int .i64 t] _ rfl (by simp [D.isCell]) (fun j v d h1 h2 => by
        match j with
        | 0 => simp at h1 h2; subst h1; subst h2; exact .int _ _
        | 1 => simp at h1 h2; subst h1; subst h2; exact .int _ _
        | 2 => simp at h1 h2; subst h1; subst h2; exact .int _ _
        | j + 3 => simp at h1)
      | i + 1 => simp at hi)
     gi_wp2
     refine hR.mono ?_
     rintro e1 W1 (⟨rfl, hJ1⟩ | ⟨rfl, hE⟩)
     ·gi_wp2
      exact ⟨n - (t + 1), by omega, t + 1, k + 1, rfl, by omega, hd2, (by
       rcases Nat.lt_or_ge k (jk n ss).length with h | h
       ·omega
       ·rw [List.drop_eq_nil_of_le h] at hdr; cases hdr), ⟨_, _, _, _, _, _, _, _, _, _, _, _, _, _, _, _, _, _, _, _, _, _, _, _, _, _, _, _, _, _, _, _, _, _, rfl⟩, hJ1⟩
     ·gi_wp2
      refine bodyPost_ret (results_none rfl _ _ _) rfl ?_
      exact ⟨⟨_, rfl⟩, .inr hE⟩
   ·have htni : ¬ (t : Int) < (n : Int) := by omega
    gi_wp2
    exact ⟨n - (f + 1), by omega, f + 1, rfl, by omega, k, by rw [hdr, xmt (by omega), List.nil_append], hk, by push_cast; rfl, hJ⟩
  ·have hfni : ¬ (f : Int) < (n : Int) := by omega
   gi_wp2
   exact ⟨ss + 1 - (s + 1), by omega, s + 1, rfl, by omega, by omega, k, by rw [hdr, xmu (by omega), List.nil_append], hk, by push_cast; rfl, hJ⟩
 ·have hlti : ¬ (s : Int) ≤ (ss : Int) := by omega
  gi_wp2
  have hkl : k = (jk n ss).length := by
   rw [xmv (by omega)] at hdr
   have := congrArg List.length hdr
   simp at this; omega
  subst hkl
  go_end0
  exact ⟨⟨_, rfl⟩, .inl hJ⟩
end Go.Proofs.YtkcdbcbpbolgkaaGreatDoor
