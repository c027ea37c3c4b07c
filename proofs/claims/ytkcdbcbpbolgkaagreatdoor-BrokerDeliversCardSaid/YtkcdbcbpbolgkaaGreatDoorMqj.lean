/- Texts Bb. -/
import Derived.Test.YtkcdbcbpbolgkaaGreatDoorMqi
import Derived.ProofKit
import Derived.OpenShut
set_option linter.unusedSimpArgs false
set_option linter.unusedVariables false
namespace Go.Abs
def qze (P : Program) : Nat → List Field → Option Nat
 | off, [] => some off
 | off, f :: fs => if f.offset = off then qze P (off + P.cellsOf f.type) fs else none
def qko (P : Program) : Nat → TypeId → Bool
 | 0, _ => false
 | n + 1, t => match P.underlying t with
  | some .bool => true
  | some (.int _) => true
  | some .string => true
  | some (.slice e) => qko P n e && decide (0 < P.cellsOf e)
  | some (.struct fs) => (fs.toList.all fun f => qko P n f.type) && qze P 0 fs.toList == some (P.cellsOf t)
  | some (.array m e) => qko P n e && P.cellsOf t == m * P.cellsOf e
  | _ => false
def qzf (S : TypeId → List D → Prop) : List Field → List D → Prop
 | [], ds => ds = []
 | f :: fs, ds => ∃ x y, ds = x ++ y ∧ S f.type x ∧ qzf S fs y
def ShpA (S : List D → Prop) : Nat → List D → Prop
 | 0, ds => ds = []
 | m + 1, ds => ∃ x y, ds = x ++ y ∧ S x ∧ ShpA S m y
def Shp (P : Program) : Nat → TypeId → List D → Prop
 | 0, _, _ => False
 | n + 1, t, ds => match P.underlying t with
  | some .bool => ∃ b, ds = [.bool b]
  | some (.int k) => ∃ x, ds = [.int k x] ∧ (Lit.int k x).wf = true
  | some .string => ∃ s : List UInt8, ds = [.str s] ∧ s.length ≤ maxLen
  | some (.slice e) => ∃ rows, ds = [.sl (P.cellsOf e) rows] ∧ rows.length ≤ maxLen ∧ ∀ r ∈ rows, Shp P n e r
  | some (.struct fs) => qzf (Shp P n) fs.toList ds
  | some (.array m e) => ShpA (Shp P n e) m ds
  | _ => False
def outG (W : World) : Ghost := fun b => match W.heap[b]? with
 | some (.cells c _ _) => .row c.size none
 | _ => .out
def xcc (W : World) : Prop := ∀ k ∈ xf3, ∃ v, W.cell? ⟨k, 0, none⟩ = some v ∧ xl4 v = true
theorem q8q {W : World} (h : xf3 = [] := by rfl) : xcc W := fun k hk => by rw [h] at hk; cases hk
theorem xhu (W : World) (hg : xcc W) : Dom (outG W) W := ⟨fun b hb => by
 unfold outG
 rw [Array.getElem?_eq_none hb], fun k hk => by
 obtain ⟨v, h1, h2⟩ := hg k hk
 have h1' := h1
 unfold World.cell? at h1
 cases hh : W.heap[k]? with
 | none => simp [hh] at h1
 | some o =>
  cases o <;> simp [hh] at h1
  rename_i c e f
  refine ⟨c.size - 1, v, ?_, h1', h2⟩
  have : 0 < c.size := by
   rcases Nat.eq_zero_or_pos c.size with h0 | h0
   ·simp [Array.eq_empty_of_size_eq_zero h0] at h1
   ·exact h0
  simp only [outG, hh]
  rw [Nat.sub_add_cancel this]⟩
section
variable {H : Type} {enc : TypeId × Value → H} {P : Program} {W : World} {spare : Nat → Bool} {held : Bool}
theorem RL.one {g : Ghost} {w : World} {v : Value} {d : D} (h : RV g w v d) (hd : d.isCell = true) : RL g w [v] [d] := by
 refine ⟨rfl, by simpa using hd, fun j u e hu he => ?_⟩
 cases j with
 | zero => simp at hu he; subst hu he; exact h
 | succ j => simp at hu
theorem xcd {a : Addr} {n : Nat} {l : List Value} (h : W.cells? 0 a n = some l) : l.length = n ∧ ∀ (j : Nat) (u : Value), l[j]? = some u → W.cell? (a.add j) = some u := by
 unfold World.cells? at h
 rw [if_pos (Nat.zero_le _)] at h
 obtain ⟨h1, h2⟩ := jy h
 simp at h1
 refine ⟨h1.symm, fun j u hu => ?_⟩
 have hj : j < n := by rw [h1]; exact (List.getElem?_eq_some_iff.1 hu).1
 exact h2 j j u (by simp [hj]) hu
theorem xhv (a : Addr) (i j : Nat) (h : a.spot = none) : (a.add i).add j = a.add (i + j) := by
 obtain ⟨b, o, s⟩ := a
 simp only at h
 subst h
 rw [Addr.add_lit, Addr.add_lit, Addr.add_lit, Nat.add_assoc]
theorem xhw {n : Nat} {e : TypeId} (sz : Nat) (hpos : 0 < sz) (a : Addr) (len : Nat)
  (h : ∀ i, i < len → ∃ cs, W.cells? 0 (a.add (i * sz)) sz = some cs ∧ ∃ ds, RL (outG W) W cs ds ∧ Shp P n e ds) :
  ∀ m, m ≤ len → ∃ (cs : List Value) (rows : List (List D)), rows.length = m ∧ RL (outG W) W cs rows.flatten ∧ cs.length = m * sz ∧ (∀ r ∈ rows, r.length = sz ∧ Shp P n e r) ∧
   (0 < m → a.spot = none) ∧ ∀ (j : Nat) (u : Value), cs[j]? = some u → W.cell? (a.add j) = some u := by
 intro m
 induction m with
 | zero => intro _; exact ⟨[], [], rfl, ⟨rfl, by simp, by simp⟩, by simp, by simp, fun h => by omega, by simp⟩
 | succ m ih =>
  intro hm
  obtain ⟨cs, rows, h1, h2, h3, h4, h5, h6⟩ := ih (by omega)
  obtain ⟨cm, hc, ds, q1, q2⟩ := h m (by omega)
  obtain ⟨l1, l2⟩ := xcd hc
  have hspot : a.spot = none := by
   by_cases hm0 : 0 < m
   ·exact h5 hm0
   ·have hz : m = 0 := by omega
    subst hz
    have hu : cm[0]? = some (cm[0]'(by omega)) := List.getElem?_eq_getElem (by omega)
    have := l2 0 _ hu
    simp only [Nat.zero_mul, Addr.add_zero'] at this
    unfold World.cell? at this
    split at this
    ·split at this
     ·cases this
     ·rename_i hs
      simpa using hs
    ·cases this
  refine ⟨cs ++ cm, rows ++ [ds], by simp [h1], ?_, by rw [List.length_append, h3, l1, Nat.succ_mul], fun r hr => ?_, fun _ => hspot, fun j u hj => ?_⟩
  ·rw [List.flatten_append, List.flatten_cons, List.flatten_nil, List.append_nil]
   exact h2.append q1
  ·rcases List.mem_append.1 hr with hr | hr
   ·exact h4 r hr
   ·simp at hr; subst hr; exact ⟨by rw [← q1.1, l1], q2⟩
  ·by_cases hjl : j < cs.length
   ·rw [List.getElem?_append_left hjl] at hj
    exact h6 j u hj
   ·rw [List.getElem?_append_right (by omega), h3] at hj
    have := l2 _ u hj
    rw [xhv _ _ _ hspot] at this
    rwa [show m * sz + (j - m * sz) = j by omega] at this
theorem qzg {S : TypeId → List D → Prop} {cs : List Value} : ∀ (fs : List Field) (off stop : Nat), qze P off fs = some stop → stop ≤ cs.length →
  (∀ f ∈ fs, ∃ ds, RL (outG W) W ((cs.drop f.offset).take (P.cellsOf f.type)) ds ∧ S f.type ds) → ∃ ds, RL (outG W) W ((cs.drop off).take (stop - off)) ds ∧ qzf S fs ds ∧ off ≤ stop
 | [], off, stop, h, _, _ => by
  simp only [qze, Option.some.injEq] at h
  subst h
  exact ⟨[], by simp [RL], rfl, Nat.le_refl _⟩
 | f :: fs, off, stop, h, hs, hf => by
  simp only [qze] at h
  split at h
  ·rename_i ho
   obtain ⟨ds, q1, q2, q3⟩ := qzg fs _ stop h hs (fun g hg => hf g (List.mem_cons_of_mem _ hg))
   obtain ⟨d0, r1, r2⟩ := hf f List.mem_cons_self
   rw [ho] at r1
   refine ⟨d0 ++ ds, ?_, ⟨d0, ds, rfl, r2, q2⟩, by omega⟩
   have : (cs.drop off).take (stop - off) = (cs.drop off).take (P.cellsOf f.type) ++ (cs.drop (off + P.cellsOf f.type)).take (stop - (off + P.cellsOf f.type)) := by
    rw [show stop - off = P.cellsOf f.type + (stop - (off + P.cellsOf f.type)) by omega, List.take_add, List.drop_drop]
   rw [this]
   exact r1.append q1
  ·cases h
theorem q5t {S : List D → Prop} {cs : List Value} (sz : Nat) : ∀ (m off : Nat), off + m * sz ≤ cs.length →
  (∀ i, i < m → ∃ ds, RL (outG W) W ((cs.drop (off + i * sz)).take sz) ds ∧ S ds) → ∃ ds, RL (outG W) W ((cs.drop off).take (m * sz)) ds ∧ ShpA S m ds
 | 0, off, _, _ => ⟨[], by simp [RL], rfl⟩
 | m + 1, off, hs, h => by
  rw [Nat.succ_mul] at hs
  obtain ⟨ds, q1, q2⟩ := q5t (S := S) (cs := cs) sz m (off + sz) (by omega) (fun i hi => by
   have := h (i + 1) (by omega)
   rwa [Nat.succ_mul, show off + (i * sz + sz) = off + sz + i * sz by omega] at this)
  obtain ⟨d0, r1, r2⟩ := h 0 (by omega)
  rw [Nat.zero_mul, Nat.add_zero] at r1
  refine ⟨d0 ++ ds, ?_, ⟨d0, ds, rfl, r2, q2⟩⟩
  have : (cs.drop off).take ((m + 1) * sz) = (cs.drop off).take sz ++ (cs.drop (off + sz)).take (m * sz) := by
   rw [Nat.succ_mul, Nat.add_comm (m * sz) sz, List.take_add, List.drop_drop]
  rw [this]
  exact r1.append q1
theorem qv1 : ∀ (n fuel : Nat) (t : TypeId) (cs : List Value) (x : DataW H × List MemPlace), qko P n t = true → DataW.trod enc P W 0 spare held fuel t cs = some x →
  ∃ ds, RL (outG W) W cs ds ∧ Shp P n t ds
 | 0, _, _, _, _, h, _ => by simp [qko] at h
 | n + 1, fuel, t, cs, x, hp, h => by
  unfold qko at hp
  unfold Shp
  cases hu : P.underlying t with
  | none => rw [hu] at hp; cases hp
  | some d =>
   rw [hu] at hp
   cases d with
   | bool =>
    obtain ⟨b, rfl, _⟩ := DataW.trod_bool hu h
    exact ⟨[.bool b], RL.one (.bool b) rfl, b, rfl⟩
   | int k =>
    obtain ⟨i, rfl, _, hw⟩ := DataW.trod_int hu h
    exact ⟨[.int k i], RL.one (.int k i) rfl, i, rfl, hw⟩
   | string =>
    obtain ⟨s, rfl, _, hw⟩ := DataW.trod_string hu h
    refine ⟨[.str s.data.toList], RL.one ?_ rfl, s.data.toList, rfl, by rw [Array.length_toList]; exact hw⟩
    have := RV.str (g := outG W) (w := W) s.data.toList
    simpa using this
   | slice e =>
    simp only [Bool.and_eq_true, decide_eq_true_eq] at hp
    rcases DataW.trod_slice hu h with ⟨rfl, _⟩ | ⟨a, len, cap, elems, rest, k, _, rfl, _, hb, hl, hc, hel, hi, _, _⟩
    ·exact ⟨[.sl (P.cellsOf e) []], RL.one (.nilsl none 0 _ (fun _ => rfl)) rfl, [], rfl, by simp, by simp⟩
    ·obtain ⟨cs, rows, h1, h2, h3, h4, h5, h6⟩ := xhw (W := W) (P := P) (n := n) (e := e) (P.cellsOf e) hp.2 a len (fun i hil => by
      have h7 := hi i hil
      have h8 : elems[i]? = some (elems[i]'(by omega)) := List.getElem?_eq_getElem (by omega)
      rw [h8, Option.bind_eq_some_iff] at h7
      obtain ⟨cs, hcs, hx⟩ := h7
      exact ⟨cs, hcs, qv1 n k e cs _ hp.1 hx⟩) len (Nat.le_refl _)
     refine ⟨[.sl (P.cellsOf e) rows], RL.one ?_ rfl, rows, rfl, by omega, fun r hr => (h4 r hr).2⟩
     by_cases hz : len = 0
     ·subst hz
      have : rows = [] := List.eq_nil_of_length_eq_zero h1
      subst this
      exact .nilsl (some a) cap _ (by simp)
     ·have hspot := h5 (by omega)
      obtain ⟨b, off, sp⟩ := a
      simp only at hspot
      subst hspot
      subst h1
      have hflat : rows.flatten.length = rows.length * P.cellsOf e := xf (fun r hr => (h4 r hr).1)
      have hcl : cs.length = rows.flatten.length := h2.1
      have hlast : cs[cs.length - 1]? = some (cs[cs.length - 1]'(by have := Nat.mul_pos (show 0 < rows.length by omega) hp.2; omega)) := List.getElem?_eq_getElem _
      have hcell := h6 _ _ hlast
      rw [Addr.add_lit] at hcell
      unfold World.cell? at hcell
      split at hcell
      ·rename_i c te fr hheap
       simp only at hheap
       have hlt : off + (cs.length - 1) < c.size := by
        simp only [Option.isSome_none, Bool.false_eq_true, if_false] at hcell
        exact (Array.getElem?_eq_some_iff.1 hcell).1
       refine .sl b off cap _ c.size none rows (fun j => (cs[j]?).getD undef) (by unfold outG; rw [hheap]) (by omega) hl (fun r hr => (h4 r hr).1) h2.2.1 (fun j d hd => ?_) (fun j d hd => ?_)
       ·have hj : j < cs.length := by rw [hcl]; exact (List.getElem?_eq_some_iff.1 hd).1
        have := h6 j _ (List.getElem?_eq_getElem hj)
        rw [Addr.add_lit] at this
        rw [this, List.getElem?_eq_getElem hj]; rfl
       ·have hj : j < cs.length := by rw [hcl]; exact (List.getElem?_eq_some_iff.1 hd).1
        have := h2.2.2 j _ d (List.getElem?_eq_getElem hj) hd
        rw [List.getElem?_eq_getElem hj]; exact this
      ·cases hcell
   | struct fs =>
    simp only [Bool.and_eq_true, beq_iff_eq, List.all_eq_true] at hp
    obtain ⟨xs, k, _, _, hl, hxl, hf⟩ := DataW.trod_struct hu h
    obtain ⟨ds, q1, q2, _⟩ := qzg (W := W) (P := P) (S := Shp P n) (cs := cs) fs.toList 0 _ hp.2 (by omega) (fun f hfm => by
     obtain ⟨i, hi⟩ := List.getElem?_of_mem hfm
     have h7 := hf i f (by simpa using hi)
     have hil : i < xs.length := by rw [hxl]; have := (List.getElem?_eq_some_iff.1 hi).1; simpa using this
     rw [List.getElem?_eq_getElem hil] at h7
     exact qv1 n k f.type _ _ (hp.1 f hfm) h7)
    refine ⟨ds, ?_, q2⟩
    rwa [Nat.sub_zero, List.drop_zero, ← hl, List.take_length] at q1
   | array m e =>
    simp only [Bool.and_eq_true, beq_iff_eq] at hp
    obtain ⟨xs, k, _, _, hl, hxl, hf⟩ := DataW.trod_array hu h
    obtain ⟨ds, q1, q2⟩ := q5t (W := W) (S := Shp P n e) (cs := cs) (P.cellsOf e) m 0 (by omega) (fun i hi => by
     have h7 := hf i hi
     rw [List.getElem?_eq_getElem (by omega)] at h7
     rw [Nat.zero_add]
     exact qv1 n k e _ _ hp.1 h7)
    refine ⟨ds, ?_, q2⟩
    rwa [List.drop_zero, ← hp.2, ← hl, List.take_length] at q1
   | _ => cases hp
end
end Go.Abs
