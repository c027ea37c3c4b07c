/- Texts Wk, Wl, Wm, Wn, Cg, Ch, Ga, Gb, Gc, Gd, Ge, Gg, Za, Yd, Ya, Yb, Yc, Ye, Yf, Yg. -/
import Derived.Test.YtkcdbcbpbolgkaaGreatDoorMan
import Derived.Calls
import Derived.Orders
import Derived.Tactics
import Derived.Laws.AppendOwn
import Derived.Laws.Slices
import Derived.Laws.Closers25
import Derived.Laws.StructEq
import Derived.Laws.BytesString
import Derived.Laws.CopyRow
import Derived.MapKept
import Derived.Maps.RangeRun
import Derived.TacticsIn
import Derived.OrdersIn
import Derived.RangeFuncRecord
import Derived.RangeFuncLeaves
import Derived.IntWalk
import Derived.ProofKit
import Derived.OpenShut
import Derived.Carry
import Derived.Test.YtkcdbcbpbolgkaaGreatDoorProg
import Derived.KernelRfl
import Derived.OwnWalkIn
import Derived.TacticsInMore
import Derived.LoopIn
import Derived.WalkKit
import Derived.Lib.Strings
import Derived.Lib.Slices
import Derived.Lib.Walk
import Derived.Lib.Bytealg
import Derived.Shelf.SlSortCmp.WholeK
import Derived.Shelf.SlSortCmp.NoneTotal

namespace Go.Proofs.YtkcdbcbpbolgkaaGreatDoor
open Go.Abs Go.Shelf Go.RowKit Go.Lib Go.Sort
set_option linter.unusedSimpArgs false
set_option linter.unusedVariables false
theorem q5s (x : RowE) : (encR x).length = 2 := rfl
theorem q5t (x : RowE) : ∀ v ∈ encR x, v.oneCell' = true := by
 intro v hv
 simp [encR] at hv
 rcases hv with rfl | rfl
 ·rfl
 ·exact x.2.2
set_option maxHeartbeats 1000000 in
theorem q8v (l : List En) (hn : (l.map (·.1)).Nodup) (hl : l.length ≤ 1000000) :
  qh Tryz.prog 172 [.d (.ref 0 0 2 l.length), .d (.func (.func 173) [] [])] [.row ((qb8 l).map .d)] (.tup []) [.row ((qb8 (qbw l)).map .d)] := by
 intro g w vs hd hlen hv ho
 match vs, hlen with
 | [v0, v1], _ =>
 have h1 := jp (xy (hv 1 v1 _ rfl rfl))
 have hf1 : v1 = .func (.func 173) #[] #[] := by
  cases h1 with
  | func _ vf vc _ _ hf hc =>
   have e1 : vf = [] := List.eq_nil_of_length_eq_zero (by simpa using hf)
   have e2 : vc = [] := List.eq_nil_of_length_eq_zero (by simpa using hc)
   subst e1; subst e2; rfl
 subst hf1
 have h0 := jp (xy (hv 0 v0 _ rfl rfl))
 generalize hln : l.length = n at h0
 have none_ : ∀ (p : Option Addr) (cap : Nat), n = 0 → v0 = .slice p 0 cap → Calls Tryz.prog 172 [v0, .func (.func 173) #[] #[]].toArray w fun e w' =>
   ∃ v g' live', e = .returned v ∧ G g w g' w' ∧ Dom g' w' ∧ (∀ t ∈ (ASlot.tup []).toks, t ∈ live') ∧ RS g' w' live' v (.tup []) ∧ ObjsOk g' w' live' [.row ((qb8 (qbw l)).map .d)] := by
  intro p cap h0 hv0
  have hl0 : l = [] := List.eq_nil_of_length_eq_zero (by omega)
  subst hl0; subst hv0
  have hcon := AnyF.slices_SortFunc_none xaz p cap (.func (.func 173) #[] #[]) w
  change Calls Tryz.prog 172 _ _ _ at hcon
  refine hcon.mono ?_
  rintro e w' ⟨rfl, rfl⟩
  have hs0 : qbw [] = [] := by simp [qbw]
  rw [hs0]
  exact ⟨_, g, [], rfl, .refl _ _, hd, by simp [ASlot.toks], ⟨[], rfl, rfl, fun i u s hu => by simp at hu⟩, ho⟩
 cases h0 with
 | refnil a => exact none_ a 0 rfl rfl
 | ref b _ _ _ _ cap hg hcap hmx hsz =>
 by_cases hn0 : n = 0
 ·subst hn0; exact none_ _ cap rfl rfl
 obtain ⟨b', hb', c, et, hh, hcs, hcc⟩ := (ho.objs 0 _ rfl (by simp)).resolve_right (fun h => by
  have := h.1
  simp at this
  have := congrArg List.length this
  simp [qec] at this; omega)
 have : b' = b := ho.inj b' b 0 hb' hg
 subst this
 rw [List.length_map, qec] at hcs
 have hcell : ∀ (i : Nat) (e : En), l[i]? = some e → c[2 * i]? = some (.string ⟨e.1.toArray⟩) ∧ ∃ v, c[2 * i + 1]? = some v ∧ v.oneCell' = true ∧ RV g w v (.sl 1 (qc e.2)) := by
  intro i e he
  obtain ⟨k1, k2⟩ := qm3 l i e he
  obtain ⟨u, u1, _, u3⟩ := hcc (2 * i) (.d (.str e.1)) (by rw [List.getElem?_map, k1]; rfl)
  obtain ⟨v, v1, v2, v3⟩ := hcc (2 * i + 1) (.d (.sl 1 (qc e.2))) (by rw [List.getElem?_map, k2]; rfl)
  have hu := yq (show RV g w u (.str e.1) from u3)
  subst hu
  exact ⟨u1, v, v1, v2, v3⟩
 let mkR : Nat → RowE := fun i => match l[i]?, c[2 * i + 1]? with
  | some e, some v => if h : v.oneCell' = true then (e.1, ⟨v, h⟩) else default
  | _, _ => default
 let P : List (RowE × En) := (List.range n).map fun i => (mkR i, l.getD i ([], []))
 have hPR : ∀ z ∈ P, z.1.1 = z.2.1 ∧ RV g w z.1.2.1 (.sl 1 (qc z.2.2)) := by
  intro z hz
  obtain ⟨i, hi, rfl⟩ := List.mem_map.1 hz
  have hil : i < l.length := by rw [hln]; exact List.mem_range.1 hi
  have he := List.getElem?_eq_getElem hil
  obtain ⟨_, v, v1, v2, v3⟩ := hcell i _ he
  have : mkR i = (l[i].1, ⟨v, v2⟩) := by simp only [mkR, he, v1, dif_pos v2]
  have e2 : l.getD i ([], []) = l[i] := by simp [List.getD, he]
  simp only [this, e2]
  exact ⟨trivial, v3⟩
 have hPs : P.map (·.2) = l := by
  apply List.ext_getElem?
  intro i
  simp only [P, List.map_map, List.getElem?_map]
  rcases Nat.lt_or_ge i n with h | h
  ·rw [List.getElem?_range h]
   have he := List.getElem?_eq_getElem (show i < l.length by omega)
   simp [he, List.getD]
  ·rw [List.getElem?_eq_none (by simpa using h), List.getElem?_eq_none (by omega)]; rfl
 obtain ⟨d, hdd⟩ : ∃ d : Array RowE, d = (P.map (·.1)).toArray := ⟨_, rfl⟩
 have hds : d.size = n := by rw [hdd]; simp [P]
 have hdi : ∀ i, i < n → d[i]! = mkR i := fun i hi => by rw [hdd]; simp [P, hi]
 have hblk : b' < w.heap.size := (Array.getElem?_eq_some_iff.1 hh).1
 have hfl : ∀ t, t < n * 2 → (flatK encR 2 d)[t]! = c.getD t default := by
  intro t ht
  rw [get_flatK encR 2 d t (by rw [hds]; exact ht), hdi _ (by omega)]
  have hil : t / 2 < l.length := by omega
  have he := List.getElem?_eq_getElem hil
  obtain ⟨k1, v, v1, v2, v3⟩ := hcell (t / 2) _ he
  have hm : mkR (t / 2) = (l[t / 2].1, ⟨v, v2⟩) := by simp only [mkR, he, v1, dif_pos v2]
  rw [hm]
  rcases Nat.mod_two_eq_zero_or_one t with hp | hp
  ·have e1 : 2 * (t / 2) = t := by omega
   rw [e1] at k1
   rw [hp, Array.getD_eq_getD_getElem?, k1]
   rfl
  ·have e1 : 2 * (t / 2) + 1 = t := by omega
   rw [e1] at v1
   rw [hp, Array.getD_eq_getD_getElem?, v1]
   rfl
 have hH : HoldsK encR 2 w b' 0 d := by
  intro j hj
  rw [size_flatK, hds] at hj
  refine ⟨?_, by simp [World.frozen?, hh]⟩
  rw [hfl j hj]
  have hjc : j < c.size := by omega
  simp [World.cell?, hh, hjc]
 have eg : ∀ args w, (callFunc 173 args).run Tryz.prog w = .ok (.enter 173 args) w := enters_of Tryz.func173 (by kernel_rfl) rfl
 have hcon := AnyQ.slices_SortFunc xaz 2 Tryz.isAgg195 Tryz.sizeOf195 encR q5s q5t cmpR xde 173 #[] b' 0 cap d w eg (fun _ _ _ _ x y => q5r x y _) hH hblk (by omega)
 change Calls Tryz.prog 172 _ _ _ at hcon
 rw [hds] at hcon
 refine hcon.mono ?_
 rintro e w' ⟨rfl, d', m, os, hperm, hsort, hw'⟩
 obtain ⟨hps, _, hpl⟩ := hperm
 rw [hds] at hps
 have hp2 : d'.toList.Perm (P.map (·.1)) := by
  have e1 : d'.extract 0 n = d' := by rw [← hps]; simp
  have e2 : d.extract 0 n = d := by rw [← hds]; simp
  rw [e1, e2] at hpl
  rw [hdd] at hpl
  simpa using hpl
 obtain ⟨Q, q1, q2⟩ := q1o (fun z : RowE × En => z.1) hp2 rfl
 have hQl : Q.length = n := by rw [q1.length_eq]; simp [P]
 have hesl : (Q.map (·.2)).Perm l := by
  have := q1.map (fun z : RowE × En => z.2)
  rwa [hPs] at this
 have hQ : ∀ (i : Nat) (z : RowE × En), Q[i]? = some z → d'[i]! = z.1 ∧ z.1.1 = z.2.1 ∧ RV g w z.1.2.1 (.sl 1 (qc z.2.2)) := by
  intro i z hz
  have h1 := congrArg (fun l => l[i]?) q2
  simp only [List.getElem?_map, hz, Option.map_some, Array.getElem?_toList] at h1
  have hi : i < d'.size := by rw [hps, ← hQl]; exact (List.getElem?_eq_some_iff.1 hz).1
  refine ⟨?_, hPR z (q1.mem_iff.1 (List.mem_of_getElem? hz))⟩
  rw [getElem!_pos d' i hi]
  rw [Array.getElem?_eq_getElem hi] at h1
  simpa using h1.symm
 have hsorted : (Q.map (·.2)).Pairwise fun a b => cmpB a.1 b.1 ≤ 0 := by
  rw [List.pairwise_iff_getElem]
  intro i j hi hj hij
  simp only [List.length_map] at hi hj
  have zi := hQ i _ (List.getElem?_eq_getElem hi)
  have zj := hQ j _ (List.getElem?_eq_getElem hj)
  have hs := hsort i j (Nat.zero_le _) hij (by omega)
  rw [zi.1, zj.1] at hs
  have hs2 : ¬ cmpB Q[j].1.1 Q[i].1.1 < 0 := of_decide_eq_false hs
  rw [zi.2.1, zj.2.1] at hs2
  simp only [List.getElem_map]
  exact qa1.1 hs2
 have hes : Q.map (·.2) = qbw l := by
  have hn2 : ((Q.map (·.2)).map (·.1)).Nodup := (hesl.map (fun x : En => x.1)).nodup_iff.2 hn
  exact qed (hesl.trans (ve l).symm) hn2 hsorted (qap l)
 have hwh : w'.heap = (w.heap.modify b' (onCells (putCells (fun v : Value => v) 0 (flatK encR 2 d')))) ++ os := by subst hw'; rfl
 have hother : ∀ k, k ≠ b' → k < w.heap.size → w'.heap[k]? = w.heap[k]? := by
  intro k hk hkl
  rw [hwh, Array.getElem?_append, if_pos (by simpa using hkl), Array.getElem?_modify, if_neg (Ne.symm hk)]
 have hself : w'.heap[b']? = some (.cells (putCells (fun v : Value => v) 0 (flatK encR 2 d') c) et (0, 0)) := by
  rw [hwh, Array.getElem?_append, if_pos (by simpa using hblk), Array.getElem?_modify, if_pos rfl, hh]
  rfl
 have hsize : w.heap.size ≤ w'.heap.size := by
  subst hw'
  simp [sortWorldK, grow, putRowK, putRow, mapBlock, Sort.ahead]
 have htop : w'.os = w.os ∧ w'.tape = w.tape ∧ w'.output = w.output := by subst hw'; exact ⟨rfl, rfl, rfl⟩
 have hne : ∀ k r, g k = r → (∀ i, r ≠ .obj i) → k ≠ b' := fun k r h hr he => by rw [he, hg] at h; exact hr 0 h.symm
 have hG : G g w g w' := by
  refine ⟨htop.1, htop.2.1, htop.2.2, hsize, fun k hk hgk => ⟨hother k (hne k _ hgk (by simp)) hk, hgk⟩, fun k r hk hgk => ⟨hother k (hne k _ hgk (by simp)) hk, hgk⟩,
   fun k r t hk hgk => ⟨r, some t, hgk, Nat.le_refl _, fun i u _ hu => by rw [jc (hother k (hne k _ hgk (by simp)) hk)]; exact hu⟩, fun k id hk hgk => ⟨hgk, ?_⟩⟩
  by_cases hkb : k = b'
  ·subst hkb
   rw [ja hh, ja hself]
   simp [putCells]
  ·exact Nat.le_of_eq (x6 (hother k hkb hk)).symm
 refine ⟨_, g, [], rfl, hG, fun k hk => hd k (by omega), by simp [ASlot.toks], ⟨[], rfl, rfl, fun i u s hu => by simp at hu⟩, ⟨fun oid o hid hno => ?_, ho.inj, fun b oid hb => ?_⟩⟩
 ·match oid, hid with
  | 0, hid =>
   simp at hid
   subst hid
   have hle := (ve l).length_eq
   refine .inl ⟨b', hg, _, et, hself, by simp [putCells, qec, hle]; omega, fun i s hi => ?_⟩
   rw [List.getElem?_map, Option.map_eq_some_iff] at hi
   obtain ⟨x, hx, rfl⟩ := hi
   have hil : i < n * 2 := by
    have := (List.getElem?_eq_some_iff.1 hx).1
    rw [qec, hle, hln] at this
    exact this
   have hQi : i / 2 < Q.length := by omega
   obtain ⟨z1, z2, z3⟩ := hQ (i / 2) _ (List.getElem?_eq_getElem hQi)
   have hz : (qbw l)[i / 2]? = some Q[i / 2].2 := by rw [← hes, List.getElem?_map, List.getElem?_eq_getElem hQi]; rfl
   obtain ⟨k1, k2⟩ := qm3 _ _ _ hz
   have hcv : (putCells (fun v : Value => v) 0 (flatK encR 2 d') c)[i]? = some ((encR Q[i / 2].1)[i % 2]!) := by
    have hic : i < c.size := by omega
    simp only [putCells, Array.getElem?_mapIdx, Array.getElem?_eq_getElem hic, Option.map_some, size_flatK, hps, Nat.zero_le, true_and, Nat.zero_add, hil, if_true, Nat.sub_zero]
    rw [get_flatK encR 2 d' i (by rw [hps]; exact hil), z1]
   rcases Nat.mod_two_eq_zero_or_one i with hp | hp
   ·have e1 : 2 * (i / 2) = i := by omega
    rw [e1] at k1
    rw [k1] at hx; cases hx
    rw [hp] at hcv
    have hcs : (encR Q[i / 2].1)[0]! = .string ⟨Q[i / 2].2.1.toArray⟩ := by rw [← z2]; rfl
    rw [hcs] at hcv
    exact ⟨_, hcv, rfl, .str _⟩
   ·have e1 : 2 * (i / 2) + 1 = i := by omega
    rw [e1] at k2
    rw [k2] at hx; cases hx
    rw [hp] at hcv
    exact ⟨_, hcv, Q[i / 2].1.2.2, z3.mono (hG.rowsKept hd) (fun b id hb => hG.obj b id (hd.lt_obj hb) hb)⟩
  | i + 1, hid => simp at hid
 ·obtain ⟨o, h1, h2⟩ := ho.ids b oid hb
  match oid, h1 with
  | 0, h1 => exact ⟨_, rfl, by simp⟩
  | i + 1, h1 => simp at h1
end Go.Proofs.YtkcdbcbpbolgkaaGreatDoor
namespace Go.Proofs.YtkcdbcbpbolgkaaGreatDoor
open Go.Abs
set_option linter.unusedSimpArgs false
set_option linter.unusedVariables false
attribute [go_sem] vu
def pre (p k : List UInt8) : Bool := decide (p.length ≤ k.length) && k.take p.length == p
noncomputable section
set_option maxRecDepth 100000
set_option linter.defProp false
def d236 := cut Tryz.prog Tryz.f236 news
@[go_sem] def E236 := qq d236
def F236 := fnC d236 follows Tryz.func236
def d171 := cut Tryz.prog Tryz.f171 news
@[go_sem] def E171 := qq d171
def F171 := fnC d171 follows Tryz.func171
end
theorem qcv (k p : List UInt8) : qh Tryz.prog 236 [.d (.str k), .d (.str p)] [] (.d (.bool (pre p k))) [] := by
 refine F236.go ?_
 by_cases h : p.length ≤ k.length
 ·have hd : decide ((k.length : Int) ≥ (p.length : Int)) = true := by simpa using h
  have hd2 : decide (p.length ≤ k.length) = true := by simpa using h
  try (refine ev3 @pre.eq_1 @hd @hd2 ?_; try exact True.intro)
  (repeat (with_reducible refine ob ?_))
  try (refine ev2 @hd @Nat.sub_zero ?_; try exact True.intro)
 ·have hd : decide ((k.length : Int) ≥ (p.length : Int)) = false := by simpa using h
  have hd2 : decide (p.length ≤ k.length) = false := by simpa using h
  try (refine ev3 @pre.eq_1 @hd @hd2 ?_; try exact True.intro)
  (repeat (with_reducible refine ob ?_))
  try (refine ev1 @hd ?_; try exact True.intro)
theorem qih (k p : List UInt8) : qh Tryz.prog 171 [.d (.str k), .d (.str p)] [] (.d (.bool (pre p k))) [] := by
 refine F171.go ?_
 try (refine ev ?_; try exact True.intro)
 (repeat (with_reducible refine ob ?_)); first | refine cl F236 (qcv k p) ?_ | refine clF F236 (qcv k p) (fun _ => by (refine ev2 @qp.eq_1 @jl.eq_1 ?_; try exact True.intro)) ?_
 try (refine ev ?_; try exact True.intro)
noncomputable section
set_option maxRecDepth 100000
set_option linter.defProp false
def d92u := cut Tryz.prog Tryz.f92 news [29] [10] true
@[go_sem] def E92u := qq d92u
def F92u := fnC d92u follows Tryz.func92
def d172 := cut Tryz.prog Tryz.f172 news
@[go_sem] def E172 := qq d172
def F172 := fnC d172 follows Tryz.func172
end
theorem qui {α β : Type} {f : α → β} : ∀ {l : List α}, (l.map f).Nodup → ∀ {x y : α}, x ∈ l → y ∈ l → f x = f y → x = y
 | [], _, x, y, hx, _, _ => by cases hx
 | a :: l, hn, x, y, hx, hy, h => by
  simp only [List.map_cons, List.nodup_cons, List.mem_map, not_exists, not_and] at hn
  rcases List.mem_cons.1 hx with rfl | hx'
  ·rcases List.mem_cons.1 hy with rfl | hy'
   ·rfl
   ·exact absurd h.symm (hn.1 y hy')
  ·rcases List.mem_cons.1 hy with rfl | hy'
   ·exact absurd h (hn.1 x hx')
   ·exact qui hn.2 hx' hy' h
theorem w6 {α β : Type} (f : α → β) : ∀ {l : List α}, (l.map f).Nodup → l.Nodup
 | [], _ => List.nodup_nil
 | a :: l, hn => by
  simp only [List.map_cons, List.nodup_cons, List.mem_map, not_exists, not_and] at hn ⊢
  exact ⟨fun h => hn.1 a h rfl, w6 f hn.2⟩
theorem qv4 {α : Type} (f : α → Nat) : ∀ {l : List α}, (l.map f).Nodup → ∀ {x : α}, x ∈ l → (l.find? fun y => f y == f x) = some x
 | [], _, x, hx => by cases hx
 | a :: l, hn, x, hx => by
  rw [List.find?_cons]
  by_cases h : f a = f x
  ·have := qui hn (List.mem_cons_self ..) hx h
   subst this
   simp
  ·rw [beq_false_of_ne h]
   rcases List.mem_cons.1 hx with rfl | hx'
   ·exact absurd rfl h
   ·exact qv4 f (by simp only [List.map_cons, List.nodup_cons] at hn; exact hn.2) hx'
theorem q1p {α : Type} [DecidableEq α] : ∀ {a b : List α}, a.Nodup → (∀ x ∈ a, x ∈ b) → a.length ≤ b.length
 | [], _, _, _ => Nat.zero_le _
 | x :: a, b, h, hs => by
  have hx := hs x (List.mem_cons_self ..)
  have h' := List.nodup_cons.1 h
  have := q1p (a := a) (b := b.erase x) h'.2 fun y hy => (List.mem_erase_of_ne (by rintro rfl; exact h'.1 hy)).2 (hs y (List.mem_cons_of_mem _ hy))
  rw [List.length_erase_of_mem hx] at this
  have := List.length_pos_of_mem hx
  simp only [List.length_cons]; omega
theorem qyo (l : List En) : (l.map jl).flatten = qb8 l := rfl
theorem quj (l : List En) : (qb8 l).all D.isCell = true := by induction l <;> simp_all [qb8, jl, D.isCell]
attribute [go_sem] qyo qru quj
structure Cont.Ok (m : Cont) : Prop where
 num : (m.l.map (·.1)).Nodup
 lt : ∀ x ∈ m.l, x.1 < m.c
 key : (m.l.map (·.2.1)).Nodup
def enOf (x : KV) : En := (x.2.1, x.2.2)
def preL (p : List UInt8) (l : List KV) : List En := (l.filter fun x => pre p x.2.1).map enOf
def qc5 (m : Cont) (p : List UInt8) : List En := qbw (preL p m.l)
theorem qrv {p : List UInt8} {l : List KV} (h : (l.map (·.2.1)).Nodup) : ((preL p l).map (·.1)).Nodup := by
 unfold preL
 rw [List.map_map]
 exact List.Nodup.sublist (List.Sublist.map _ List.filter_sublist) h
theorem q1q {a b : List En} (h : a.Perm b) (hn : (a.map (·.1)).Nodup) : qbw a = qbw b := by
 have h1 := ve a
 have h2 := ve b
 refine qed (h1.trans (h.trans h2.symm)) ((h1.map (fun x : En => x.1)).nodup_iff.2 hn) (qap a) (qap b)
def q1r (s : Sto) (p : List UInt8) (i : { i : List KV // (i.map (·.1)).Nodup ∧ ∀ x ∈ i, x ∈ s.m.l }) : St :=
 ⟨[(1, true, .d (.str p)), (5, true, .uni 0 2 ((preL p i.val).map jl)), (14, true, .d (.ptr 2 0))], [stoO s 1, mapO s.m, .iter (.d (.map 1)) s.m.c (i.val.map (·.1)) s.m.c], [0], 1⟩
set_option maxRecDepth 10000 in
theorem q8w (s : Sto) (p : List UInt8) (hm : s.m.Ok) (hl : s.m.l.length ≤ 1000) (hv : ∀ x ∈ s.m.l, x.2.2.length ≤ 1000000) :
  qh Tryz.prog 92 [.d (.ptr 0 0), .d (.str p)] [stoO s 1, mapO s.m] (.d (.sl 2 ((qc5 s.m p).map jl))) [stoO s 1, mapO s.m] := by
 refine F92u.go ?_
 try (refine ev2 @stoO.eq_1 @mapO.eq_1 ?_; try exact True.intro)
 (repeat (with_reducible refine ob ?_)); refine no_ ?_
 try (refine ev ?_; try exact True.intro)
 refine qn (q1r s p) (fun i => s.m.l.length - i.val.length) ⟨[], by simp, by simp⟩ ?_ (fun i => ?_)
 ·try (refine ev6 @q1r.eq_1 @stoO.eq_1 @mapO.eq_1 @preL.eq_1 @List.filter_nil.{0} @List.map_nil.{0,0} ?_; try exact True.intro)
 obtain ⟨i, hi1, hi2⟩ := i
 try (refine ev3 @q1r.eq_1 @stoO.eq_1 @mapO.eq_1 ?_; try exact True.intro)
 have hleft : qce (s.m.l.map qbl) (i.map (·.1)) = (s.m.l.filter fun x => !(i.map (·.1)).contains x.1).map qbl := by
  unfold qce
  rw [List.filter_map]; rfl
 have hone : ∀ x ∈ s.m.l, ∀ y ∈ s.m.l, x.1 = y.1 → x = y := fun x hx y hy h => qui hm.num hx hy h
 refine q4c (last := s.m.c) ⟨rfl, rfl, by intro e he; obtain ⟨x, hx, rfl⟩ := List.mem_map.1 he; exact hm.lt x hx, Nat.le_refl _⟩ (fun hl0 => ?_) (fun e he => ?_)
 ·
  rw [hleft, List.map_eq_nil_iff, List.filter_eq_nil_iff] at hl0
  have hall : ∀ x ∈ s.m.l, x ∈ i := by
   intro x hx
   have := hl0 x hx
   simp only [List.contains_eq_mem, decide_eq_true_eq, Bool.not_eq_true, Bool.not_eq_false', Bool.not_not] at this
   simp at this
   obtain ⟨a, b, hab⟩ := this
   have := hone x hx _ (hi2 _ hab) rfl
   rw [this]; exact hab
  have hperm : i.Perm s.m.l := by
   refine (List.perm_ext_iff_of_nodup (w6 _ hi1) (w6 _ hm.num)).2 fun x => ⟨hi2 x, hall x⟩
  have hpp : (preL p i).Perm (preL p s.m.l) := (hperm.filter _).map _
  have hpn : ((preL p i).map (·.1)).Nodup := by
   refine (hpp.map (fun x : En => x.1)).nodup_iff.2 ?_
   exact qrv hm.key
  have hsame : qbw (preL p i) = qc5 s.m p := q1q hpp hpn
  have hlen : (preL p i).length ≤ 1000 := by
   have h1 := hpp.length_eq
   have h2 : (preL p s.m.l).length ≤ s.m.l.length := by simp only [preL, List.length_map]; exact List.length_filter_le _ _
   omega
  try (refine ev1 @qj3.eq_1 ?_; try exact True.intro)
  (repeat (with_reducible refine ob ?_)); refine no_ ?_
  try (refine ev ?_; try exact True.intro)
  refine qq5 (.fr 5) 0 2 ((preL p i).map jl) ?_
  refine pu ?_
  try (refine ev ?_; try exact True.intro)
  refine clO [3] F172 (q8v (preL p i) hpn (by omega)) ?_
  try (refine ev ?_; try exact True.intro)
  have hsl : (preL p i).length = (qbw (preL p i)).length := (ve _).length_eq.symm
  rw [hsl]
  refine qgd 3 2 ((qbw (preL p i)).map jl) ?_ (hc := ?_) (hcc := ?_) (hes := ?_) (hok := D.okWR_noPtr (qkw _))
  ·refine pu ?_
   try (refine ev1 @hsame ?_; try exact True.intro)
  ·try (refine ev ?_; try exact True.intro)
  ·try (refine ev ?_; try exact True.intro)
  ·intro r hr
   obtain ⟨x, _, rfl⟩ := List.mem_map.1 hr
   rfl
 ·rw [hleft] at he
  obtain ⟨x, hx, rfl⟩ := List.mem_map.1 he
  rw [List.mem_filter] at hx
  obtain ⟨hx1, hx2⟩ := hx
  have hx3 : x.1 ∉ i.map (·.1) := by simpa using hx2
  have hnext : ((i ++ [x]).map (·.1)).Nodup ∧ ∀ y ∈ i ++ [x], y ∈ s.m.l := by
   refine ⟨by rw [List.map_append]; exact List.nodup_append.2 ⟨hi1, by simp, fun a ha b hb h => by simp at hb; subst hb; subst h; exact hx3 ha⟩, fun y hy => ?_⟩
   rcases List.mem_append.1 hy with h | h
   ·exact hi2 y h
   ·simp at h; subst h; exact hx1
  have hil : i.length < s.m.l.length := by
   have := q1p (w6 _ hnext.1) hnext.2
   simp at this; omega
  have hpl : (preL p i).length ≤ i.length := by simp only [preL, List.length_map]; exact List.length_filter_le _ _
  try (refine ev1 @entV.eq_1 ?_; try exact True.intro)
  (repeat (with_reducible refine ob ?_)); refine qdm ?_
  try (refine ev ?_; try exact True.intro)
  refine q0h (e := qbl x) (mid := 1) (since := s.m.c) (seen := i.map (·.1) ++ [x.1]) (clock := s.m.c) (es := s.m.l.map qbl) ⟨rfl, rfl, by simp [qbl], ?_⟩ ?_
  ·rw [List.find?_map]
   have h1 : s.m.l.find? ((fun e : Nat × D × D => e.1 == (qbl x).1) ∘ qbl) = some x := qv4 (fun y : KV => y.1) hm.num hx1
   rw [h1]; rfl
  try (refine ev1 @qbl.eq_1 ?_; try exact True.intro)
  (repeat (with_reducible refine ob ?_)); first | refine cl F171 (qih x.2.1 p) ?_ | refine clF F171 (qih x.2.1 p) (fun _ => by (refine ev2 @qp.eq_1 @jl.eq_1 ?_; try exact True.intro)) ?_
  try (refine ev ?_; try exact True.intro)
  (repeat (with_reducible refine ob ?_)); refine x5 _ (fun h => ?_) (fun h => ?_)
  ·try (refine ev ?_; try exact True.intro)
   (repeat (with_reducible refine ob ?_)); first | refine cl F127 (v8 x.2.2 (by have := hv x hx1; omega)) ?_ | refine clF F127 (v8 x.2.2 (by have := hv x hx1; omega)) (fun _ => by (refine ev2 @qp.eq_1 @jl.eq_1 ?_; try exact True.intro)) ?_
   try (refine ev ?_; try exact True.intro)
   refine ⟨by omega, ?_⟩
   have hpx : preL p (i ++ [x]) = preL p i ++ [enOf x] := by simp [preL, h]
   refine ⟨⟨i ++ [x], hnext⟩, ?_, by simp only [List.length_append, List.length_singleton]; omega⟩
   try (refine ev7 @q1r.eq_1 @stoO.eq_1 @mapO.eq_1 @hpx @List.map_append.{0,0} @jl.eq_1 @enOf.eq_1 ?_; try exact True.intro)
  ·have hpx : preL p (i ++ [x]) = preL p i := by simp [preL, h]
   try (refine ev ?_; try exact True.intro)
   refine ⟨⟨i ++ [x], hnext⟩, ?_, by simp only [List.length_append, List.length_singleton]; omega⟩
   try (refine ev7 @q1r.eq_1 @stoO.eq_1 @mapO.eq_1 @hpx @List.map_append.{0,0} @jl.eq_1 @enOf.eq_1 ?_; try exact True.intro)
end Go.Proofs.YtkcdbcbpbolgkaaGreatDoor
namespace Go.Proofs.YtkcdbcbpbolgkaaGreatDoor
open Go.Abs
set_option linter.unusedSimpArgs false
set_option linter.unusedVariables false
theorem w7 {k : List UInt8} {x : KV} : xt k x = true ↔ k = x.2.1 := by simp [xt]
theorem qkx {k v : List UInt8} : ∀ {l : List KV} {j : Nat}, l.findIdx? (xt k) = some j → ∀ k', (l.modify j fun e => (e.1, k, v)).find? (xt k') = if k' = k then some ((l[j]?.getD (0, [], [])).1, k, v) else l.find? (xt k')
 | [], j, h, k' => by simp at h
 | a :: l, j, h, k' => by
  rw [List.findIdx?_cons] at h
  by_cases ha : xt k a = true
  ·rw [if_pos ha] at h
   cases h
   simp only [List.modify_zero_cons, List.find?_cons, List.getElem?_cons_zero, Option.getD_some]
   by_cases hk : k' = k
   ·subst hk
    have : xt k' (a.1, k', v) = true := w7.2 rfl
    rw [this, if_pos rfl]
   ·have h1 : xt k' (a.1, k, v) = false := by simpa [xt] using hk
    have h2 : xt k' a = false := by rw [w7] at ha; simp [xt, ← ha, hk]
    rw [h1, h2, if_neg hk]
  ·rw [if_neg (by simpa using ha)] at h
   obtain ⟨i, hi, rfl⟩ := Option.map_eq_some_iff.1 h
   simp only [List.modify_succ_cons, List.find?_cons, List.getElem?_cons_succ]
   have ih := qkx (v := v) hi k'
   by_cases hk : k' = k
   ·subst hk
    have : xt k' a = false := by simpa using ha
    rw [this]
    exact ih
   ·cases h2 : xt k' a with
    | true => rw [if_neg hk]
    | false => rw [ih]
theorem qrw {k : List UInt8} {l : List KV} (h : l.findIdx? (xt k) = none) : l.find? (xt k) = none := by
 rw [List.findIdx?_eq_none_iff] at h
 exact List.find?_eq_none.2 fun x hx => by rw [h x hx]; simp
theorem qv5 (k v : List UInt8) (m : Cont) (k' : List UInt8) : mGet k' (mPut k v m) = if k' = k then some v else mGet k' m := by
 unfold mGet mPut
 cases h : m.l.findIdx? (xt k) with
 | some j =>
  simp only [qkx h k']
  split <;> rfl
 | none =>
  simp only [List.find?_append]
  by_cases hk : k' = k
  ·subst hk
   rw [qrw h, if_pos rfl]
   simp [xt]
  ·rw [if_neg hk]
   have : [(m.c, k, v)].find? (xt k') = none := by simp [xt, hk]
   rw [this, Option.or_none]
theorem qm4 {k v : List UInt8} : ∀ {l : List KV} {j : Nat}, l.findIdx? (xt k) = some j → (l.modify j fun e => (e.1, k, v)).map (·.2.1) = l.map (·.2.1) ∧ (l.modify j fun e => (e.1, k, v)).map (·.1) = l.map (·.1)
 | [], j, h => by simp at h
 | a :: l, j, h => by
  rw [List.findIdx?_cons] at h
  by_cases ha : xt k a = true
  ·rw [if_pos ha] at h
   cases h
   rw [w7] at ha
   simp only [List.modify_zero_cons, List.map_cons, ha, and_self]
  ·rw [if_neg (by simpa using ha)] at h
   obtain ⟨i, hi, rfl⟩ := Option.map_eq_some_iff.1 h
   obtain ⟨h1, h2⟩ := qm4 (v := v) hi
   simp only [List.modify_succ_cons, List.map_cons, h1, h2, and_self]
theorem qm5 {α : Type} {l : List α} {x : α} (h : l.Nodup) (hx : x ∉ l) : (l ++ [x]).Nodup :=
 List.nodup_append.2 ⟨h, by simp, fun a ha b hb e => by simp at hb; subst hb; subst e; exact hx ha⟩
theorem qky {m : Cont} (h : m.Ok) (k v : List UInt8) : (mPut k v m).Ok := by
 unfold mPut
 cases hf : m.l.findIdx? (xt k) with
 | some j =>
  obtain ⟨h1, h2⟩ := qm4 (v := v) hf
  refine ⟨by simpa only [h2] using h.num, fun x hx => ?_, by simpa only [h1] using h.key⟩
  have : x.1 ∈ (m.l.modify j fun e => (e.1, k, v)).map (·.1) := List.mem_map_of_mem hx
  rw [h2] at this
  obtain ⟨y, hy, he⟩ := List.mem_map.1 this
  rw [← he]; exact h.lt y hy
 | none =>
  rw [List.findIdx?_eq_none_iff] at hf
  refine ⟨?_, fun x hx => ?_, ?_⟩
  ·rw [List.map_append]
   refine qm5 h.num fun hm => ?_
   obtain ⟨y, hy, he⟩ := List.mem_map.1 hm
   have := h.lt y hy
   simp only at he
   omega
  ·simp only
   rcases List.mem_append.1 hx with hx | hx
   ·have := h.lt x hx; omega
   ·simp at hx; subst hx; simp
  ·rw [List.map_append]
   refine qm5 h.key fun hm => ?_
   obtain ⟨y, hy, he⟩ := List.mem_map.1 hm
   have := hf y hy
   simp [xt, he] at this
theorem qgl (k : List UInt8) (m : Cont) : (mDel k m).l.Sublist m.l := by
 unfold mDel
 split
 ·exact List.eraseIdx_sublist ..
 ·exact List.Sublist.refl _
theorem qkz {m : Cont} (h : m.Ok) (k : List UInt8) : (mDel k m).Ok :=
 ⟨List.Nodup.sublist ((qgl k m).map _) h.num, fun x hx => by rw [q7e]; exact h.lt x ((qgl k m).subset hx), List.Nodup.sublist ((qgl k m).map _) h.key⟩
theorem qm6 {k : List UInt8} : ∀ {l : List KV} {j : Nat}, l.findIdx? (xt k) = some j → (l.map (·.2.1)).Nodup → ∀ k', (l.eraseIdx j).find? (xt k') = if k' = k then none else l.find? (xt k')
 | [], j, h, _, k' => by simp at h
 | a :: l, j, h, hn, k' => by
  rw [List.findIdx?_cons] at h
  simp only [List.map_cons, List.nodup_cons] at hn
  by_cases ha : xt k a = true
  ·rw [if_pos ha] at h
   cases h
   rw [w7] at ha
   simp only [List.eraseIdx_cons_zero, List.find?_cons]
   by_cases hk : k' = k
   ·subst hk
    rw [if_pos rfl]
    refine List.find?_eq_none.2 fun x hx hk => ?_
    rw [w7] at hk
    exact hn.1 (List.mem_map.2 ⟨x, hx, by rw [← ha, ← hk]⟩)
   ·rw [if_neg hk]
    have h2 : xt k' a = false := by simp [xt, ← ha, hk]
    rw [h2]
  ·rw [if_neg (by simpa using ha)] at h
   obtain ⟨i, hi, rfl⟩ := Option.map_eq_some_iff.1 h
   simp only [List.eraseIdx_cons_succ, List.find?_cons]
   have ih := qm6 hi hn.2 k'
   by_cases hk : k' = k
   ·subst hk
    have : xt k' a = false := by simpa using ha
    rw [this, if_pos rfl]
    rw [if_pos rfl] at ih
    exact ih
   ·cases h2 : xt k' a with
    | true => rw [if_neg hk]
    | false => rw [ih]
theorem qv6 {m : Cont} (h : m.Ok) (k k' : List UInt8) : mGet k' (mDel k m) = if k' = k then none else mGet k' m := by
 unfold mGet mDel
 cases hf : m.l.findIdx? (xt k) with
 | some j =>
  simp only [qm6 hf h.key k']
  split <;> rfl
 | none =>
  simp only
  split
  ·rename_i hk; subst hk; rw [qrw hf]; rfl
  ·rfl
theorem q5u (k v : List UInt8) (m : Cont) : (mPut k v m).l.length ≤ m.l.length + 1 := by
 unfold mPut
 split <;> simp
theorem qv7 (k : List UInt8) (m : Cont) : (mDel k m).l.length ≤ m.l.length := (qgl k m).length_le
def kvOk (x : KV) : Prop := 1 ≤ x.2.1.length ∧ x.2.1.length ≤ 40 ∧ x.2.2.length ≤ 900
theorem q5v {k v : List UInt8} {m : Cont} {x : KV} (h : x ∈ (mPut k v m).l) : x ∈ m.l ∨ (x.2.1 = k ∧ x.2.2 = v) := by
 unfold mPut at h
 split at h
 ·rename_i j hj
  simp only at h
  obtain ⟨i, hi⟩ := List.getElem?_of_mem h
  rw [List.getElem?_modify] at hi
  cases hg : m.l[i]? with
  | none => rw [hg] at hi; cases hi
  | some y =>
   rw [hg] at hi
   simp only [Option.map_eq_map, Option.map_some, Option.some.injEq] at hi
   split at hi
   ·subst hi; exact .inr ⟨rfl, rfl⟩
   ·subst hi; exact .inl (List.mem_of_getElem? hg)
 ·rcases List.mem_append.1 h with h | h
  ·exact .inl h
  ·simp at h; subst h; exact .inr ⟨rfl, rfl⟩
structure Cont.Good (m : Cont) : Prop where
 ok : m.Ok
 few : m.l.length ≤ 400
 small : ∀ x ∈ m.l, kvOk x
theorem qe8 : ∀ (l : List OpS) {m : Cont}, m.Good → (∀ o ∈ l, jw o = true) → (jn m l).2 = true → (jn m l).1.Good
 | [], m, h, _, _ => h
 | o :: l, m, h, hp, hy => by
  rw [jn] at hy ⊢
  have ho := wy.1 (hp o (List.mem_cons_self ..))
  have hp' := fun x hx => hp x (List.mem_cons_of_mem _ hx)
  split at hy
  ·rename_i hd
   rw [if_pos hd]
   exact qe8 l ⟨qkz h.ok _, Nat.le_trans (qv7 _ _) h.few, fun x hx => h.small x ((qgl _ _).subset hx)⟩ hp' hy
  ·rename_i hd
   rw [if_neg hd]
   split at hy
   ·cases hy
   ·rename_i h4
    rw [if_neg h4]
    refine qe8 l ⟨qky h.ok _ _, by omega, fun x hx => ?_⟩ hp' hy
    rcases q5v hx with hx | ⟨h1, h2⟩
    ·exact h.small x hx
    ·exact ⟨by rw [h1]; exact ho.1, by rw [h1]; exact ho.2.1, by rw [h2]; exact ho.2.2.1⟩
theorem quk (f r : List UInt8) (hr : r.length ≤ 2000) : (qdr f r).length ≤ f.length + 70000 := by
 have := qkt _ r (Nat.le_refl _)
 unfold qdr
 rw [qku _ _ (fun q hq => (qcs _ r (Nat.le_refl _) q hq).2)]
 simp only; omega
structure Sto.Ok (n : Nat) (s : Sto) : Prop where
 good : s.m.Good
 file : s.file.length ≤ n * 70000
theorem q8x (n : Nat) : newS.Ok n := by
 refine ⟨⟨⟨List.nodup_nil, fun x hx => (by cases hx), List.nodup_nil⟩, ?_, fun x hx => (by cases hx)⟩, ?_⟩
 ·simp only [newS, qig, List.length_nil, Nat.zero_le]
 ·simp only [newS, List.length_nil, Nat.zero_le]
theorem Sto.Ok.mono {n m : Nat} {s : Sto} (h : s.Ok n) (hn : n ≤ m) : s.Ok m := ⟨h.good, Nat.le_trans h.file (Nat.mul_le_mul_right _ hn)⟩
theorem qo5 (s : Sto) (l : List OpS) : ((xg s l).2 ≠ 0 ∧ (xg s l).1 = s) ∨ ((xg s l).2 = 0 ∧ (qz l).2 = 0 ∧ (jn s.m l).2 = true ∧ (xg s l).1 = ⟨qdr s.file (qz l).1, s.synced, (jn s.m l).1⟩) := by
 unfold xg
 split
 ·exact .inl ⟨by assumption, rfl⟩
 ·split
  ·exact .inl ⟨by simp, rfl⟩
  ·rename_i h1 h2
   exact .inr ⟨rfl, by simpa using h1, by simpa using h2, rfl⟩
theorem qul {n : Nat} {s : Sto} (h : s.Ok n) (l : List OpS) : (xg s l).1.Ok (n + 1) := by
 rcases qo5 s l with ⟨_, he⟩ | ⟨_, h1, h2, he⟩
 ·rw [he]; exact h.mono (Nat.le_succ _)
 ·rw [he]
  refine ⟨qe8 l h.good (qcu h1).2.1 h2, ?_⟩
  have := quk s.file _ (qct l)
  have := h.file
  simp only; omega
theorem qm7 {s : Sto} {l : List OpS} (hl : l.length ≤ 100000) (hf : s.file.length ≤ 100000000) (h : (xg s l).2 = 0) :
  qh Tryz.prog 29 [.d (.ptr 0 0), .d (.sl 3 (l.map qp))] [stoO s 1, mapO s.m] (.d (.int .i64 0)) [stoO (xg s l).1 2, mapO s.m, mapO (xg s l).1.m] := by
 have := qrt s l hl hf
 rw [qgi, if_pos h, h] at this
 exact this
def ws (k : List UInt8) : Option (List UInt8) → List OpS → Option (List UInt8)
 | a, [] => a
 | a, o :: l => ws k (if o.key = k then (if o.del then none else some o.val) else a) l
theorem qhg (k : List UInt8) : ∀ (l : List OpS) {m : Cont}, m.Ok → (jn m l).2 = true → mGet k (jn m l).1 = ws k (mGet k m) l
 | [], m, _, _ => rfl
 | o :: l, m, h, hy => by
  rw [jn] at hy ⊢
  rw [ws]
  split at hy
  ·rename_i hd
   rw [if_pos hd, qhg k l (qkz h _) hy, qv6 h]
   congr 1
   by_cases hk : k = o.key
   ·rw [if_pos hk, if_pos hk.symm, if_pos hd]
   ·rw [if_neg hk, if_neg (Ne.symm hk)]
  ·rename_i hd
   rw [if_neg hd]
   split at hy
   ·cases hy
   ·rename_i h4
    rw [if_neg h4, qhg k l (qky h _ _) hy, qv5]
    congr 1
    by_cases hk : k = o.key
    ·rw [if_pos hk, if_pos hk.symm, if_neg hd]
    ·rw [if_neg hk, if_neg (Ne.symm hk)]
end Go.Proofs.YtkcdbcbpbolgkaaGreatDoor
namespace Go.Proofs.YtkcdbcbpbolgkaaGreatDoor
open Go.Abs
set_option linter.unusedSimpArgs false
set_option linter.unusedVariables false
theorem ql6 (w : List UInt8) : yc (qc w) = w := by
 induction w with
 | nil => rfl
 | cons c w ih => simp_all [yc, qc]
theorem q8y (w : List UInt8) : (∃ l, qc w = qc l) = True := eq_true ⟨w, rfl⟩
theorem xa2 : (∃ l, ([] : List (List D)) = qc l) = True := eq_true ⟨[], rfl⟩
theorem qo7 : yc [] = [] := rfl
attribute [go_sem] ql6 q8y xa2 qo7
noncomputable section
set_option maxRecDepth 100000
set_option linter.defProp false
def d30 := cut Tryz.prog Tryz.f30 news
@[go_sem] def E30 := qq d30
def d24 := cut Tryz.prog Tryz.f24 news
@[go_sem] def E24 := qq d24
end
theorem q1s (m : Cont) (p : List UInt8) : (qc5 m p).length ≤ m.l.length := by
 rw [qc5, (ve _).length_eq]
 simp only [preL, List.length_map]
 exact List.length_filter_le _ _
structure StepS where
 kind : Int
 ops : List OpS
 deriving DecidableEq, Inhabited
def x8 (x : StepS) : List D := [.int .i64 x.kind, .sl 3 (x.ops.map qp)]
theorem qgm (o : StepS) : D.noPtrL (x8 o) = true := by simp only [x8, D.noPtrL, D.noPtr, qrj, Bool.and_self]
theorem qum (l : List StepS) : D.noPtrR (l.map x8) = true := xi qgm l
attribute [go_sem] qgm qum
noncomputable section
set_option maxRecDepth 100000
set_option linter.defProp false
end
def ops1 : List OpS := [⟨[97], false, [1]⟩, ⟨[98], false, [2]⟩]
def ops2 : List OpS := [⟨[97], true, []⟩]
def st1 : Sto := (xg newS ops1).1
def st2 : Sto := (xg st1 ops2).1
theorem c1 : (xg newS ops1).2 = 0 := by decide +kernel
theorem c2 : (xg st1 ops2).2 = 0 := by decide +kernel
theorem c3 : qc5 st2.m [] = [([98], [2])] := by decide +kernel
theorem q80 : qh Tryz.prog 28 [] [] (.d (.ptr 1 0)) [mapO newS.m, stoO newS 0] := xav
end Go.Proofs.YtkcdbcbpbolgkaaGreatDoor
namespace Go.Proofs.YtkcdbcbpbolgkaaGreatDoor
open Go.Abs
set_option linter.unusedSimpArgs false
noncomputable section
set_option maxRecDepth 100000
set_option linter.defProp false
def d201 := cut Tryz.prog Tryz.f201 news
@[go_sem] def E201 := qq d201
def d202 := cut Tryz.prog Tryz.f202 news
@[go_sem] def E202 := qq d202
def d264 := cut Tryz.prog Tryz.f264 news
@[go_sem] def E264 := qq d264
def d203 := cut Tryz.prog Tryz.f203 news
@[go_sem] def E203 := qq d203
def d114 := cut Tryz.prog Tryz.f114 news
@[go_sem] def E114 := qq d114
end
end Go.Proofs.YtkcdbcbpbolgkaaGreatDoor
namespace Go.Proofs.YtkcdbcbpbolgkaaGreatDoor
open Go.Abs
set_option linter.unusedSimpArgs false
noncomputable section
set_option maxRecDepth 100000
set_option linter.defProp false
def d209 := cut Tryz.prog Tryz.f209 news
@[go_sem] def E209 := qq d209
def d210 := cut Tryz.prog Tryz.f210 news
@[go_sem] def E210 := qq d210
def d124 := cut Tryz.prog Tryz.f124 news
@[go_sem] def E124 := qq d124
def d111 := cut Tryz.prog Tryz.f111 news
@[go_sem] def E111 := qq d111
def d36 := cut Tryz.prog Tryz.f36 news
@[go_sem] def E36 := qq d36
end
end Go.Proofs.YtkcdbcbpbolgkaaGreatDoor
namespace Go.Proofs.YtkcdbcbpbolgkaaGreatDoor
open Go.Abs
set_option linter.unusedSimpArgs false
structure Ue where
 sess : Int
 phase : Int
 moved : List Bool
 opened : List Bool
 deriving DecidableEq, Inhabited
def encB (b : Bool) : List D := [.bool b]
theorem qm9 (b : Bool) : D.noPtrL (encB b) = true := rfl
theorem vm (l : List Bool) : D.noPtrR (l.map encB) = true := xi qm9 l
def qe (x : Ue) : List D := [.int .i64 x.sess, .int .i64 x.phase, .sl 1 (x.moved.map encB), .sl 1 (x.opened.map encB)]
theorem qfb (x : Ue) : D.noPtrL (qe x) = true := by simp only [qe, D.noPtrL, D.noPtr, vm, Bool.and_self]
theorem qca (l : List Ue) : D.noPtrR (l.map qe) = true := xi qfb l
structure Mg where
 roles : Int
 ents : List Ue
 deriving DecidableEq, Inhabited
def ql (m : Mg) : List D := [.int .i64 m.roles, .sl 4 (m.ents.map qe)]
theorem qur (m : Mg) : D.noPtrL (ql m) = true := by simp only [ql, D.noPtrL, D.noPtr, qca, Bool.and_self]
attribute [go_sem] qm9 vm qfb qca qur
def Ue.Sm (x : Ue) : Prop := x.moved.length ≤ 1000 ∧ x.opened.length ≤ 1000
def Mg.Sm (m : Mg) : Prop := m.ents.length ≤ 1000 ∧ ∀ x ∈ m.ents, x.Sm
noncomputable section
set_option maxRecDepth 100000
set_option linter.defProp false
def d266 := cut Tryz.prog Tryz.f266 news
@[go_sem] def E266 := qq d266
def F266 := fnC d266 follows Tryz.func266
def d211 := cut Tryz.prog Tryz.f211 news
@[go_sem] def E211 := qq d211
def F211 := fnC d211 follows Tryz.func211
def d134 := cut Tryz.prog Tryz.f134 news
@[go_sem] def E134 := qq d134
def F134 := fnC d134 follows Tryz.func134
def d69 := cut Tryz.prog Tryz.f69 news
@[go_sem] def E69 := qq d69
def F69 := fnC d69 follows Tryz.func69
end
def hasB (v : Bool) (l : List Bool) : Bool := l.any fun b => v == b
def qwe (l : List Bool) (v : Bool) (i : { i : Nat // (l.take i).any (fun b => v == b) = false }) : St :=
 ⟨[(0, true, .d (.sl 1 (l.map encB))), (1, true, .d (.bool v)), (7, true, .d (.int .i64 l.length)), (8, true, .d (.int .i64 (i.val : Nat)))], [], [], 1⟩
theorem qna (l : List Bool) (v : Bool) (hl : l.length ≤ 1000) : qh Tryz.prog 266 [.d (.sl 1 (l.map encB)), .d (.bool v)] [] (.d (.int .i64 (idx (fun b => v == b) l))) [] := by
 refine F266.go ?_
 try (refine ev ?_; try exact True.intro)
 refine qn (qwe l v) (fun i => l.length - i.val) ⟨0, rfl⟩ ?_ (fun i => ?_)
 ·try (refine ev1 @qwe.eq_1 ?_; try exact True.intro)
 obtain ⟨i, hi⟩ := i
 try (refine ev1 @qwe.eq_1 ?_; try exact True.intro)
 (repeat (with_reducible refine ob ?_)); refine x5 _ (fun h => ?_) (fun h => ?_)
 ·have hil : i < l.length := by simpa using h
  (refine ev2 (qj encB l hil) @encB.eq_1 ?_; try exact True.intro)
  (repeat (with_reducible refine ob ?_))
  refine x5 _ (fun h2 => ?_) (fun h2 => ?_)
  ·try (refine ev1 (qd8 (f := fun b => v == b) hi hil h2) ?_; try exact True.intro)
  ·try (refine ev ?_; try exact True.intro)
   refine ⟨⟨i + 1, k8 hi hil h2⟩, ?_, by dsimp only; omega⟩
   try (refine ev2 @qwe.eq_1 (qg (show i < 9223372036854775807 by omega)) ?_; try exact True.intro)
 ·have hil : l.length ≤ i := by simpa using h
  try (refine ev1 (qd7 hi hil) ?_; try exact True.intro)
theorem wj (l : List Bool) (v : Bool) (hl : l.length ≤ 1000) : qh Tryz.prog 211 [.d (.sl 1 (l.map encB)), .d (.bool v)] [] (.d (.bool (hasB v l))) [] := by
 refine F211.go ?_
 try (refine ev ?_; try exact True.intro)
 (repeat (with_reducible refine ob ?_)); first | refine cl F266 (qna l v hl) ?_ | refine clF F266 (qna l v hl) (fun _ => by (refine ev2 @qe.eq_1 @ql.eq_1 ?_; try exact True.intro)) ?_
 try (refine ev2 @qvx @hasB.eq_1 ?_; try exact True.intro)
def xn (x : Ue) : Int :=
 if !hasB false x.moved && !hasB false x.opened then 3 else if !hasB false x.moved then 2 else if hasB true x.opened then 0 else 1
theorem w8 (x : Ue) (hx : x.Sm) : qh Tryz.prog 134 [.d (.agg (qe x))] [] (.d (.int .i64 (xn x))) [] := by
 refine F134.go ?_
 try (refine ev1 @qe.eq_1 ?_; try exact True.intro)
 (repeat (with_reducible refine ob ?_)); first | refine cl F211 (wj x.moved false hx.1) ?_ | refine clF F211 (wj x.moved false hx.1) (fun _ => by (refine ev2 @qe.eq_1 @ql.eq_1 ?_; try exact True.intro)) ?_
 try (refine ev ?_; try exact True.intro)
 (repeat (with_reducible refine ob ?_)); first | refine cl F211 (wj x.opened false hx.2) ?_ | refine clF F211 (wj x.opened false hx.2) (fun _ => by (refine ev2 @qe.eq_1 @ql.eq_1 ?_; try exact True.intro)) ?_
 try (refine ev ?_; try exact True.intro)
 refine x5 _ (fun h1 => ?_) (fun h1 => ?_)
 ·have e : xn x = 3 := by simp_all [xn]
  try (refine ev1 @e ?_; try exact True.intro)
 try (refine ev ?_; try exact True.intro)
 refine x5 _ (fun h2 => ?_) (fun h2 => ?_)
 ·have e : xn x = 2 := by simp_all [xn]
  try (refine ev1 @e ?_; try exact True.intro)
 try (refine ev ?_; try exact True.intro)
 (repeat (with_reducible refine ob ?_)); first | refine cl F211 (wj x.opened true hx.2) ?_ | refine clF F211 (wj x.opened true hx.2) (fun _ => by (refine ev2 @qe.eq_1 @ql.eq_1 ?_; try exact True.intro)) ?_
 try (refine ev ?_; try exact True.intro)
 refine x5 _ (fun h3 => ?_) (fun h3 => ?_)
 ·have e : xn x = 0 := by simp_all [xn]
  try (refine ev1 @e ?_; try exact True.intro)
 ·have e : xn x = 1 := by simp_all [xn]
  try (refine ev1 @e ?_; try exact True.intro)
theorem w01 : (IntKind.i64.wrap (0 - 1)).toNat = 0 := by decide
def qbf (m : Mg) (i : Nat) : Bool :=
 decide ((m.ents.getD i default).sess < 1) || decide ((m.ents.getD i default).sess > 32) || (decide ((i : Int) > 0) && decide ((m.ents.getD i default).sess ≤ (m.ents.getD (i - 1) default).sess)) ||
 ((m.ents.getD i default).moved.length : Int) != m.roles || ((m.ents.getD i default).opened.length : Int) != m.roles || (m.ents.getD i default).phase == 0 || (m.ents.getD i default).phase != xn (m.ents.getD i default)
def xx (m : Mg) : Bool := qbc (fun i => !qbf m i) m.ents.length && (decide (m.roles ≥ 1) && decide (m.roles ≤ 6))
theorem en0 (m : Mg) (h : 0 < m.ents.length) : (decide (m.ents[0].sess < 1) || decide (m.ents[0].sess > 32) || (m.ents[0].moved.length : Int) != m.roles || (m.ents[0].opened.length : Int) != m.roles || m.ents[0].phase == 0 || m.ents[0].phase != xn m.ents[0]) = qbf m 0 := by
 simp only [qbf, zw h, Int.ofNat_zero, decide_false, Bool.false_and, Bool.or_false, Int.natCast_zero, show ¬ ((0 : Int) > 0) by omega]
theorem enk (m : Mg) (k : Nat) (h : k + 1 < m.ents.length) (h' : k < m.ents.length) : (decide (m.ents[k+1].sess < 1) || decide (m.ents[k+1].sess > 32) || (decide ((k : Int) + 1 > 0) && decide (m.ents[k+1].sess ≤ m.ents[k].sess)) || (m.ents[k+1].moved.length : Int) != m.roles || (m.ents[k+1].opened.length : Int) != m.roles || m.ents[k+1].phase == 0 || m.ents[k+1].phase != xn m.ents[k+1]) = qbf m (k + 1) := by
 simp only [qbf, zw h, Nat.add_sub_cancel, zw h', Int.natCast_add, Int.cast_ofNat_Int]
def xf (m : Mg) : AObj := .row [.d (.int .i64 m.roles), .d (.sl 4 (m.ents.map qe))]
def qgp (m : Mg) (i : { i : Nat // qbc (fun i => !qbf m i) i = true }) : St :=
 ⟨[(1, true, .d (.ptr 0 0)), (6, true, .d (.sl 4 (m.ents.map qe))), (7, true, .d (.int .i64 m.ents.length)), (8, true, .d (.int .i64 (i.val : Nat)))], [xf m], [], 1⟩
set_option maxRecDepth 10000 in
theorem ki (m : Mg) (hm : m.Sm) : qh Tryz.prog 69 [.d (.agg (ql m))] [] (.d (.bool (xx m))) [] := by
 have hl := hm.1
 refine F69.go ?_
 try (refine ev1 @ql.eq_1 ?_; try exact True.intro)
 refine qn (qgp m) (fun i => m.ents.length - i.val) ⟨0, rfl⟩ ?_ (fun i => ?_)
 ·try (refine ev2 @qgp.eq_1 @xf.eq_1 ?_; try exact True.intro)
 obtain ⟨i, hi⟩ := i
 try (refine ev2 @qgp.eq_1 @xf.eq_1 ?_; try exact True.intro)
 (repeat (with_reducible refine ob ?_)); refine x5 _ (fun h => ?_) (fun h => ?_)
 ·have hil : i < m.ents.length := by simpa using h
  have hx := hm.2 _ (List.getElem_mem hil)
  rcases Nat.eq_zero_or_pos i with h0 | h0
  ·subst h0
   (refine ev4 (qj qe m.ents hil) @qe.eq_1 @Int.toNat_zero @w01 ?_; try exact True.intro)
   (repeat (with_reducible refine ob ?_))
   (repeat (with_reducible refine ob ?_)); first | refine cl F134 (w8 m.ents[0] hx) ?_ | refine clF F134 (w8 m.ents[0] hx) (fun _ => by (refine ev2 @qe.eq_1 @ql.eq_1 ?_; try exact True.intro)) ?_
   try (refine ev ?_; try exact True.intro)
   refine ⟨fun h => by rw [h]; rfl, ?_⟩
   refine qm (qbf m 0) rfl ?_ (fun h2 => ?_) (fun h2 => ?_)
   ·try (refine ev1 (en0 m hil) ?_; try exact True.intro)
   ·have hg : (!qbf m 0) = false := by simp [h2]
    try (refine ev2 @xx.eq_1 (qd9 (g := fun i => !qbf m i) hil hg) ?_; try exact True.intro)
   ·try (refine ev ?_; try exact True.intro)
    refine ⟨⟨1, w4 hi (by simp [h2])⟩, ?_, by dsimp only; omega⟩
    try (refine ev3 @qgp.eq_1 @xf.eq_1 (show IntKind.i64.wrap 1 = 1 by decide) ?_; try exact True.intro)
  ·obtain ⟨k, rfl⟩ : ∃ k, i = k + 1 := ⟨i - 1, by omega⟩
   have hk : k < m.ents.length := by omega
   have hw : IntKind.i64.wrap (((k : Nat) : Int) + 1 - 1) = ((k : Nat) : Int) := by rw [wrap_i64 (by omega) (by omega)]; omega
   have hw2 : IntKind.i64.wrap (((k : Nat) : Int) + 1 + 1) = ((k : Nat) : Int) + 1 + 1 := by rw [wrap_i64 (by omega) (by omega)]
   (refine ev4 (qj qe m.ents hil) (qj qe m.ents hk) @hw @qe.eq_1 ?_; try exact True.intro)
   (repeat (with_reducible refine ob ?_))
   (repeat (with_reducible refine ob ?_)); first | refine cl F134 (w8 m.ents[k+1] hx) ?_ | refine clF F134 (w8 m.ents[k+1] hx) (fun _ => by (refine ev2 @qe.eq_1 @ql.eq_1 ?_; try exact True.intro)) ?_
   try (refine ev ?_; try exact True.intro)
   refine ⟨fun h => by rw [h]; rfl, ?_⟩
   refine qm (qbf m (k + 1)) rfl ?_ (fun h2 => ?_) (fun h2 => ?_)
   ·try (refine ev1 (enk m k hil hk) ?_; try exact True.intro)
   ·have hg : (!qbf m (k + 1)) = false := by simp [h2]
    try (refine ev2 @xx.eq_1 (qd9 (g := fun i => !qbf m i) hil hg) ?_; try exact True.intro)
   ·try (refine ev ?_; try exact True.intro)
    refine ⟨⟨k + 1 + 1, w4 hi (by simp [h2])⟩, ?_, by dsimp only; omega⟩
    try (refine ev3 @qgp.eq_1 @xf.eq_1 @hw2 ?_; try exact True.intro)
 ·have hil : m.ents.length ≤ i := by simpa using h
  have ha : qbc (fun i => !qbf m i) m.ents.length = true := zm.2 fun j hj => zm.1 hi j (by omega)
  try (refine ev ?_; try exact True.intro)
  (repeat (with_reducible refine ob ?_))
  (refine ev2 @xx.eq_1 @ha ?_; try exact True.intro)
end Go.Proofs.YtkcdbcbpbolgkaaGreatDoor
namespace Go.Proofs.YtkcdbcbpbolgkaaGreatDoor
open Go.Abs
set_option linter.unusedSimpArgs false
noncomputable section
set_option maxRecDepth 100000
set_option linter.defProp false
def d144 := cut Tryz.prog Tryz.f144 news
@[go_sem] def E144 := qq d144
def F144 := fnC d144 follows Tryz.func144
def d143 := cut Tryz.prog Tryz.f143 news
@[go_sem] def E143 := qq d143
def F143 := fnC d143 follows Tryz.func143
def d77 := cut Tryz.prog Tryz.f77 news
@[go_sem] def E77 := qq d77
def F77 := fnC d77 follows Tryz.func77
def d145 := cut Tryz.prog Tryz.f145 news
@[go_sem] def E145 := qq d145
def F145 := fnC d145 follows Tryz.func145
def d78 := cut Tryz.prog Tryz.f78 news
@[go_sem] def E78 := qq d78
def F78 := fnC d78 follows Tryz.func78
def d101 := cut Tryz.prog Tryz.f101 news
@[go_sem] def E101 := qq d101
def F101 := fnC d101 follows Tryz.func101
def d40 := cut Tryz.prog Tryz.f40 news
@[go_sem] def E40 := qq d40
def F40 := fnC d40 follows Tryz.func40
def d43 := cut Tryz.prog Tryz.f43 news
@[go_sem] def E43 := qq d43
def F43 := fnC d43 follows Tryz.func43
end
def sObj (s : Int) : AObj := .row [.d (.int .i64 s)]
attribute [go_sem] sObj
theorem q5x (x : Ue) (s : Int) : qh Tryz.prog 144 [.d (.agg (qe x)), .d (.ptr 0 0)] [sObj s] (.d (.bool (decide (x.sess ≥ s)))) [sObj s] := by
 refine F144.go ?_
 try (refine ev2 @qe.eq_1 @sObj.eq_1 ?_; try exact True.intro)
def q5y (l : List Ue) (k : FuncId) (s : Int) (f : Ue → Bool) (i : { i : Nat // (l.take i).any f = false }) : St :=
 ⟨[(0, true, .d (.sl 4 (l.map qe))), (1, true, .d (.func (.func k) [] [.ptr 0 0])), (6, true, .d (.sl 4 (l.map qe))), (7, true, .d (.int .i64 l.length)), (8, true, .d (.int .i64 (i.val : Nat)))],
  [sObj s], [], 1⟩
theorem qyq (l : List Ue) (s : Int) (hl : l.length ≤ 1000) : qh Tryz.prog 143 [.d (.sl 4 (l.map qe)), .d (.func (.func 144) [] [.ptr 0 0])] [sObj s]
  (.d (.int .i64 (idx (fun x => decide (x.sess ≥ s)) l))) [sObj s] := by
 refine F143.go ?_
 try (refine ev ?_; try exact True.intro)
 refine qn (q5y l 144 s (fun x => decide (x.sess ≥ s))) (fun i => l.length - i.val) ⟨0, rfl⟩ ?_ (fun i => ?_)
 ·try (refine ev2 @q5y.eq_1 @sObj.eq_1 ?_; try exact True.intro)
 obtain ⟨i, hi⟩ := i
 try (refine ev1 @q5y.eq_1 ?_; try exact True.intro)
 (repeat (with_reducible refine ob ?_)); refine x5 _ (fun h => ?_) (fun h => ?_)
 ·have hil : i < l.length := by simpa using h
  (refine ev2 (qj qe l hil) @qe.eq_1 ?_; try exact True.intro)
  (repeat (with_reducible refine ob ?_)); refine clO [0] F144 (q5x l[i] s) ?_ (hfit := by first | exact ⟨qa, trivial⟩ | exact ⟨qa, qa, trivial⟩ | (refine ev2 @qe.eq_1 @ql.eq_1 ?_; try exact True.intro))
  try (refine ev1 @sObj.eq_1 ?_; try exact True.intro)
  refine x5 _ (fun h2 => ?_) (fun h2 => ?_)
  ·try (refine ev1 (qd8 (f := fun x => decide (x.sess ≥ s)) hi hil h2) ?_; try exact True.intro)
  ·try (refine ev ?_; try exact True.intro)
   refine ⟨⟨i + 1, k8 hi hil h2⟩, ?_, by dsimp only; omega⟩
   try (refine ev3 @q5y.eq_1 @sObj.eq_1 (qg (show i < 9223372036854775807 by omega)) ?_; try exact True.intro)
 ·try (refine ev2 (qd7 hi (by simpa using h)) @sObj.eq_1 ?_; try exact True.intro)
def qx (m : Mg) (s : Int) : Nat × Bool :=
 if m.ents.any (fun x => decide (x.sess ≥ s)) then (m.ents.findIdx (fun x => decide (x.sess ≥ s)), (m.ents.getD (m.ents.findIdx (fun x => decide (x.sess ≥ s))) default).sess == s) else (m.ents.length, false)
theorem q81 {α : Type} (f : α → Bool) (l : List α) : decide (idx f l < 0) = !l.any f := by
 unfold idx
 cases l.any f <;> simp
theorem qk1 {α : Type} {f : α → Bool} {l : List α} (h : l.any f = true) : idx f l = (l.findIdx f : Int) ∧ l.findIdx f < l.length := by
 refine ⟨by simp [idx, h], ?_⟩
 rw [List.findIdx_lt_length]
 simpa using h
theorem qcb (m : Mg) (s : Int) (hm : m.Sm) : qh Tryz.prog 77 [.d (.agg (ql m)), .d (.int .i64 s)] [] (.tup [.d (.int .i64 ((qx m s).1 : Nat)), .d (.bool (qx m s).2)]) [] := by
 refine F77.goT ?_
 try (refine ev1 @ql.eq_1 ?_; try exact True.intro)
 (repeat (with_reducible refine ob ?_)); refine clO [1] F143 (qyq m.ents s hm.1) ?_ (hfit := by first | exact ⟨qa, trivial⟩ | exact ⟨qa, qa, trivial⟩ | (refine ev2 @qe.eq_1 @ql.eq_1 ?_; try exact True.intro))
 try (refine ev2 @q81 @sObj.eq_1 ?_; try exact True.intro)
 (repeat (with_reducible refine ob ?_)); refine x5 _ (fun h => ?_) (fun h => ?_)
 ·have hf : m.ents.any (fun x => decide (x.sess ≥ s)) = false := by simpa using h
  have hu : qx m s = (m.ents.length, false) := by simp [qx, hf]
  try (refine ev1 @hu ?_; try exact True.intro)
 ·have hf : m.ents.any (fun x => decide (x.sess ≥ s)) = true := by simpa using h
  obtain ⟨h1, h2⟩ := qk1 hf
  have hu : qx m s = (m.ents.findIdx (fun x => decide (x.sess ≥ s)), (m.ents.getD (m.ents.findIdx (fun x => decide (x.sess ≥ s))) default).sess == s) := by simp [qx, hf]
  rw [hu, zw h2]
  rw [h1]
  generalize m.ents.findIdx (fun x => decide (x.sess ≥ s)) = k at h2 ⊢
  try (refine ev2 (qj qe m.ents h2) @qe.eq_1 ?_; try exact True.intro)
  (repeat (with_reducible refine ob ?_))
  try (refine ev2 (qj qe m.ents h2) @qe.eq_1 ?_; try exact True.intro)
  first | omega | exact ⟨by omega, by omega⟩ | skip
theorem qwf (l m : List Bool) (hl : l.length ≤ 1000) :
  qh Tryz.prog 145 [.d (.sl 1 (l.map encB)), .d (.sl 1 (m.map encB))] [] (.d (.bool (decide (l = m)))) [] := by
 refine F145.go ?_
 try (refine ev ?_; try exact True.intro)
 refine x5 _ (fun h => ?_) (fun h => ?_)
 ·have hne : decide (l = m) = false := by rw [decide_eq_false_iff_not]; rintro rfl; simp at h
  try (refine ev1 @hne ?_; try exact True.intro)
 ·have hlm : l.length = m.length := by simp at h; omega
  try (refine ev ?_; try exact True.intro)
  refine qn (Seq 1 encB l m) (fun i => l.length - i.val) ⟨0, rfl⟩ ?_ (fun i => ?_)
  ·try (refine ev1 @Seq.eq_1 ?_; try exact True.intro)
  ·obtain ⟨i, hi⟩ := i
   try (refine ev1 @Seq.eq_1 ?_; try exact True.intro)
   refine x5 _ (fun h => ?_) (fun h => ?_)
   ·have hil : i < l.length := by simpa using h
    have him : i < m.length := by omega
    try (refine ev3 (qj encB l hil) (qj encB m him) @encB.eq_1 ?_; try exact True.intro)
    refine ⟨by omega, by omega, ?_⟩
    refine x5 _ (fun h2 => ?_) (fun h2 => ?_)
    ·have hne : l[i] ≠ m[i] := by simpa using h2
     try (refine ev1 (qov hil him hne) ?_; try exact True.intro)
    ·have he : l[i] = m[i] := by simpa using h2
     try (refine ev ?_; try exact True.intro)
     refine ⟨⟨i + 1, ky hi hil him he⟩, ?_, by dsimp only; omega⟩
     try (refine ev2 @Seq.eq_1 (qg (show i < 9223372036854775807 by omega)) ?_; try exact True.intro)
   ·have he : decide (l = m) = true := by
     have : l.length ≤ i := by simpa using h
     rw [List.take_of_length_le this, List.take_of_length_le (by omega)] at hi
     simp [hi]
    try (refine ev1 @he ?_; try exact True.intro)
theorem q7g (x y : Ue) : (x.sess == y.sess && x.phase == y.phase && decide (x.moved = y.moved) && decide (x.opened = y.opened)) = decide (x = y) := by
 obtain ⟨a1, a2, a3, a4⟩ := x
 obtain ⟨b1, b2, b3, b4⟩ := y
 rw [Bool.eq_iff_iff]
 simp [and_assoc]
theorem qhh (x y : Ue) (hx : x.Sm) : qh Tryz.prog 78 [.d (.agg (qe x)), .d (.agg (qe y))] [] (.d (.bool (decide (x = y)))) [] := by
 refine F78.go ?_
 try (refine ev1 @qe.eq_1 ?_; try exact True.intro)
 (repeat (with_reducible refine ob ?_)); first | refine cl F145 (qwf x.moved y.moved hx.1) ?_ | refine clF F145 (qwf x.moved y.moved hx.1) (fun _ => by (refine ev2 @qe.eq_1 @ql.eq_1 ?_; try exact True.intro)) ?_
 try (refine ev ?_; try exact True.intro)
 (repeat (with_reducible refine ob ?_))
 (repeat (with_reducible refine ob ?_)); first | refine cl F145 (qwf x.opened y.opened hx.2) ?_ | refine clF F145 (qwf x.opened y.opened hx.2) (fun _ => by (refine ev2 @qe.eq_1 @ql.eq_1 ?_; try exact True.intro)) ?_
 try (refine ev1 @q7g ?_; try exact True.intro)
def SeqE (l m : List Ue) (i : { i : Nat // qbc (eqAt (fun x y => decide (x = y)) l m) i = true }) : St :=
 ⟨[(1, true, .d (.sl 4 (m.map qe))), (2, true, .d (.func (.func 78) [] [])), (15, true, .d (.sl 4 (l.map qe))), (16, true, .d (.int .i64 l.length)), (17, true, .d (.int .i64 (i.val : Nat)))], [], [], 1⟩
set_option maxRecDepth 10000 in
theorem qwg (l m : List Ue) (hl : l.length ≤ 1000) (hp : ∀ x ∈ l, x.Sm) :
  qh Tryz.prog 101 [.d (.sl 4 (l.map qe)), .d (.sl 4 (m.map qe)), .d (.func (.func 78) [] [])] [] (.d (.bool (decide (l = m)))) [] := by
 refine F101.go ?_
 try (refine ev ?_; try exact True.intro)
 refine x5 _ (fun h => ?_) (fun h => ?_)
 ·have hne : decide (l = m) = false := by rw [decide_eq_false_iff_not]; rintro rfl; simp at h
  try (refine ev1 @hne ?_; try exact True.intro)
 ·have hlm : l.length = m.length := by simp at h; omega
  try (refine ev ?_; try exact True.intro)
  refine qn (SeqE l m) (fun i => l.length - i.val) ⟨0, rfl⟩ ?_ (fun i => ?_)
  ·try (refine ev1 @SeqE.eq_1 ?_; try exact True.intro)
  ·obtain ⟨i, hi⟩ := i
   try (refine ev1 @SeqE.eq_1 ?_; try exact True.intro)
   refine x5 _ (fun h => ?_) (fun h => ?_)
   ·have hil : i < l.length := by simpa using h
    have him : i < m.length := by omega
    (refine ev3 (qj qe l hil) (qj qe m him) @qe.eq_1 ?_; try exact True.intro)
    (repeat (with_reducible refine ob ?_))
    (repeat (with_reducible refine ob ?_)); first | refine cl F78 (qhh l[i] m[i] (hp _ (List.getElem_mem hil))) ?_ | refine clF F78 (qhh l[i] m[i] (hp _ (List.getElem_mem hil))) (fun _ => by (refine ev2 @qe.eq_1 @ql.eq_1 ?_; try exact True.intro)) ?_
    try (refine ev ?_; try exact True.intro)
    refine x5 _ (fun h2 => ?_) (fun h2 => ?_)
    ·have hne : l[i] ≠ m[i] := by simpa using h2
     try (refine ev1 (qov hil him hne) ?_; try exact True.intro)
    ·have he : l[i] = m[i] := by simpa using h2
     try (refine ev ?_; try exact True.intro)
     refine ⟨⟨i + 1, w4 hi (by simp [eqAt, hil, him, he])⟩, ?_, by dsimp only; omega⟩
     try (refine ev2 @SeqE.eq_1 (qg (show i < 9223372036854775807 by omega)) ?_; try exact True.intro)
   ·have he : decide (l = m) = true := by
     have : l.length ≤ i := by simpa using h
     rw [← q1h]
     simp only [eqBy, hlm, beq_self_eq_true, Bool.true_and]
     exact zm.2 fun j hj => zm.1 hi j (by omega)
    try (refine ev1 @he ?_; try exact True.intro)
theorem q7h (a b : Mg) : (a.roles == b.roles && decide (a.ents = b.ents)) = decide (a = b) := by
 obtain ⟨a1, a2⟩ := a
 obtain ⟨b1, b2⟩ := b
 rw [Bool.eq_iff_iff]
 simp
theorem qyr (a b : Mg) (ha : a.Sm) : qh Tryz.prog 40 [.d (.agg (ql a)), .d (.agg (ql b))] [] (.d (.bool (decide (a = b)))) [] := by
 refine F40.go ?_
 try (refine ev1 @ql.eq_1 ?_; try exact True.intro)
 (repeat (with_reducible refine ob ?_)); first | refine cl F101 (qwg a.ents b.ents ha.1 ha.2) ?_ | refine clF F101 (qwg a.ents b.ents ha.1 ha.2) (fun _ => by (refine ev2 @qe.eq_1 @ql.eq_1 ?_; try exact True.intro)) ?_
 try (refine ev ?_; try exact True.intro)
 exact q7h a b
def qhi (n : Int) : Mg × Int := if decide (n < 1) || decide (n > 6) then (⟨0, []⟩, 2) else (⟨n, []⟩, 0)
theorem qo8 (n : Int) : qh Tryz.prog 43 [.d (.int .i64 n)] [] (.tup [.d (.agg (ql (qhi n).1)), .d (.int .i64 (qhi n).2)]) [] := by
 refine F43.goT ?_
 try (refine ev ?_; try exact True.intro)
 (repeat (with_reducible refine ob ?_)); refine x5 _ (fun h => ?_) (fun h => ?_)
 ·try (refine ev4 @qhi.eq_1 @h @ql.eq_1 @List.map_nil.{0,0} ?_; try exact True.intro)
 ·try (refine ev4 @qhi.eq_1 @h @ql.eq_1 @List.map_nil.{0,0} ?_; try exact True.intro)
end Go.Proofs.YtkcdbcbpbolgkaaGreatDoor
namespace Go.Proofs.YtkcdbcbpbolgkaaGreatDoor
open Go.Abs
set_option linter.unusedSimpArgs false
noncomputable section
set_option maxRecDepth 100000
set_option linter.defProp false
def xa6 := cut Tryz.prog Tryz.f224 news [7]
@[go_sem] def xdi := qq xa6
def q82 := fnC xa6 follows Tryz.func224
def xa7 := cut Tryz.prog Tryz.f225 news [7]
@[go_sem] def xdj := qq xa7
def q83 := fnC xa7 follows Tryz.func225
def d225 := cut Tryz.prog Tryz.f225 news
@[go_sem] def E225 := qq d225
def F225 := fnC d225 follows Tryz.func225
end
theorem qrx (l : List Ue) (hl : l.length ≤ 1000) : qh Tryz.prog 224 [.d (.sl 4 (l.map qe))] [] (.uni 0 4 (l.map qe)) [] := by
 refine q82.go ?_
 try (refine ev ?_; try exact True.intro)
 refine qhc rfl rfl (fun b hb => ?_)
 try (refine ev ?_; try exact True.intro)
 (repeat (with_reducible refine ob ?_)); refine x5 _ (fun h => ?_) (fun h => ?_)
 ·try (refine ev1 (hb h) ?_; try exact True.intro)
 ·try (refine ev ?_; try exact True.intro)
  omega
theorem qnb (l : List Bool) (hl : l.length ≤ 1000) : qh Tryz.prog 225 [.d (.sl 1 (l.map encB))] [] (.uni 0 1 (l.map encB)) [] := by
 refine q83.go ?_
 try (refine ev ?_; try exact True.intro)
 refine qhc rfl rfl (fun b hb => ?_)
 try (refine ev ?_; try exact True.intro)
 (repeat (with_reducible refine ob ?_)); refine x5 _ (fun h => ?_) (fun h => ?_)
 ·try (refine ev1 (hb h) ?_; try exact True.intro)
 ·try (refine ev ?_; try exact True.intro)
  omega
theorem vg (l : List Bool) (hl : l.length ≤ 1000) : qh Tryz.prog 225 [.d (.sl 1 (l.map encB))] [] (.d (.sl 1 (l.map encB))) [] := by
 refine F225.go ?_
 try (refine ev ?_; try exact True.intro)
 refine qhc rfl rfl (fun b hb => ?_)
 try (refine ev ?_; try exact True.intro)
 (repeat (with_reducible refine ob ?_)); refine x5 _ (fun h => ?_) (fun h => ?_)
 ·try (refine ev1 (hb h) ?_; try exact True.intro)
 ·try (refine ev ?_; try exact True.intro)
  omega
end Go.Proofs.YtkcdbcbpbolgkaaGreatDoor
namespace Go.Proofs.YtkcdbcbpbolgkaaGreatDoor
open Go.Abs
set_option linter.unusedSimpArgs false
noncomputable section
set_option maxRecDepth 100000
set_option linter.defProp false
def xa8 := cut Tryz.prog Tryz.f141 news [] [2, 7] true
@[go_sem] def xdk := qq xa8
def xa9 := fnC xa8 follows Tryz.func141
end
theorem qys (b es : Nat) (rows : List (List D)) : wn b (.uni 0 es rows) = .uni b es rows := by simp [wn, renT, ASlot.toks]
theorem qyt (b es : Nat) (rows : List (List D)) : wn b (.own 0 es rows) = .own b es rows := by simp [wn, renT, ASlot.toks]
attribute [go_sem] qys qyt
def x9 (l : List Ue) : List ASlot := (l.map qe).flatten.map ASlot.d
theorem qry (l : List Ue) : List.map ASlot.d (l.map qe).flatten = x9 l := rfl
theorem xk (x : Ue) (l : List Ue) : x9 (x :: l) = .d (.int .i64 x.sess) :: .d (.int .i64 x.phase) :: .d (.sl 1 (x.moved.map encB)) :: .d (.sl 1 (x.opened.map encB)) :: x9 l := rfl
theorem qbg : ∀ l : List Ue, (x9 l).length = l.length * 4
 | [] => rfl
 | x :: l => by rw [xk]; simp only [List.length_cons, qbg l]; omega
theorem qdt : ∀ (l : List Ue) (i j : Nat) (_ : i < l.length) (_ : j < 4), (x9 l)[i * 4 + j]? = some (.d ((qe l[i]).getD j .nilsl))
 | x :: l, 0, j, _, hj => by
  rw [xk]
  have : j = 0 ∨ j = 1 ∨ j = 2 ∨ j = 3 := by omega
  rcases this with rfl | rfl | rfl | rfl <;> rfl
 | x :: l, i + 1, j, hi, hj => by
  rw [xk, show (i + 1) * 4 + j = (i * 4 + j) + 1 + 1 + 1 + 1 by omega]
  simp only [List.getElem?_cons_succ]
  exact qdt l i j (by simpa using hi) hj
theorem qnc (l : List Ue) (i j : Nat) (hi : i < l.length) (hj : j < 4) : (x9 l).getD (i * 4 + j) .bad = .d ((qe l[i]).getD j .nilsl) := by
 rw [List.getD_eq_getElem?_getD, qdt l i j hi hj]; rfl
theorem qrz (l : List Ue) (i j : Nat) (hi : i < l.length) (hj : j < 4) : (x9 l).set (i * 4 + j) (.d ((qe l[i]).getD j .nilsl)) = x9 l := by
 refine List.ext_getElem? fun k => ?_
 rw [List.getElem?_set]
 split
 ·rename_i h; subst h
  rw [qdt l i j hi hj]
  have := (List.getElem?_eq_some_iff.1 (qdt l i j hi hj)).1
  simp [this]
 ·rfl
theorem qi9 {l : List Ue} {i : Nat} (hi : i < l.length) : (x9 l).getD (i * 4 + 2) .bad = .d (.sl 1 (l[i].moved.map encB)) := qnc l i 2 hi (by decide)
theorem qja {l : List Ue} {i : Nat} (hi : i < l.length) : (x9 l).getD (i * 4 + 3) .bad = .d (.sl 1 (l[i].opened.map encB)) := qnc l i 3 hi (by decide)
theorem qcw {l : List Ue} {i : Nat} (hi : i < l.length) : (x9 l).set (i * 4 + 2) (.d (.sl 1 (l[i].moved.map encB))) = x9 l := qrz l i 2 hi (by decide)
theorem qcx {l : List Ue} {i : Nat} (hi : i < l.length) : (x9 l).set (i * 4 + 3) (.d (.sl 1 (l[i].opened.map encB))) = x9 l := qrz l i 3 hi (by decide)
theorem qk2 (keep : Nat → Bool) : ∀ l : List Ue, csW keep (x9 l) (x9 l)
 | [] => by simp only [x9, List.map_nil, List.flatten_nil, csW]
 | x :: l => by
  rw [xk]
  have := qk2 keep l
  try (refine ev1 @this ?_; try exact True.intro)
theorem qcy : ∀ l : List Ue, wx (x9 l) (x9 l) = []
 | [] => rfl
 | x :: l => by
  rw [xk]
  have := qcy l
  try (refine ev1 @this ?_; try exact True.intro)
theorem qhj : ∀ l : List Ue, (x9 l).flatMap ASlot.toks = []
 | [] => rfl
 | x :: l => by
  rw [xk]
  have := qhj l
  try (refine ev2 @List.flatMap_cons.{0,0} @this ?_; try exact True.intro)
attribute [go_sem] qk2 qcy qhj qbg
def Scop (m : Mg) (i : { i : Nat // i ≤ m.ents.length }) : St :=
 ⟨[(1, true, .d (.ptr 0 0)), (2, true, .d (.ptr 1 0)), (11, true, .d (.int .i64 m.ents.length)), (12, true, .d (.int .i64 (i.val : Nat)))],
  [.row [.d (.int .i64 m.roles), .d (.ref 2 0 4 m.ents.length)], .row [.d (.int .i64 0), .d .nilsl], .row (x9 m.ents)], [], 1⟩
set_option maxRecDepth 10000 in
theorem q1w (m : Mg) (hm : m.Sm) : qh Tryz.prog 141 [.d (.agg (ql m))] [] (.d (.agg [.int .i64 m.roles, .ref 2 0 4 m.ents.length])) [.none, .none, .row (x9 m.ents)] := by
 have hl := hm.1
 refine xa9.go ?_
 try (refine ev1 @ql.eq_1 ?_; try exact True.intro)
 refine clA q82 (qrx m.ents hm.1) ?_
 try (refine ev ?_; try exact True.intro)
 try (refine ev ?_; try exact True.intro)
 (repeat (with_reducible refine ob ?_))
 refine qq5 (.cell 0 1) _ 4 (m.ents.map qe) ?_
 refine pu ?_
 try (refine ev ?_; try exact True.intro)
 refine qn (Scop m) (fun i => m.ents.length - i.val) ⟨0, Nat.zero_le _⟩ ?_ (fun i => ?_)
 ·try (refine ev2 @Scop.eq_1 @qry ?_; try exact True.intro)
 obtain ⟨i, hi⟩ := i
 try (refine ev1 @Scop.eq_1 ?_; try exact True.intro)
 (repeat (with_reducible refine ob ?_)); refine x5 _ (fun h => ?_) (fun h => ?_)
 ·have hil : i < m.ents.length := by simpa using h
  have hx := hm.2 _ (List.getElem_mem hil)
  try (refine ev ?_; try exact True.intro)
  (repeat (with_reducible refine ob ?_))
  rw [qi9 hil]
  (repeat (with_reducible refine ob ?_)); first | refine cl F225 (vg m.ents[i].moved hx.1) ?_ | refine clF F225 (vg m.ents[i].moved hx.1) (fun _ => by (refine ev2 @qe.eq_1 @ql.eq_1 ?_; try exact True.intro)) ?_
  try (refine ev ?_; try exact True.intro)
  (repeat (with_reducible refine ob ?_))
  rw [qja hil]
  (repeat (with_reducible refine ob ?_)); first | refine cl F225 (vg m.ents[i].opened hx.2) ?_ | refine clF F225 (vg m.ents[i].opened hx.2) (fun _ => by (refine ev2 @qe.eq_1 @ql.eq_1 ?_; try exact True.intro)) ?_
  try (refine ev2 (qcw hil) (qcx hil) ?_; try exact True.intro)
  (repeat (with_reducible refine ob ?_))
  try (refine ev2 (qcw hil) (qcx hil) ?_; try exact True.intro)
  (repeat (with_reducible refine ob ?_))
  try (refine ev2 (qcw hil) (qcx hil) ?_; try exact True.intro)
  refine pu ?_
  try (refine ev ?_; try exact True.intro)
  refine ⟨⟨i + 1, hil⟩, ?_, by dsimp only; omega⟩
  try (refine ev2 @Scop.eq_1 (qg (show i < 9223372036854775807 by omega)) ?_; try exact True.intro)
 ·have hil : i = m.ents.length := by
   have : m.ents.length ≤ i := by simpa using h
   omega
  subst hil
  try (refine ev ?_; try exact True.intro)
  refine pu ?_
  try (refine ev ?_; try exact True.intro)
  trace_state
theorem qus {keep : Nat → Bool} {s : ASlot} (hs : qaf keep s s) : ∀ (l : List ASlot) (i : Nat), csW keep l l → csW keep (l.set i s) (l.set i s)
 | [], _, h => h
 | _ :: _, 0, h => ⟨hs, h.2⟩
 | _ :: l, i + 1, h => ⟨h.1, qus hs l i h.2⟩
theorem qfc {s : ASlot} (hs : jk s s = []) : ∀ (l : List ASlot) (i : Nat), wx l l = [] → wx (l.set i s) (l.set i s) = []
 | [], _, h => h
 | x :: l, 0, h => by
  rw [List.set_cons_zero, y8]
  rw [y8, List.append_eq_nil_iff] at h
  rw [hs, h.2]; rfl
 | x :: l, i + 1, h => by
  rw [List.set_cons_succ, y8]
  rw [y8, List.append_eq_nil_iff] at h
  rw [h.1, qfc hs l i h.2]; rfl
theorem qo9 {s : ASlot} (hs : s.toks = []) : ∀ (l : List ASlot) (i : Nat), l.flatMap ASlot.toks = [] → (l.set i s).flatMap ASlot.toks = []
 | [], _, h => h
 | x :: l, 0, h => by
  rw [List.set_cons_zero, List.flatMap_cons]
  rw [List.flatMap_cons, List.append_eq_nil_iff] at h
  rw [hs, h.2]; rfl
 | x :: l, i + 1, h => by
  rw [List.set_cons_succ, List.flatMap_cons]
  rw [List.flatMap_cons, List.append_eq_nil_iff] at h
  rw [h.1, qo9 hs l i h.2]; rfl
noncomputable section
set_option maxRecDepth 100000
set_option linter.defProp false
def xba := cut Tryz.prog Tryz.f141 news [] [2, 7] true
@[go_sem] def xdl := qq xba
def xbb := fnC xba follows Tryz.func141
end
def refA (l : List ASlot) (k a b : Nat) (x : Ue) : List ASlot := (l.set (k * 4 + 2) (.d (.ref a 0 1 x.moved.length))).set (k * 4 + 3) (.d (.ref b 0 1 x.opened.length))
theorem q5z (l : List ASlot) (k a b : Nat) (x : Ue) : (refA l k a b x).length = l.length := by simp [refA]
theorem q84 {l : List Ue} {k a b i : Nat} {x : Ue} (hik : i ≠ k) (hi : i < l.length) : (refA (x9 l) k a b x).getD (i * 4 + 2) .bad = .d (.sl 1 (l[i].moved.map encB)) := by
 rw [← qi9 hi, List.getD_eq_getElem?_getD, List.getD_eq_getElem?_getD, refA, List.getElem?_set_ne (by omega), List.getElem?_set_ne (by omega)]
theorem q85 {l : List Ue} {k a b i : Nat} {x : Ue} (hik : i ≠ k) (hi : i < l.length) : (refA (x9 l) k a b x).getD (i * 4 + 3) .bad = .d (.sl 1 (l[i].opened.map encB)) := by
 rw [← qja hi, List.getD_eq_getElem?_getD, List.getD_eq_getElem?_getD, refA, List.getElem?_set_ne (by omega), List.getElem?_set_ne (by omega)]
theorem qut {l : List Ue} {k a b i : Nat} {x : Ue} (hik : i ≠ k) (hi : i < l.length) : (refA (x9 l) k a b x).set (i * 4 + 2) (.d (.sl 1 (l[i].moved.map encB))) = refA (x9 l) k a b x := by
 rw [refA, List.set_comm _ _ (show k * 4 + 3 ≠ i * 4 + 2 by omega), List.set_comm _ _ (show k * 4 + 2 ≠ i * 4 + 2 by omega), qcw hi]
theorem quu {l : List Ue} {k a b i : Nat} {x : Ue} (hik : i ≠ k) (hi : i < l.length) : (refA (x9 l) k a b x).set (i * 4 + 3) (.d (.sl 1 (l[i].opened.map encB))) = refA (x9 l) k a b x := by
 rw [refA, List.set_comm _ _ (show k * 4 + 3 ≠ i * 4 + 3 by omega), List.set_comm _ _ (show k * 4 + 2 ≠ i * 4 + 3 by omega), qcx hi]
theorem qjb {keep : Nat → Bool} {l : List Ue} {k a b : Nat} {x : Ue} (ha : keep a = true) (hb : keep b = true) : csW keep (refA (x9 l) k a b x) (refA (x9 l) k a b x) :=
 qus (by try (refine ev2 @ha @hb ?_; try exact True.intro)) _ _ (qus (by try (refine ev2 @ha @hb ?_; try exact True.intro)) _ _ (qk2 keep l))
theorem qr0 {l : List Ue} {k a b : Nat} {x : Ue} : wx (refA (x9 l) k a b x) (refA (x9 l) k a b x) = [] := qfc rfl _ _ (qfc rfl _ _ (qcy l))
theorem q1x {l : List Ue} {k a b : Nat} {x : Ue} : (refA (x9 l) k a b x).flatMap ASlot.toks = [] := qo9 rfl _ _ (qo9 rfl _ _ (qhj l))
theorem q50 (l : List Bool) : List.map ASlot.d (l.map encB).flatten = l.map fun b => .d (.bool b) := by
 induction l with
 | nil => rfl
 | cons b l ih => simp only [List.map_cons, List.flatten_cons, encB, List.cons_append, List.nil_append, ih]
theorem qwh (keep : Nat → Bool) : ∀ l : List Bool, csW keep (l.map fun b => .d (.bool b)) (l.map fun b => .d (.bool b))
 | [] => trivial
 | x :: l => by
  have := qwh keep l
  try (refine ev2 @List.map_cons.{0,0} @this ?_; try exact True.intro)
theorem qik : ∀ l : List Bool, wx (l.map fun b => .d (.bool b)) (l.map fun b => .d (.bool b)) = []
 | [] => rfl
 | x :: l => by
  have := qik l
  try (refine ev2 @List.map_cons.{0,0} @this ?_; try exact True.intro)
theorem qr1 : ∀ l : List Bool, ((l.map fun b => .d (.bool b)).flatMap ASlot.toks : List Nat) = []
 | [] => rfl
 | x :: l => by
  have := qr1 l
  try (refine ev3 @List.map_cons.{0,0} @List.flatMap_cons.{0,0} @this ?_; try exact True.intro)
attribute [go_sem] q5z qjb qr0 q1x q50 qwh qik qr1
theorem q51 (l : List ASlot) (k a b : Nat) (x : Ue) : (l.set (k * 4 + 2) (.d (.ref a 0 1 x.moved.length))).set (k * 4 + 3) (.d (.ref b 0 1 x.opened.length)) = refA l k a b x := rfl
theorem xdm {l : List ASlot} {a b : Nat} {u v x y : ASlot} (h : a ≠ b) : (((l.set a u).set b v).set a x).set b y = (l.set a x).set b y := by
 rw [List.set_comm _ _ (Ne.symm h), List.set_set, List.set_set]
def qr2 (m : Mg) (k : Nat) (x : Ue) (i : { i : Nat // i ≤ m.ents.length }) : St :=
 ⟨[(1, true, .d (.ptr 0 0)), (2, true, .d (.ptr 1 0)), (11, true, .d (.int .i64 m.ents.length)), (12, true, .d (.int .i64 (i.val : Nat)))],
  if i.val ≤ k then [.row [.d (.int .i64 m.roles), .d (.ref 2 0 4 m.ents.length)], .row [.d (.int .i64 0), .d .nilsl], .row (x9 m.ents)]
  else [.row [.d (.int .i64 m.roles), .d (.ref 2 0 4 m.ents.length)], .row [.d (.int .i64 0), .d .nilsl], .row (refA (x9 m.ents) k 3 4 x), .row (x.moved.map fun b => .d (.bool b)), .row (x.opened.map fun b => .d (.bool b))], [], 1⟩
set_option maxRecDepth 10000 in
theorem quv (m : Mg) (hm : m.Sm) (k : Nat) (hk : k < m.ents.length) : qh Tryz.prog 141 [.d (.agg (ql m))] [] (.d (.agg [.int .i64 m.roles, .ref 2 0 4 m.ents.length]))
  [.none, .none, .row (refA (x9 m.ents) k 3 4 m.ents[k]), .row (m.ents[k].moved.map fun b => .d (.bool b)), .row (m.ents[k].opened.map fun b => .d (.bool b))] := by
 have hl := hm.1
 refine xbb.go ?_
 try (refine ev1 @ql.eq_1 ?_; try exact True.intro)
 refine clA q82 (qrx m.ents hm.1) ?_
 try (refine ev ?_; try exact True.intro)
 (repeat (with_reducible refine ob ?_))
 refine qq5 (.cell 0 1) _ 4 (m.ents.map qe) ?_
 refine pu ?_
 try (refine ev ?_; try exact True.intro)
 refine qn (qr2 m k m.ents[k]) (fun i => m.ents.length - i.val) ⟨0, Nat.zero_le _⟩ ?_ (fun i => ?_)
 ·try (refine ev3 @qr2.eq_1 @qry @Nat.zero_le ?_; try exact True.intro)
 obtain ⟨i, hi⟩ := i
 rcases Nat.lt_trichotomy i k with hik | hik | hik
 ·have hle : i ≤ k := by omega
  have hle1 : i + 1 ≤ k := by omega
  try (refine ev2 @qr2.eq_1 @hle ?_; try exact True.intro)
  (repeat (with_reducible refine ob ?_)); refine x5 _ (fun h => ?_) (fun h => ?_)
  ·have hil : i < m.ents.length := by simpa using h
   have hx := hm.2 _ (List.getElem_mem hil)
   try (refine ev ?_; try exact True.intro)
   (repeat (with_reducible refine ob ?_))
   rw [qi9 hil]
   (repeat (with_reducible refine ob ?_)); first | refine cl F225 (vg m.ents[i].moved hx.1) ?_ | refine clF F225 (vg m.ents[i].moved hx.1) (fun _ => by (refine ev2 @qe.eq_1 @ql.eq_1 ?_; try exact True.intro)) ?_
   try (refine ev ?_; try exact True.intro)
   (repeat (with_reducible refine ob ?_))
   rw [qja hil]
   (repeat (with_reducible refine ob ?_)); first | refine cl F225 (vg m.ents[i].opened hx.2) ?_ | refine clF F225 (vg m.ents[i].opened hx.2) (fun _ => by (refine ev2 @qe.eq_1 @ql.eq_1 ?_; try exact True.intro)) ?_
   try (refine ev2 (qcw hil) (qcx hil) ?_; try exact True.intro)
   (repeat (with_reducible refine ob ?_))
   try (refine ev2 (qcw hil) (qcx hil) ?_; try exact True.intro)
   (repeat (with_reducible refine ob ?_))
   try (refine ev2 (qcw hil) (qcx hil) ?_; try exact True.intro)
   refine pu ?_
   try (refine ev ?_; try exact True.intro)
   refine ⟨⟨i + 1, hil⟩, ?_, by dsimp only; omega⟩
   try (refine ev3 @qr2.eq_1 @hle1 (qg (show i < 9223372036854775807 by omega)) ?_; try exact True.intro)
  ·exfalso; simp at h; omega
 ·subst hik
  have hni : ¬ (i + 1 ≤ i) := by omega
  try (refine ev2 @qr2.eq_1 @Nat.le_refl ?_; try exact True.intro)
  (repeat (with_reducible refine ob ?_)); refine x5 _ (fun h => ?_) (fun h => ?_)
  ·have hil : i < m.ents.length := hk
   have hx := hm.2 _ (List.getElem_mem hil)
   try (refine ev ?_; try exact True.intro)
   (repeat (with_reducible refine ob ?_))
   rw [qi9 hil]
   refine clA q83 (qnb m.ents[i].moved hx.1) ?_
   try (refine ev ?_; try exact True.intro)
   (repeat (with_reducible refine ob ?_))
   rw [qja hil]
   refine clA q83 (qnb m.ents[i].opened hx.2) ?_
   try (refine ev ?_; try exact True.intro)
   (repeat (with_reducible refine ob ?_))
   try (refine ev ?_; try exact True.intro)
   (repeat (with_reducible refine ob ?_))
   try (refine ev2 @List.length_set.{0} @qbg ?_; try exact True.intro)
   (repeat (with_reducible refine ob ?_))
   have hf : (x9 m.ents).length = m.ents.length * 4 := qbg _
   refine qq5 (.cell 2 (i * 4 + 2)) 240 1 (m.ents[i].moved.map encB) ?_ (hp := by simp only [St.slotAt, qd, List.getElem?_cons_succ, List.getElem?_cons_zero, AObj.cells, List.getD_eq_getElem?_getD]; rw [List.getElem?_set_ne (by omega), List.getElem?_set_self (by rw [hf]; omega)]; rfl)
   try (refine ev2 @List.set_comm.{0} @List.length_set.{0} ?_; try exact True.intro)
   refine qq5 (.cell 2 (i * 4 + 3)) 320 1 (m.ents[i].opened.map encB) ?_ (hp := by simp only [St.slotAt, qd, List.getElem?_cons_succ, List.getElem?_cons_zero, AObj.cells, List.getD_eq_getElem?_getD]; rw [List.getElem?_set_ne (by omega), List.getElem?_set_self (by rw [List.length_set, hf]; omega)]; rfl)
   try simp only [xdm (show i * 4 + 2 ≠ i * 4 + 3 by omega), q51, go_sem, Nat.reduceAdd, Nat.reduceMul, Nat.reduceSub, Nat.reduceEqDiff, Nat.reduceLT, Nat.reduceLeDiff, Nat.reduceBEq, reduceIte, reduceCtorEq, Int.reduceAdd, Int.reduceLT, Int.reduceLE, Int.reduceGT, Int.reduceGE, Int.reduceEq, Int.reduceNe, Int.reduceBEq, Int.reduceBNe, Int.reduceToNat, Int.reduceNeg]
   refine pu ?_
   try (refine ev ?_; try exact True.intro)
   refine ⟨⟨i + 1, hil⟩, ?_, by dsimp only; omega⟩
   try (refine ev3 @qr2.eq_1 @hni (qg (show i < 9223372036854775807 by omega)) ?_; try exact True.intro)
   exact qjb rfl rfl
  ·exfalso; simp at h; omega
 ·have hle : ¬ i ≤ k := by omega
  have hle1 : ¬ i + 1 ≤ k := by omega
  try (refine ev2 @qr2.eq_1 @hle ?_; try exact True.intro)
  (repeat (with_reducible refine ob ?_)); refine x5 _ (fun h => ?_) (fun h => ?_)
  ·have hil : i < m.ents.length := by simpa using h
   have hx := hm.2 _ (List.getElem_mem hil)
   have hik' : i ≠ k := by omega
   try (refine ev ?_; try exact True.intro)
   (repeat (with_reducible refine ob ?_))
   rw [q84 hik' hil]
   (repeat (with_reducible refine ob ?_)); first | refine cl F225 (vg m.ents[i].moved hx.1) ?_ | refine clF F225 (vg m.ents[i].moved hx.1) (fun _ => by (refine ev2 @qe.eq_1 @ql.eq_1 ?_; try exact True.intro)) ?_
   try (refine ev ?_; try exact True.intro)
   (repeat (with_reducible refine ob ?_))
   rw [q85 hik' hil]
   (repeat (with_reducible refine ob ?_)); first | refine cl F225 (vg m.ents[i].opened hx.2) ?_ | refine clF F225 (vg m.ents[i].opened hx.2) (fun _ => by (refine ev2 @qe.eq_1 @ql.eq_1 ?_; try exact True.intro)) ?_
   try simp only [qut hik' hil, quu hik' hil, go_sem, Nat.reduceAdd, Nat.reduceMul, Nat.reduceSub, Nat.reduceEqDiff, Nat.reduceLT, Nat.reduceLeDiff, Nat.reduceBEq, reduceIte, reduceCtorEq, Int.reduceAdd, Int.reduceLT, Int.reduceLE, Int.reduceGT, Int.reduceGE, Int.reduceEq, Int.reduceNe, Int.reduceBEq, Int.reduceBNe, Int.reduceToNat, Int.reduceNeg]
   (repeat (with_reducible refine ob ?_))
   try simp only [qut hik' hil, quu hik' hil, go_sem, Nat.reduceAdd, Nat.reduceMul, Nat.reduceSub, Nat.reduceEqDiff, Nat.reduceLT, Nat.reduceLeDiff, Nat.reduceBEq, reduceIte, reduceCtorEq, Int.reduceAdd, Int.reduceLT, Int.reduceLE, Int.reduceGT, Int.reduceGE, Int.reduceEq, Int.reduceNe, Int.reduceBEq, Int.reduceBNe, Int.reduceToNat, Int.reduceNeg]
   (repeat (with_reducible refine ob ?_))
   try simp only [qut hik' hil, quu hik' hil, go_sem, Nat.reduceAdd, Nat.reduceMul, Nat.reduceSub, Nat.reduceEqDiff, Nat.reduceLT, Nat.reduceLeDiff, Nat.reduceBEq, reduceIte, reduceCtorEq, Int.reduceAdd, Int.reduceLT, Int.reduceLE, Int.reduceGT, Int.reduceGE, Int.reduceEq, Int.reduceNe, Int.reduceBEq, Int.reduceBNe, Int.reduceToNat, Int.reduceNeg]
   refine pu ?_
   try (refine ev ?_; try exact True.intro)
   refine ⟨⟨i + 1, hil⟩, ?_, by dsimp only; omega⟩
   try (refine ev3 @qr2.eq_1 @hle1 (qg (show i < 9223372036854775807 by omega)) ?_; try exact True.intro)
   exact qjb rfl rfl
  ·have hil : i = m.ents.length := by
    have : m.ents.length ≤ i := by simpa using h
    omega
   subst hil
   try (refine ev ?_; try exact True.intro)
   refine pu ?_
   try (refine ev ?_; try exact True.intro)
   exact qjb rfl rfl
end Go.Proofs.YtkcdbcbpbolgkaaGreatDoor
namespace Go.Proofs.YtkcdbcbpbolgkaaGreatDoor
open Go.Abs
set_option linter.unusedSimpArgs false
noncomputable section
set_option maxRecDepth 100000
set_option linter.defProp false
def d229 := cut Tryz.prog Tryz.f229 news
@[go_sem] def E229 := qq d229
def d230 := cut Tryz.prog Tryz.f230 news
@[go_sem] def E230 := qq d230
def d149 := cut Tryz.prog Tryz.f149 news
@[go_sem] def E149 := qq d149
def d81 := cut Tryz.prog Tryz.f81 news
@[go_sem] def E81 := qq d81
def d82 := cut Tryz.prog Tryz.f82 news
@[go_sem] def E82 := qq d82
def d99 := cut Tryz.prog Tryz.f99 news
@[go_sem] def E99 := qq d99
def d34 := cut Tryz.prog Tryz.f34 news
@[go_sem] def E34 := qq d34
def d23 := cut Tryz.prog Tryz.f23 news
@[go_sem] def E23 := qq d23
def d94 := cut Tryz.prog Tryz.f94 news
@[go_sem] def E94 := qq d94
end
def idB (b : Bool) : Bool := b
theorem qhk (l : List Bool) : hasB false l = !l.all idB := by
 induction l with
 | nil => rfl
 | cons b l ih => cases b <;> simp_all [hasB, idB]
theorem qr4 (l : List Bool) : hasB true l = l.any idB := by
 induction l with
 | nil => rfl
 | cons b l ih => cases b <;> simp_all [hasB, idB]
end Go.Proofs.YtkcdbcbpbolgkaaGreatDoor
namespace Go.Proofs.YtkcdbcbpbolgkaaGreatDoor
open Go.Abs
set_option linter.unusedSimpArgs false
noncomputable section
set_option maxRecDepth 100000
set_option linter.defProp false
def d18 := cut Tryz.prog Tryz.f18 news
@[go_sem] def E18 := qq d18
def F18 := fnC d18 follows Tryz.func18
def d200 := cut Tryz.prog Tryz.f200 news
@[go_sem] def E200 := qq d200
def d26 := cut Tryz.prog Tryz.f26 news
@[go_sem] def E26 := qq d26
def d35 := cut Tryz.prog Tryz.f35 news
@[go_sem] def E35 := qq d35
end
def qdu (s r label : Int) : Pk := ⟨3, s, 0, r, 0, 0, label, [], []⟩
def qhl (s label : Int) (marks : List Bool) (r : Nat) : List Pk := if marks.getD r true then [] else [qdu s r label]
def qk3 (s label : Int) (marks : List Bool) (n : Nat) : List Pk := (List.range n).flatMap (qhl s label marks)
def xr (x : Ue) : List Bool := if x.phase != 1 then x.opened else x.moved
def vl (x : Ue) : Int := if x.phase != 1 then 2 else 1
def qyu (x : Ue) : List Pk := qk3 x.sess (vl x) (xr x) (xr x).length
def vn (m : Mg) (n : Nat) : List Pk := (List.range n).flatMap fun i => qyu (m.ents.getD i default)
def ji (m : Mg) : List Pk := if xx m then vn m m.ents.length else []
theorem qr5 (m : Mg) : vn m 0 = [] := rfl
theorem q1y (s label : Int) (marks : List Bool) : qk3 s label marks 0 = [] := rfl
theorem qa2 (s label : Int) (marks : List Bool) (n : Nat) : qk3 s label marks (n + 1) = qk3 s label marks n ++ qhl s label marks n := by simp [qk3, List.range_succ]
theorem qaq (m : Mg) (n : Nat) : vn m (n + 1) = vn m n ++ qyu (m.ents.getD n default) := by simp [vn, List.range_succ]
theorem qgq (s label : Int) (marks : List Bool) : ∀ n, (qk3 s label marks n).length ≤ n
 | 0 => by simp [qk3]
 | n + 1 => by
  rw [qa2, List.length_append]
  have := qgq s label marks n
  have : (qhl s label marks n).length ≤ 1 := by unfold qhl; split <;> simp
  omega
theorem qk4 (x : Ue) (hx : x.Sm) : (xr x).length ≤ 1000 := by unfold xr; split; exact hx.2; exact hx.1
theorem q1z (x : Ue) (hx : x.Sm) : (qyu x).length ≤ 1000 := Nat.le_trans (qgq _ _ _ _) (qk4 x hx)
theorem qbx (m : Mg) (hm : m.Sm) : ∀ n, n ≤ m.ents.length → (vn m n).length ≤ n * 1000
 | 0, _ => by simp [vn]
 | n + 1, h => by
  have h1 : n < m.ents.length := h
  rw [qaq, List.length_append, zw h1]
  have := qbx m hm n (by omega)
  have := q1z _ (hm.2 _ (List.getElem_mem h1))
  omega
def qc6 (x : Ue) : AObj := .row [.d (.int .i64 x.sess), .d (.int .i64 x.phase), .d (.sl 1 (x.moved.map encB)), .d (.sl 1 (x.opened.map encB))]
def q11 (m : Mg) (i : { i : Nat // i ≤ m.ents.length }) : St :=
 ⟨[(2, true, .d .nilsl), (3, true, .own 0 9 ((vn m i.val).map qk)), (14, true, .d (.sl 4 (m.ents.map qe))), (15, true, .d (.int .i64 m.ents.length)), (16, true, .d (.int .i64 (i.val : Nat)))], [xf m], [0], 1⟩
def ql7 (m : Mg) (i : Nat) (x : Ue) (r : { r : Nat // r ≤ (xr x).length }) : St :=
 ⟨[(2, true, .d .nilsl), (3, true, .own 0 9 ((vn m i ++ qk3 x.sess (vl x) (xr x) r.val).map qk)), (5, true, .d (.ptr 1 0)), (7, true, .d (.int .i64 (vl x))), (14, true, .d (.sl 4 (m.ents.map qe))), (15, true, .d (.int .i64 m.ents.length)), (16, true, .d (.int .i64 (i : Nat))),
  (27, true, .d (.sl 1 ((xr x).map encB))), (28, true, .d (.int .i64 (xr x).length)), (29, true, .d (.int .i64 (r.val : Nat)))], [xf m, qc6 x], [0], 1⟩
theorem q7j (m : Mg) (hm : m.Sm) (i : Nat) (hi : i < m.ents.length) (x : Ue) (hx : x.Sm) (Q : SExit → St → Prop) (st : St) (h0 : Weak 0 st (ql7 m i x ⟨0, Nat.zero_le _⟩))
  (hQ : ∀ b, Q .normal ⟨(30, true, .d (.bool b)) :: (ql7 m i x ⟨(xr x).length, Nat.le_refl _⟩).fr, [xf m, qc6 x], [0], 2⟩) : AWp Tryz.prog 0 (.block 2 (.loop (.seq (.region (d18.reg 11) 0 []) (.seq (.cond (.t 30) .skip (.exit 2)) (.seq (.block 3 (.seq (.region (d18.reg 12) 0 []) (.seq (.region (d18.reg 13) 0 []) (.cond (.t 35) (.region (d18.reg 14) 0 []) .skip)))) (.region (d18.reg 15) 0 [])))))) Q st := by
 have hml := qk4 x hx
 have hol := qbx m hm i (by omega)
 have hl := hm.1
 try (refine ev ?_; try exact True.intro)
 refine qn (ql7 m i x) (fun r => (xr x).length - r.val) ⟨0, Nat.zero_le _⟩ h0 (fun r => ?_)
 obtain ⟨r, hr⟩ := r
 try (refine ev3 @ql7.eq_1 @xf.eq_1 @qc6.eq_1 ?_; try exact True.intro)
 (repeat (with_reducible refine ob ?_)); refine x5 _ (fun h => ?_) (fun h => ?_)
 ·have hil : r < (xr x).length := by simpa using h
  (refine ev2 (qj encB (xr x) hil) @encB.eq_1 ?_; try exact True.intro)
  (repeat (with_reducible refine ob ?_))
  refine x5 _ (fun h2 => ?_) (fun h2 => ?_)
  ·have hb : (xr x)[r] = false := by simpa using h2
   have ha : qhl x.sess (vl x) (xr x) r = [qdu x.sess r (vl x)] := by simp [qhl, hil, hb]
   have hlt := qgq x.sess (vl x) (xr x) r
   try (refine ev ?_; try exact True.intro)
   (repeat (with_reducible refine ob ?_))
   refine ⟨⟨r + 1, hil⟩, ?_, by dsimp only; omega⟩
   try simp only [ql7, xf, qc6, qa2, ha, ← List.append_assoc, List.map_append, List.map_cons, List.map_nil, qdu, qk, qg (show r < 9223372036854775807 by omega), go_sem, Nat.reduceAdd, Nat.reduceMul, Nat.reduceSub, Nat.reduceEqDiff, Nat.reduceLT, Nat.reduceLeDiff, Nat.reduceBEq, reduceIte, reduceCtorEq, Int.reduceAdd, Int.reduceLT, Int.reduceLE, Int.reduceGT, Int.reduceGE, Int.reduceEq, Int.reduceNe, Int.reduceBEq, Int.reduceBNe, Int.reduceToNat, Int.reduceNeg]
  ·have hb : (xr x)[r] = true := by simpa using h2
   have ha : qhl x.sess (vl x) (xr x) r = [] := by simp [qhl, hil, hb]
   try (refine ev ?_; try exact True.intro)
   refine ⟨⟨r + 1, hil⟩, ?_, by dsimp only; omega⟩
   try (refine ev7 @ql7.eq_1 @xf.eq_1 @qc6.eq_1 @qa2 @ha @List.append_nil.{0} (qg (show r < 9223372036854775807 by omega)) ?_; try exact True.intro)
 ·have hil : r = (xr x).length := by
   have : (xr x).length ≤ r := by simpa using h
   omega
  subst hil
  try (refine ev ?_; try exact True.intro)
  exact hQ _
set_option maxRecDepth 10000 in
theorem qfd (m : Mg) (hm : m.Sm) : qh Tryz.prog 18 [.d (.agg (ql m))] [] (.d (.sl 9 ((ji m).map qk))) [] := by
 have hl := hm.1
 refine F18.go ?_
 try (refine ev1 @ql.eq_1 ?_; try exact True.intro)
 (repeat (with_reducible refine ob ?_)); first | refine cl F69 (ki m hm) ?_ | refine clF F69 (ki m hm) (fun _ => by (refine ev3 @qe.eq_1 @ql.eq_1 @qk.eq_1 ?_; try exact True.intro)) ?_
 try (refine ev ?_; try exact True.intro)
 refine x5 _ (fun hv => ?_) (fun hv => ?_)
 ·have hu : ji m = [] := by simp at hv; simp [ji, hv]
  try (refine ev2 @hu @List.map_nil.{0,0} ?_; try exact True.intro)
 have hu : ji m = vn m m.ents.length := by simp at hv; simp [ji, hv]
 rw [hu]
 try (refine ev ?_; try exact True.intro)
 refine qn (q11 m) (fun i => m.ents.length - i.val) ⟨0, Nat.zero_le _⟩ ?_ (fun i => ?_)
 ·try (refine ev4 @q11.eq_1 @xf.eq_1 @qr5 @List.map_nil.{0,0} ?_; try exact True.intro)
 obtain ⟨i, hi⟩ := i
 try (refine ev2 @q11.eq_1 @xf.eq_1 ?_; try exact True.intro)
 (repeat (with_reducible refine ob ?_)); refine x5 _ (fun h => ?_) (fun h => ?_)
 ·have hil : i < m.ents.length := by simpa using h
  have hx := hm.2 _ (List.getElem_mem hil)
  (refine ev2 (qj qe m.ents hil) @qe.eq_1 ?_; try exact True.intro)
  (repeat (with_reducible refine ob ?_))
  refine x5 _ (fun h2 => ?_) (fun h2 => ?_)
  ·have e1 : xr m.ents[i] = m.ents[i].opened := by simp only [xr, h2, if_true]
   have e2 : vl m.ents[i] = 2 := by simp only [vl, h2, if_true]
   try (refine ev ?_; try exact True.intro)
   refine q7j m hm i hil m.ents[i] hx _ _ ?_ (fun b => ?_)
   ·try (refine ev7 @ql7.eq_1 @xf.eq_1 @qc6.eq_1 @e1 @e2 @q1y @List.append_nil.{0} ?_; try exact True.intro)
   ·try (refine ev3 @ql7.eq_1 @xf.eq_1 @qc6.eq_1 ?_; try exact True.intro)
    refine ⟨⟨i + 1, hil⟩, ?_, by dsimp only; omega⟩
    try (refine ev6 @q11.eq_1 @xf.eq_1 @qaq (zw hil) @qyu.eq_1 (qg (show i < 9223372036854775807 by omega)) ?_; try exact True.intro)
  ·have e1 : xr m.ents[i] = m.ents[i].moved := by simp only [xr, h2]; rfl
   have e2 : vl m.ents[i] = 1 := by simp only [vl, h2]; rfl
   try (refine ev ?_; try exact True.intro)
   refine q7j m hm i hil m.ents[i] hx _ _ ?_ (fun b => ?_)
   ·try (refine ev7 @ql7.eq_1 @xf.eq_1 @qc6.eq_1 @e1 @e2 @q1y @List.append_nil.{0} ?_; try exact True.intro)
   ·try (refine ev3 @ql7.eq_1 @xf.eq_1 @qc6.eq_1 ?_; try exact True.intro)
    refine ⟨⟨i + 1, hil⟩, ?_, by dsimp only; omega⟩
    try (refine ev6 @q11.eq_1 @xf.eq_1 @qaq (zw hil) @qyu.eq_1 (qg (show i < 9223372036854775807 by omega)) ?_; try exact True.intro)
 ·have hil : i = m.ents.length := by
   have : m.ents.length ≤ i := by simpa using h
   omega
  subst hil
  try (refine ev ?_; try exact True.intro)
end Go.Proofs.YtkcdbcbpbolgkaaGreatDoor
namespace Go.Proofs.YtkcdbcbpbolgkaaGreatDoor
open Go.Abs
set_option linter.unusedSimpArgs false
set_option linter.unusedVariables false
theorem qef : ∀ a b : List UInt8, Op.bytesLess a b = decide (cmpB a b < 0)
 | [], [] => rfl
 | [], _ :: _ => rfl
 | _ :: _, [] => rfl
 | a :: l, b :: m => by
  have ih := qef l m
  simp only [cmpB] at ih
  simp only [Op.bytesLess, cmpB, Lib.compareBytes, ih]
  by_cases h1 : a < b
  ·simp [h1]
  ·by_cases h2 : b < a
   ·have : ¬ a = b := by rintro rfl; exact h1 h2
    simp [h1, h2, this]
   ·have : a = b := by
     apply UInt8.toNat_inj.1
     rw [UInt8.lt_iff_toNat_lt] at h1 h2
     omega
    simp [h1, h2, this]
def Sorted (l : List En) : Prop := l.Pairwise fun a b => cmpB a.1 b.1 < 0
theorem Sorted.keys {l : List En} (h : Sorted l) : (l.map (·.1)).Nodup := by
 unfold List.Nodup
 rw [List.pairwise_map]
 exact h.imp fun {a b} hab e => by rw [e, qgj] at hab; omega
theorem Sorted.le {l : List En} (h : Sorted l) : l.Pairwise fun a b => cmpB a.1 b.1 ≤ 0 := h.imp fun hab => Int.le_of_lt hab
theorem qeg {l m : List En} (hl : Sorted l) (hm : Sorted m) (h : ∀ x, x ∈ l ↔ x ∈ m) : l = m :=
 qed ((List.perm_ext_iff_of_nodup (w6 _ hl.keys) (w6 _ hm.keys)).2 h) hl.keys hl.le hm.le
theorem q12 {l : List En} (h : l.Pairwise fun a b => cmpB a.1 b.1 ≤ 0) (hn : (l.map (·.1)).Nodup) : Sorted l := by
 unfold List.Nodup at hn
 rw [List.pairwise_map] at hn
 refine (h.and hn).imp fun {a b} hab => ?_
 obtain ⟨h1, h2⟩ := hab
 rcases Int.lt_or_eq_of_le h1 with h3 | h3
 ·exact h3
 ·exact (h2 (qgk h3)).elim
theorem qdv {m : Cont} (h : m.Ok) (p : List UInt8) : Sorted (qc5 m p) := by
 refine q12 (qap _) ?_
 exact ((ve (preL p m.l)).map (fun x : En => x.1)).nodup_iff.2 (qrv h.key)
theorem qwk : ∀ {l : List KV}, (l.map (·.2.1)).Nodup → ∀ {x : KV}, x ∈ l → l.find? (xt x.2.1) = some x
 | [], _, x, hx => by cases hx
 | a :: l, hn, x, hx => by
  rw [List.find?_cons]
  simp only [List.map_cons, List.nodup_cons] at hn
  rcases List.mem_cons.1 hx with rfl | hx'
  ·rw [w7.2 rfl]
  ·have : xt x.2.1 a = false := by
    cases h : xt x.2.1 a with
    | false => rfl
    | true => exact (hn.1 (List.mem_map.2 ⟨x, hx', w7.1 h⟩)).elim
   rw [this]
   exact qwk hn.2 hx'
theorem qk5 {m : Cont} (h : m.Ok) (p : List UInt8) (x : En) : x ∈ qc5 m p ↔ mGet x.1 m = some x.2 ∧ pre p x.1 = true := by
 rw [qc5, (ve _).mem_iff, preL, List.mem_map]
 constructor
 ·rintro ⟨y, hy, rfl⟩
  obtain ⟨h1, h2⟩ := List.mem_filter.1 hy
  refine ⟨?_, h2⟩
  unfold mGet enOf
  rw [qwk h.key h1]; rfl
 ·rintro ⟨h1, h2⟩
  unfold mGet at h1
  rw [Option.map_eq_some_iff] at h1
  obtain ⟨y, hy, he⟩ := h1
  have hk := w7.1 (List.find?_some hy)
  refine ⟨y, List.mem_filter.2 ⟨List.mem_of_find?_eq_some hy, by rw [← hk]; exact h2⟩, ?_⟩
  unfold enOf
  rw [← hk, he]
end Go.Proofs.YtkcdbcbpbolgkaaGreatDoor
namespace Go.Proofs.YtkcdbcbpbolgkaaGreatDoor
open Go.Abs
set_option linter.unusedSimpArgs false
set_option linter.unusedVariables false
noncomputable section
set_option maxRecDepth 100000
set_option linter.defProp false
def d150 := cut Tryz.prog Tryz.f150 news
@[go_sem] def E150 := qq d150
def d165 := cut Tryz.prog Tryz.f165 news
@[go_sem] def E165 := qq d165
def d163 := cut Tryz.prog Tryz.f163 news
@[go_sem] def E163 := qq d163
def d164 := cut Tryz.prog Tryz.f164 news
@[go_sem] def E164 := qq d164
def d162 := cut Tryz.prog Tryz.f162 news
@[go_sem] def E162 := qq d162
def d89 := cut Tryz.prog Tryz.f89 news
@[go_sem] def E89 := qq d89
end
end Go.Proofs.YtkcdbcbpbolgkaaGreatDoor
namespace Go.Proofs.YtkcdbcbpbolgkaaGreatDoor
open Go.Abs
set_option linter.unusedSimpArgs false
set_option linter.unusedVariables false
structure Rd where
 b : List UInt8
 pos : Nat
 failed : Bool
 deriving DecidableEq, Inhabited
def rdO (r : Rd) : AObj := .row [.d (.sl 1 (qc r.b)), .d (.int .i64 (r.pos : Nat)), .d (.bool r.failed)]
structure Rd.Ok (r : Rd) : Prop where
 len : r.b.length ≤ 1000000000
 pos : r.pos ≤ r.b.length
def kj (n : Nat) (r : Rd) : List UInt8 × Rd := if r.failed || decide (r.b.length - r.pos < n) then ([], { r with failed := true }) else ((r.b.drop r.pos).take n, { r with pos := r.pos + n })
noncomputable section
set_option maxRecDepth 100000
set_option linter.defProp false
def d177 := cut Tryz.prog Tryz.f177 news
@[go_sem] def E177 := qq d177
def F177 := fnC d177 follows Tryz.func177
def d288 := cut Tryz.prog Tryz.f288 news
@[go_sem] def E288 := qq d288
def F288 := fnC d288 follows Tryz.func288
def d247 := cut Tryz.prog Tryz.f247 news
@[go_sem] def E247 := qq d247
def F247 := fnC d247 follows Tryz.func247
def d180 := cut Tryz.prog Tryz.f180 news
@[go_sem] def E180 := qq d180
def F180 := fnC d180 follows Tryz.func180
end
theorem qwn (b : List UInt8) (hb : b.length ≤ 1000000000) : qh Tryz.prog 177 [.d (.sl 1 (qc b))] [] (.d (.ptr 0 0)) [rdO ⟨b, 0, false⟩] := by
 refine F177.go ?_
 try (refine ev ?_; try exact True.intro)
 (repeat (with_reducible refine ob ?_))
 try (refine ev2 @rdO.eq_1 @Int.ofNat_zero ?_; try exact True.intro)
theorem qpb (r : Rd) (n : Nat) (hr : r.Ok) (hn : n ≤ 1000000000) : qh Tryz.prog 288 [.d (.ptr 0 0), .d (.int .i64 n)] [rdO r] (.d (.sl 1 (qc (kj n r).1))) [rdO (kj n r).2] := by
 have h1 := hr.len
 have h2 := hr.pos
 have e1 : IntKind.i64.wrap ((r.b.length : Int) - (r.pos : Int)) = ((r.b.length - r.pos : Nat) : Int) := by rw [zn (by unfold I64; omega)]; omega
 have e2 : IntKind.i64.wrap ((r.pos : Int) + (n : Int)) = ((r.pos + n : Nat) : Int) := by rw [zn (by unfold I64; omega)]; omega
 have e3 : IntKind.i64.wrap ((r.pos : Int) + (n : Int) - (n : Int)) = ((r.pos : Nat) : Int) := by rw [zn (by unfold I64; omega)]; omega
 have e5 : ((r.pos : Int) + (n : Int)).toNat = r.pos + n := by omega
 refine F288.go ?_
 try (refine ev2 @rdO.eq_1 @e1 ?_; try exact True.intro)
 refine ⟨fun h => by rw [h]; rfl, ?_⟩
 have hd : (r.failed || decide ((n : Int) > ((r.b.length - r.pos : Nat) : Int))) = (r.failed || decide (r.b.length - r.pos < n)) := by
  congr 1; exact decide_eq_decide.2 (by omega)
 refine x5 _ (fun h => ?_) (fun h => ?_)
 ·rw [hd] at h
  have hx : kj n r = ([], { r with failed := true }) := by unfold kj; rw [if_pos h]
  try (refine ev2 @hx @xe ?_; try exact True.intro)
 ·rw [hd] at h
  have hx : kj n r = ((r.b.drop r.pos).take n, { r with pos := r.pos + n }) := by unfold kj; rw [if_neg (by rw [h]; simp)]
  simp only [Bool.or_eq_false_iff, decide_eq_false_iff_not] at h
  have e4 : r.pos + n - r.pos = n := by omega
  try (refine ev2 @hx @e2 ?_; try exact True.intro)
  try (refine ev1 @e3 ?_; try exact True.intro)
  (repeat (with_reducible refine ob ?_))
  try (refine ev6 @qcp @qcq @e4 @e3 @e5 @Int.toNat_natCast ?_; try exact True.intro)
theorem qdx {r : Rd} (hr : r.Ok) (n : Nat) : (kj n r).2.Ok ∧ (kj n r).2.b = r.b := by
 unfold kj
 split
 ·exact ⟨⟨hr.len, hr.pos⟩, rfl⟩
 ·rename_i h
  simp only [Bool.or_eq_true, decide_eq_true_eq, not_or] at h
  have := hr.pos
  exact ⟨⟨hr.len, by simp only; omega⟩, rfl⟩
theorem q6a (r : Rd) (hr : r.Ok) : qh Tryz.prog 247 [.d (.ptr 0 0)] [rdO r] (.d (.int .i64 (r.b.length - r.pos : Nat))) [rdO r] := by
 have h1 := hr.len
 have h2 := hr.pos
 have e1 : IntKind.i64.wrap ((r.b.length : Int) - (r.pos : Int)) = ((r.b.length - r.pos : Nat) : Int) := by rw [zn (by unfold I64; omega)]; omega
 refine F247.go ?_
 try (refine ev1 @rdO.eq_1 ?_; try exact True.intro)
 (repeat (with_reducible refine ob ?_)); refine no_ ?_
 try (refine ev1 @e1 ?_; try exact True.intro)
def rEnd (r : Rd) : Int := if r.failed || decide (r.pos < r.b.length) then 4 else 0
theorem q14 (r : Rd) (hr : r.Ok) : qh Tryz.prog 180 [.d (.ptr 0 0)] [rdO r] (.d (.int .i64 (rEnd r))) [rdO r] := by
 have h2 := hr.pos
 have hl := q6a r hr
 simp only [rdO] at hl
 obtain ⟨b, p, f⟩ := r
 refine F180.go ?_
 try (refine ev1 @rdO.eq_1 ?_; try exact True.intro)
 (repeat (with_reducible refine ob ?_)); refine no_ ?_
 cases f
 ·try (refine ev ?_; try exact True.intro)
  (repeat (with_reducible refine ob ?_)); refine clO [0] F247 (hl) ?_
  try (refine ev ?_; try exact True.intro)
  refine x5 _ (fun h => ?_) (fun h => ?_)
  ·have hx : rEnd ⟨b, p, false⟩ = 4 := by unfold rEnd; rw [if_pos]; simp at h ⊢; omega
   try (refine ev1 @hx ?_; try exact True.intro)
  ·have hx : rEnd ⟨b, p, false⟩ = 0 := by unfold rEnd; rw [if_neg]; simp at h ⊢; omega
   try (refine ev1 @hx ?_; try exact True.intro)
 ·try (refine ev ?_; try exact True.intro)
  refine qf9 (.int .i64 0) rfl ?_
  try (refine ev1 @rEnd.eq_1 ?_; try exact True.intro)
  (repeat (with_reducible refine ob ?_)); refine qdm ?_
  try (refine ev ?_; try exact True.intro)
def unz (u : Nat) : Int := if u % 2 = 0 then (u / 2 : Nat) else -((u / 2 : Nat) : Int) - 1
def qi0 : Nat → Nat → Nat → Rd → Int × Rd
 | 0, _, _, r => (0, { r with failed := true })
 | k + 1, i, u, r =>
  if (kj 1 r).2.failed then (0, (kj 1 r).2) else
   if ((kj 1 r).1.headD 0).toNat < 128 then (unz ((u + ((kj 1 r).1.headD 0).toNat % 128 * 128 ^ i) % 18446744073709551616), { (kj 1 r).2 with failed := (((kj 1 r).1.headD 0).toNat == 0 && decide (0 < i)) || (decide (i = 9) && decide (((kj 1 r).1.headD 0).toNat > 1)) })
   else qi0 k (i + 1) ((u + ((kj 1 r).1.headD 0).toNat % 128 * 128 ^ i) % 18446744073709551616) (kj 1 r).2
def rInt (r : Rd) : Int × Rd := qi0 10 0 0 r
noncomputable section
set_option maxRecDepth 100000
set_option linter.defProp false
def d244 := cut Tryz.prog Tryz.f244 news
@[go_sem] def E244 := qq d244
def F244 := fnC d244 follows Tryz.func244
end
theorem qr8 {r : Rd} (h : (kj 1 r).2.failed = false) : ∃ c, (kj 1 r).1 = [c] := by
 unfold kj at h ⊢
 split at h
 ·cases h
 ·rename_i hn
  rw [if_neg hn]
  simp only [Bool.or_eq_true, decide_eq_true_eq, not_or] at hn
  have : r.pos < r.b.length := by omega
  exact ⟨r.b[r.pos], by simp only; rw [List.drop_eq_getElem_cons this]; rfl⟩
theorem quy (u d i : Nat) (hu : u < 2 ^ i) : u ||| d * 2 ^ i = u + d * 2 ^ i := by
 have := Nat.shiftLeft_add_eq_or_of_lt hu d
 rw [Nat.shiftLeft_eq] at this
 rw [Nat.or_comm, ← this, Nat.add_comm]
theorem q15 (i : Nat) : 128 ^ i = 2 ^ (7 * i) := by rw [Nat.pow_mul]
theorem qk8 (n a b : Nat) (ha : a < 2 ^ n) (hb : b < 2 ^ n) : qnw n (a : Int) (b : Int) = ((a &&& b : Nat) : Int) := by
 unfold qnw
 rw [BitVec.ofInt_natCast, BitVec.ofInt_natCast, BitVec.toNat_and, BitVec.toNat_ofNat, BitVec.toNat_ofNat, Nat.mod_eq_of_lt ha, Nat.mod_eq_of_lt hb]
theorem q6b {u c i : Nat} (hi : i ≤ 9) (hu : u < 128 ^ i) (hc : c < 256) :
  IntKind.u64.wrap (bvOr 64 (u : Int) (IntKind.u64.wrap (IntKind.u64.wrap (IntKind.u8.wrap (qnw 8 (c : Int) 127)) * 2 ^ min (7 * i) 64))) = (((u + c % 128 * 128 ^ i) % 18446744073709551616 : Nat) : Int) := by
 have e1 : qnw 8 (c : Int) 127 = ((c % 128 : Nat) : Int) := by
  have := qk8 8 c 127 (by omega) (by omega)
  rw [show c &&& 127 = c % 128 from Nat.and_two_pow_sub_one_eq_mod c 7] at this
  exact this
 have e2 : min (7 * i) 64 = 7 * i := by omega
 have hcm : c % 128 < 128 := Nat.mod_lt _ (by decide)
 rw [e1, e2, qhe, show ((c % 128 : Nat) : Int) % 256 = ((c % 128 : Nat) : Int) by omega, f2 _ (by omega)]
 generalize c % 128 = d at hcm
 have e3 : ((d : Nat) : Int) * 2 ^ (7 * i) = ((d * 2 ^ (7 * i) : Nat) : Int) := by simp
 rw [e3]
 have hp : 128 ^ i ≤ 128 ^ 9 := Nat.pow_le_pow_right (by decide) hi
 have hp9 : (128 : Nat) ^ 9 = 9223372036854775808 := by decide
 have e4 : IntKind.u64.wrap ((d * 2 ^ (7 * i) : Nat) : Int) = ((d * 2 ^ (7 * i) % 18446744073709551616 : Nat) : Int) := by rw [qe6]; omega
 rw [e4, qv2 _ _ (by omega) (Nat.mod_lt _ (by decide)), q15]
 rw [q15] at hu
 rcases Nat.lt_or_ge i 9 with h9 | h9
 ·have hp8 : 128 ^ i ≤ 128 ^ 8 := Nat.pow_le_pow_right (by decide) (by omega)
  have e8 : (128 : Nat) ^ 8 = 72057594037927936 := by decide
  rw [q15] at hp8
  have hd : d * 2 ^ (7 * i) ≤ 127 * 72057594037927936 := Nat.mul_le_mul (by omega) (by omega)
  rw [Nat.mod_eq_of_lt (by omega), quy _ _ _ hu, f2 _ (by omega), Nat.mod_eq_of_lt (by omega)]
 ·have : i = 9 := by omega
  subst this
  have e9 : (2 : Nat) ^ (7 * 9) = 9223372036854775808 := by decide
  rw [e9] at hu ⊢
  have h1 : d * 9223372036854775808 % 18446744073709551616 = d % 2 * 2 ^ 63 := by
   have : (2 : Nat) ^ 63 = 9223372036854775808 := by decide
   rw [this]; omega
  rw [h1, quy u (d % 2) 63 (by
   have : (2 : Nat) ^ 63 = 9223372036854775808 := by decide
   omega)]
  have : (2 : Nat) ^ 63 = 9223372036854775808 := by decide
  rw [this, f2 _ (by omega)]
  congr 1
  omega
theorem q6c {u : Nat} (h : u < 18446744073709551616) :
  IntKind.i64.wrap (qpp 64 (IntKind.i64.wrap ((u : Int).fdiv (2 ^ min 1 64))) (IntKind.i64.wrap (0 - IntKind.i64.wrap (IntKind.u64.wrap (qnw 64 (u : Int) 1))))) = unz u := by
 have e1 : (u : Int).fdiv (2 ^ min 1 64) = ((u / 2 : Nat) : Int) := by
  show (u : Int).fdiv 2 = _
  rw [Int.fdiv_eq_ediv_of_nonneg _ (by decide)]; omega
 have e2 : qnw 64 (u : Int) 1 = ((u % 2 : Nat) : Int) := by
  have := qk8 64 u 1 (by omega) (by omega)
  rw [show u &&& 1 = u % 2 from Nat.and_two_pow_sub_one_eq_mod u 1] at this
  exact this
 rw [e1, e2, f2 _ (by omega), zn (n := ((u / 2 : Nat) : Int)) (by unfold I64; omega), zn (n := ((u % 2 : Nat) : Int)) (by unfold I64; omega), zn (n := 0 - ((u % 2 : Nat) : Int)) (by unfold I64; omega)]
 unfold qpp unz
 rcases Nat.mod_two_eq_zero_or_one u with hp | hp
 ·rw [hp, if_pos rfl]
  have : BitVec.ofInt 64 (0 - ((0 : Nat) : Int)) = 0#64 := by decide
  rw [this, BitVec.xor_zero, BitVec.ofInt_natCast, BitVec.toNat_ofNat, Nat.mod_eq_of_lt (by omega), zn (by unfold I64; omega)]
 ·rw [hp, if_neg (by decide)]
  have e3 : BitVec.ofInt 64 (0 - ((1 : Nat) : Int)) = BitVec.ofInt 64 18446744073709551615 := by decide
  rw [e3, qeu _ (by omega)]
  simp only [IntKind.wrap, IntKind.bits, IntKind.signed]
  simp
  omega
def q6d (i u : Nat) (r : Rd) : St := ⟨[(0, true, .d (.ptr 0 0)), (3, true, .d (.int .u64 (u : Nat))), (6, true, .d (.int .i64 (i : Nat)))], [rdO r], [], 1⟩
set_option maxRecDepth 10000 in
theorem q16 (r : Rd) (hr : r.Ok) : qh Tryz.prog 244 [.d (.ptr 0 0)] [rdO r] (.d (.int .i64 (rInt r).1)) [rdO (rInt r).2] := by
 refine F244.go ?_
 try (refine ev ?_; try exact True.intro)
 refine qn (fun i : { x : Nat × Nat × Rd // x.1 ≤ 10 ∧ x.2.1 < 18446744073709551616 ∧ (x.1 ≤ 9 → x.2.1 < 128 ^ x.1) ∧ x.2.2.Ok ∧ qi0 (10 - x.1) x.1 x.2.1 x.2.2 = rInt r } => q6d i.val.1 i.val.2.1 i.val.2.2) (fun i => 10 - i.val.1) ⟨(0, 0, r), by simp, by simp, by simp, hr, rfl⟩ ?_ (fun i => ?_)
 ·try (refine ev3 @q6d.eq_1 @Int.ofNat_zero @rdO.eq_1 ?_; try exact True.intro)
 obtain ⟨⟨i, u, rd⟩, hi, hu, hu2, hrd, hx⟩ := i
 simp only at hi hu hu2 hrd hx
 try (refine ev2 @q6d.eq_1 @rdO.eq_1 ?_; try exact True.intro)
 (repeat (with_reducible refine ob ?_)); refine x5 _ (fun h => ?_) (fun h => ?_)
 ·have hil : i < 10 := by simp at h; omega
  have hn := qpb rd 1 hrd (by decide)
  obtain ⟨hn1, hn2⟩ := qdx hrd 1
  have hk : 10 - i = (10 - (i + 1)) + 1 := by omega
  rw [hk, qi0] at hx
  try (refine ev ?_; try exact True.intro)
  simp only [rdO] at hn
  (repeat (with_reducible refine ob ?_)); refine clO [0] F288 (hn) ?_
  try (refine ev ?_; try exact True.intro)
  cases hf : (kj 1 rd).2.failed with
  | true =>
   rw [if_pos hf] at hx
   (repeat (with_reducible refine ob ?_)); refine qdm ?_
   try (refine ev2 hx.symm @hf ?_; try exact True.intro)
  | false =>
   rw [if_neg (by rw [hf]; simp)] at hx
   obtain ⟨c, hc⟩ := qr8 hf
   rw [hc] at hx ⊢
   simp only [List.headD_cons] at hx
   (repeat (with_reducible refine ob ?_)); refine no_ ?_
   have hcb : qc [c] = [[.int .u8 (c.toNat : Nat)]] := rfl
   have hlt := qdo c
   have hi9 : i ≤ 9 := by omega
   have hu' : (u + c.toNat % 128 * 128 ^ i) % 18446744073709551616 < 18446744073709551616 := Nat.mod_lt _ (by decide)
   have hu2' : i ≤ 8 → (u + c.toNat % 128 * 128 ^ i) % 18446744073709551616 < 128 ^ (i + 1) := fun h8 => by
    have h1 := hu2 (by omega)
    have h2 : c.toNat % 128 < 128 := Nat.mod_lt _ (by decide)
    have h3 : c.toNat % 128 * 128 ^ i ≤ 127 * 128 ^ i := Nat.mul_le_mul_right _ (by omega)
    have h4 := Nat.mod_le (u + c.toNat % 128 * 128 ^ i) 18446744073709551616
    rw [Nat.pow_succ]
    omega
   have a1 : IntKind.i64.wrap (7 * (i : Int)) = ((7 * i : Nat) : Int) := by rw [zn (by unfold I64; omega)]; omega
   try (refine ev3 @hcb @a1 (q6b hi9 (hu2 hi9) hlt) ?_; try exact True.intro)
   refine ⟨by omega, ?_⟩
   generalize (u + c.toNat % 128 * 128 ^ i) % 18446744073709551616 = u' at hx hu' hu2'
   refine x5 _ (fun hc => ?_) (fun hc => ?_)
   ·have h128 : c.toNat < 128 := by simp at hc; omega
    simp only [h128, if_true] at hx
    try (refine ev ?_; try exact True.intro)
    have hb : (((c.toNat : Nat) : Int) == 0 && decide ((i : Int) > 0) || ((i : Int) == 9) && decide (((c.toNat : Nat) : Int) > 1)) = (c.toNat == 0 && decide (0 < i) || decide (i = 9) && decide (c.toNat > 1)) := by
     have b1 : (((c.toNat : Nat) : Int) == 0) = (c.toNat == 0) := by rw [Bool.eq_iff_iff]; simp
     have b2 : decide ((i : Int) > 0) = decide (0 < i) := decide_eq_decide.2 (by omega)
     have b3 : ((i : Int) == 9) = decide (i = 9) := by rw [Bool.eq_iff_iff]; simp; omega
     have b4 : decide (((c.toNat : Nat) : Int) > 1) = decide (c.toNat > 1) := decide_eq_decide.2 (by omega)
     rw [b1, b2, b3, b4]
    rw [q6c hu', hb, ← hx]
    exact ⟨fun h => ⟨h, fun h2 => by rw [h, h2]; rfl⟩, fun h => by rw [h]; rfl, rfl, (by simp only [go_sem]), rfl, rfl⟩
   ·have h128 : ¬ c.toNat < 128 := by simp at hc; omega
    simp only [h128, if_false] at hx
    try (refine ev ?_; try exact True.intro)
    refine ⟨⟨(i + 1, u', (kj 1 rd).2), hil, hu', fun h => hu2' (by omega), hn1, hx⟩, ?_, by dsimp only; omega⟩
    try (refine ev4 @q6d.eq_1 @rdO.eq_1 @hf (qg (show i < 9223372036854775807 by omega)) ?_; try exact True.intro)
 ·have hil : i = 10 := by simp at h; omega
  subst hil
  have : rInt r = (0, { rd with failed := true }) := hx.symm
  try (refine ev2 @this @rdO.eq_1 ?_; try exact True.intro)
end Go.Proofs.YtkcdbcbpbolgkaaGreatDoor
namespace Go.Proofs.YtkcdbcbpbolgkaaGreatDoor
open Go.Abs
set_option linter.unusedSimpArgs false
set_option linter.unusedVariables false
attribute [go_sem] exists_eq' List.getD_nil
theorem qr9 : ∀ (k i u : Nat) {r : Rd}, r.Ok → (qi0 k i u r).2.Ok ∧ (qi0 k i u r).2.b = r.b
 | 0, i, u, r, h => ⟨⟨h.len, h.pos⟩, rfl⟩
 | k + 1, i, u, r, h => by
  have hn := qdx h 1
  rw [qi0]
  split
  ·exact hn
  ·split
   ·exact ⟨⟨hn.1.len, hn.1.pos⟩, hn.2⟩
   ·have := qr9 k (i + 1) ((u + ((kj 1 r).1.headD 0).toNat % 128 * 128 ^ i) % 18446744073709551616) hn.1
    exact ⟨this.1, this.2.trans hn.2⟩
theorem qjd {r : Rd} (h : r.Ok) : (rInt r).2.Ok ∧ (rInt r).2.b = r.b := qr9 10 0 0 h
def Rd.fail (r : Rd) (f : Bool) : Rd := ⟨r.b, r.pos, f⟩
theorem Rd.Ok.fail {r : Rd} (h : r.Ok) (f : Bool) : (r.fail f).Ok := ⟨h.len, h.pos⟩
def zc (lo hi : Int) (r : Rd) : Int × Rd := ((rInt r).1, (rInt r).2.fail ((rInt r).2.failed || decide ((rInt r).1 < lo) || decide ((rInt r).1 > hi)))
def qfe {α : Type} (z : α) (f : Rd → α × Rd) (r : Rd) : α × Rd := if r.failed then (z, r) else if (f r).2.failed then (z, ⟨(f r).2.b, r.pos, (f r).2.failed⟩) else f r
theorem qaa {r : Rd} (h : r.Ok) (lo hi : Int) : (zc lo hi r).2.Ok ∧ (zc lo hi r).2.b = r.b := ⟨(qjd h).1.fail _, (qjd h).2⟩
theorem qff {r : Rd} {lo hi : Int} (h : (zc lo hi r).2.failed = false) : lo ≤ (zc lo hi r).1 ∧ (zc lo hi r).1 ≤ hi := by
 simp only [zc, Rd.fail, Bool.or_eq_false_iff, decide_eq_false_iff_not] at h ⊢
 omega
theorem qgr {α : Type} {z : α} {f : Rd → α × Rd} {r : Rd} (h : r.Ok) (hf : (f r).2.Ok ∧ (f r).2.b = r.b) : (qfe z f r).2.Ok ∧ (qfe z f r).2.b = r.b := by
 unfold qfe
 split
 ·exact ⟨h, rfl⟩
 ·split
  ·exact ⟨⟨hf.1.len, by simp only [hf.2]; exact h.pos⟩, hf.2⟩
  ·exact hf
noncomputable section
set_option maxRecDepth 100000
set_option linter.defProp false
def d246 := cut Tryz.prog Tryz.f246 news
@[go_sem] def E246 := qq d246
def F246 := fnC d246 follows Tryz.func246
def d295 := cut Tryz.prog Tryz.f295 news
@[go_sem] def E295 := qq d295
def d292 := cut Tryz.prog Tryz.f292 news
@[go_sem] def E292 := qq d292
def d245 := cut Tryz.prog Tryz.f245 news
@[go_sem] def E245 := qq d245
def F245 := fnC d245 follows Tryz.func245
def d294 := cut Tryz.prog Tryz.f294 news
@[go_sem] def E294 := qq d294
def d243 := cut Tryz.prog Tryz.f243 news
@[go_sem] def E243 := qq d243
def F243 := fnC d243 follows Tryz.func243
def d291 := cut Tryz.prog Tryz.f291 news
@[go_sem] def E291 := qq d291
def d293 := cut Tryz.prog Tryz.f293 news
@[go_sem] def E293 := qq d293
def d178 := cut Tryz.prog Tryz.f178 news
@[go_sem] def E178 := qq d178
def F178 := fnC d178 follows Tryz.func178
def d179 := cut Tryz.prog Tryz.f179 news
@[go_sem] def E179 := qq d179
def F179 := fnC d179 follows Tryz.func179
def d250 := cut Tryz.prog Tryz.f250 news
@[go_sem] def E250 := qq d250
def d251 := cut Tryz.prog Tryz.f251 news
@[go_sem] def E251 := qq d251
def d249 := cut Tryz.prog Tryz.f249 news
@[go_sem] def E249 := qq d249
end
theorem qla (r : Rd) (lo hi : Int) (hr : r.Ok) : qh Tryz.prog 246 [.d (.ptr 0 0), .d (.int .i64 lo), .d (.int .i64 hi)] [rdO r] (.d (.int .i64 (zc lo hi r).1)) [rdO (zc lo hi r).2] := by
 have hc := q16 r hr
 simp only [rdO] at hc
 refine F246.go ?_
 try (refine ev3 @rdO.eq_1 @zc.eq_1 @Rd.fail.eq_1 ?_; try exact True.intro)
 generalize rInt r = x at hc ⊢
 obtain ⟨n, b, p, f⟩ := x
 (repeat (with_reducible refine ob ?_)); refine clO [0] F244 (hc) ?_
 try (refine ev ?_; try exact True.intro)
 cases f <;> simp
theorem qu0 (r : Rd) (lo hi : Int) (hr : r.Ok) : qh Tryz.prog 245 [.d (.ptr 1 0), .d (.ptr 2 0), .d (.ptr 3 0)] [rdO r, .row [.d (.ptr 0 0)], .row [.d (.int .i64 lo)], .row [.d (.int .i64 hi)]] (.d (.int .i64 (zc lo hi r).1)) [rdO (zc lo hi r).2, .row [.d (.ptr 0 0)], .row [.d (.int .i64 lo)], .row [.d (.int .i64 hi)]] := by
 have hc := qla r lo hi hr
 simp only [rdO] at hc
 refine F245.go ?_
 try (refine ev1 @rdO.eq_1 ?_; try exact True.intro)
 (repeat (with_reducible refine ob ?_)); refine clO [0] F246 (hc) ?_
 try (refine ev ?_; try exact True.intro)
def qdz := qfe (0 : Int) rInt
def xd (lo hi : Int) := qfe (0 : Int) (zc lo hi)
theorem qy0 (r : Rd) (hr : r.Ok) : qh Tryz.prog 243 [.d (.ptr 0 0), .d (.func (.func 244) [.ptr 0 0] [])] [rdO r] (.d (.int .i64 (qdz r).1)) [rdO (qdz r).2] := by
 have hc := q16 r hr
 unfold qdz
 unfold qfe
 obtain ⟨b, p, f⟩ := r
 simp only [rdO] at hc
 refine F243.go ?_
 try (refine ev1 @rdO.eq_1 ?_; try exact True.intro)
 cases f
 ·try (refine ev ?_; try exact True.intro)
  (repeat (with_reducible refine ob ?_)); refine no_ ?_
  try (refine ev ?_; try exact True.intro)
  (repeat (with_reducible refine ob ?_)); refine clO [0] F244 (hc) ?_
  try (refine ev ?_; try exact True.intro)
  cases hf : (rInt ⟨b, p, false⟩).2.failed
  ·try (refine ev ?_; try exact True.intro)
   (repeat (with_reducible refine ob ?_)); refine no_ ?_
   try simp only [hf, if_false, go_sem, Nat.reduceAdd, Nat.reduceMul, Nat.reduceSub, Nat.reduceEqDiff, Nat.reduceLT, Nat.reduceLeDiff, Nat.reduceBEq, reduceIte, reduceCtorEq, Int.reduceAdd, Int.reduceLT, Int.reduceLE, Int.reduceGT, Int.reduceGE, Int.reduceEq, Int.reduceNe, Int.reduceBEq, Int.reduceBNe, Int.reduceToNat, Int.reduceNeg]
  ·try (refine ev ?_; try exact True.intro)
   (repeat (with_reducible refine ob ?_)); refine qdm ?_
   try (refine ev1 @hf ?_; try exact True.intro)
 ·try (refine ev ?_; try exact True.intro)
  (repeat (with_reducible refine ob ?_)); refine qdm ?_
  try (refine ev ?_; try exact True.intro)
theorem ql8 (r : Rd) (lo hi : Int) (hr : r.Ok) : qh Tryz.prog 243 [.d (.ptr 0 0), .d (.func (.func 245) [] [.ptr 1 0, .ptr 2 0, .ptr 3 0])] [rdO r, .row [.d (.ptr 0 0)], .row [.d (.int .i64 lo)], .row [.d (.int .i64 hi)]] (.d (.int .i64 (xd lo hi r).1)) [rdO (xd lo hi r).2, .row [.d (.ptr 0 0)], .row [.d (.int .i64 lo)], .row [.d (.int .i64 hi)]] := by
 have hc := qu0 r lo hi hr
 unfold xd
 unfold qfe
 obtain ⟨b, p, f⟩ := r
 simp only [rdO] at hc
 refine F243.go ?_
 try (refine ev1 @rdO.eq_1 ?_; try exact True.intro)
 cases f
 ·try (refine ev ?_; try exact True.intro)
  (repeat (with_reducible refine ob ?_)); refine no_ ?_
  try (refine ev ?_; try exact True.intro)
  (repeat (with_reducible refine ob ?_)); refine clO [0, 1, 2, 3] F245 (hc) ?_
  try (refine ev ?_; try exact True.intro)
  cases hf : (zc lo hi ⟨b, p, false⟩).2.failed
  ·try (refine ev ?_; try exact True.intro)
   (repeat (with_reducible refine ob ?_)); refine no_ ?_
   try simp only [hf, if_false, go_sem, Nat.reduceAdd, Nat.reduceMul, Nat.reduceSub, Nat.reduceEqDiff, Nat.reduceLT, Nat.reduceLeDiff, Nat.reduceBEq, reduceIte, reduceCtorEq, Int.reduceAdd, Int.reduceLT, Int.reduceLE, Int.reduceGT, Int.reduceGE, Int.reduceEq, Int.reduceNe, Int.reduceBEq, Int.reduceBNe, Int.reduceToNat, Int.reduceNeg]
  ·try (refine ev ?_; try exact True.intro)
   (repeat (with_reducible refine ob ?_)); refine qdm ?_
   try (refine ev1 @hf ?_; try exact True.intro)
 ·try (refine ev ?_; try exact True.intro)
  (repeat (with_reducible refine ob ?_)); refine qdm ?_
  try (refine ev ?_; try exact True.intro)
theorem q6e (r : Rd) (hr : r.Ok) : qh Tryz.prog 178 [.d (.ptr 0 0)] [rdO r] (.d (.int .i64 (qdz r).1)) [rdO (qdz r).2] := by
 have hc := qy0 r hr
 simp only [rdO] at hc
 refine F178.go ?_
 try (refine ev1 @rdO.eq_1 ?_; try exact True.intro)
 (repeat (with_reducible refine ob ?_)); refine clO [0] F243 (hc) ?_
 try (refine ev ?_; try exact True.intro)
theorem qd0 (r : Rd) (lo hi : Int) (hr : r.Ok) : qh Tryz.prog 179 [.d (.ptr 0 0), .d (.int .i64 lo), .d (.int .i64 hi)] [rdO r] (.d (.int .i64 (xd lo hi r).1)) [rdO (xd lo hi r).2] := by
 have hc := ql8 r lo hi hr
 simp only [rdO] at hc
 refine F179.go ?_
 try (refine ev1 @rdO.eq_1 ?_; try exact True.intro)
 refine clO [0, 1, 2, 3] F243 hc ?_
 try (refine ev ?_; try exact True.intro)
end Go.Proofs.YtkcdbcbpbolgkaaGreatDoor
namespace Go.Proofs.YtkcdbcbpbolgkaaGreatDoor
open Go.Abs
set_option linter.unusedSimpArgs false
set_option linter.unusedVariables false
theorem q2c {r : Rd} (h : r.Ok) : (qdz r).2.Ok ∧ (qdz r).2.b = r.b := qgr h (qjd h)
theorem qar {r : Rd} (h : r.Ok) (lo hi : Int) : (xd lo hi r).2.Ok ∧ (xd lo hi r).2.b = r.b := qgr h (qaa h lo hi)
noncomputable section
set_option maxRecDepth 100000
set_option linter.defProp false
def d182 := cut Tryz.prog Tryz.f182 news
@[go_sem] def E182 := qq d182
end
end Go.Proofs.YtkcdbcbpbolgkaaGreatDoor
namespace Go.Proofs.YtkcdbcbpbolgkaaGreatDoor
open Go.Abs
set_option linter.unusedSimpArgs false
set_option linter.unusedVariables false
def dG : Nat → Nat → Nat → List UInt8 → Option (Int × List UInt8)
 | 0, _, _, _ => none
 | _ + 1, _, _, [] => none
 | k + 1, j, u, c :: l =>
  if c.toNat < 128 then (if ((c.toNat == 0 && decide (0 < j)) || (decide (j = 9) && decide (c.toNat > 1))) = true then none else some (unz (u + c.toNat * 128 ^ j), l))
  else dG k (j + 1) (u + c.toNat % 128 * 128 ^ j) l
def dInt (l : List UInt8) : Option (Int × List UInt8) := dG 10 0 0 l
def Got {α : Type} (o : Option (α × List UInt8)) (b : List UInt8) (x : α × Rd) : Prop := match o with
 | some (v, l) => x = (v, ⟨b, b.length - l.length, false⟩)
 | none => x.2.failed = true
def qsb {α : Type} (z : α) (f : Rd → α × Rd) (d : List UInt8 → Option (α × List UInt8)) : Prop :=
 ∀ r : Rd, r.Ok → f r = if r.failed = true then (z, r) else match d (r.b.drop r.pos) with
  | some (v, l) => (v, ⟨r.b, r.b.length - l.length, false⟩)
  | none => (z, ⟨r.b, r.pos, true⟩)
theorem qab {b : List UInt8} {p : Nat} {q l : List UInt8} (hp : p ≤ b.length) (h : b.drop p = q ++ l) : b.drop (b.length - l.length) = l ∧ l.length ≤ b.length := by
 have h1 := congrArg List.length h
 simp only [List.length_drop, List.length_append] at h1
 have h2 : b.drop (p + q.length) = l := by rw [← List.drop_drop, h, List.drop_left]
 have e : b.length - l.length = p + q.length := by omega
 rw [e]; exact ⟨h2, by omega⟩
theorem qni {r : Rd} (hr : r.Ok) (hf : r.failed = false) {c : UInt8} {l : List UInt8} (h : r.b.drop r.pos = c :: l) : kj 1 r = ([c], ⟨r.b, r.pos + 1, false⟩) ∧ r.b.drop (r.pos + 1) = l := by
 have hl := congrArg List.length h
 simp only [List.length_drop, List.length_cons] at hl
 have h2 : r.b.drop (r.pos + 1) = l := by rw [← List.drop_drop, h]; rfl
 refine ⟨?_, h2⟩
 unfold kj
 rw [if_neg (by simp [hf]; omega), h, hf]; rfl
theorem qsc {r : Rd} (hf : r.failed = false) (h : r.b.drop r.pos = []) : kj 1 r = ([], ⟨r.b, r.pos, true⟩) := by
 have hl := congrArg List.length h
 simp only [List.length_drop, List.length_nil] at hl
 unfold kj
 rw [if_pos (by simp [hf]; omega)]
theorem qd1 {j : Nat} (h : j ≤ 8) : 128 ^ (j + 1) ≤ 9223372036854775808 := by
 have h1 : 128 ^ (j + 1) ≤ 128 ^ 9 := Nat.pow_le_pow_right (by decide) (by omega)
 have h2 : (128 : Nat) ^ 9 = 9223372036854775808 := by decide
 omega
theorem q2g : ∀ (k j u : Nat) {r : Rd}, j + k = 10 → u < 128 ^ j → r.Ok → r.failed = false →
  Got (dG k j u (r.b.drop r.pos)) r.b (qi0 k j u r)
 | 0, j, u, r, _, _, _, _ => by simp only [Got, dG, qi0]
 | k + 1, j, u, r, hj, hu, hr, hf => by
  cases hd : r.b.drop r.pos with
  | nil =>
   simp only [dG]
   rw [qi0, qsc hf hd, if_pos rfl]
   exact (rfl : true = true)
  | cons c l =>
   obtain ⟨h1, h2⟩ := qni hr hf hd
   have hlt := qdo c
   have hlen := congrArg List.length hd
   simp only [List.length_drop, List.length_cons] at hlen
   rw [qi0, h1, dG]
   simp only [Bool.false_eq_true, if_false, List.headD_cons]
   by_cases hc : c.toNat < 128
   ·simp only [hc, if_true]
    by_cases hb : ((c.toNat == 0 && decide (0 < j)) || (decide (j = 9) && decide (c.toNat > 1))) = true
    ·rw [if_pos hb]
     exact hb
    ·rw [if_neg hb]
     simp only [Bool.not_eq_true] at hb
     have hm : c.toNat % 128 = c.toNat := Nat.mod_eq_of_lt hc
     have hs : u + c.toNat * 128 ^ j < 18446744073709551616 := by
      rcases Nat.lt_or_ge j 9 with h9 | h9
      ·have hp := qd1 (j := j) (by omega)
       rw [Nat.pow_succ] at hp
       have : c.toNat * 128 ^ j ≤ 127 * 128 ^ j := Nat.mul_le_mul_right _ (by omega)
       omega
      ·have : j = 9 := by omega
       subst this
       simp at hb
       have e : (128 : Nat) ^ 9 = 9223372036854775808 := by decide
       rw [e] at hu ⊢
       omega
     rw [hm, Nat.mod_eq_of_lt hs]
     simp only [Got, Prod.mk.injEq, Rd.mk.injEq]
     exact ⟨trivial, trivial, by omega, hb⟩
   ·simp only [hc, if_false]
    cases k with
    | zero => simp only [Got, dG, qi0]
    | succ k =>
     have hp := qd1 (j := j) (by omega)
     have hu2 : u + c.toNat % 128 * 128 ^ j < 128 ^ (j + 1) := by
      have h3 : c.toNat % 128 * 128 ^ j ≤ 127 * 128 ^ j := Nat.mul_le_mul_right _ (by omega)
      rw [Nat.pow_succ]
      omega
     rw [Nat.mod_eq_of_lt (show u + c.toNat % 128 * 128 ^ j < 18446744073709551616 by omega)]
     have ih := q2g (k + 1) (j + 1) (u + c.toNat % 128 * 128 ^ j) (r := ⟨r.b, r.pos + 1, false⟩) (by omega) hu2 ⟨hr.len, by have := hr.pos; simp only; omega⟩ rfl
     rw [show (⟨r.b, r.pos + 1, false⟩ : Rd).b.drop (⟨r.b, r.pos + 1, false⟩ : Rd).pos = l from h2] at ih
     exact ih
theorem q7m {r : Rd} (hr : r.Ok) (hf : r.failed = false) : Got (dInt (r.b.drop r.pos)) r.b (rInt r) := q2g 10 0 0 rfl (by decide) hr hf
theorem qeh {α : Type} {z : α} {f : Rd → α × Rd} {d : List UInt8 → Option (α × List UInt8)} (hi : ∀ r : Rd, r.Ok → (f r).2.b = r.b)
  (h : ∀ r : Rd, r.Ok → r.failed = false → Got (d (r.b.drop r.pos)) r.b (f r)) : qsb z (qfe z f) d := by
 intro r hr
 unfold qfe
 by_cases hf : r.failed = true
 ·rw [if_pos hf, if_pos hf]
 ·rw [if_neg hf, if_neg hf]
  have := h r hr (by simpa using hf)
  cases hd : d (r.b.drop r.pos) with
  | none =>
   rw [hd] at this
   simp only [Got] at this
   rw [if_pos this, hi r hr, this]
  | some x =>
   obtain ⟨v, l⟩ := x
   rw [hd] at this
   simp only [Got] at this
   rw [this, if_neg (by simp)]
theorem qu2 : qsb 0 qdz dInt := qeh (fun r hr => (qjd hr).2) (fun r hr hf => q7m hr hf)
def zy (lo hi : Int) (l0 : List UInt8) : Option (Int × List UInt8) := match dInt l0 with
 | some (n, l) => if n < lo ∨ n > hi then none else some (n, l)
 | none => none
theorem qnj (lo hi : Int) {r : Rd} (hr : r.Ok) (hf : r.failed = false) : Got (zy lo hi (r.b.drop r.pos)) r.b (zc lo hi r) := by
 have h := q7m hr hf
 unfold zy
 cases hd : dInt (r.b.drop r.pos) with
 | none =>
  rw [hd] at h
  simp only [Got] at h ⊢
  simp only [zc, Rd.fail, h, Bool.true_or]
 | some x =>
  obtain ⟨n, l⟩ := x
  rw [hd] at h
  simp only [Got] at h ⊢
  by_cases hn : n < lo ∨ n > hi
  ·rw [if_pos hn]
   simp only [zc, Rd.fail, h, Bool.false_or]
   simpa using hn
  ·rw [if_neg hn]
   simp only [zc, Rd.fail, h, Bool.false_or]
   have : (decide (n < lo) || decide (n > hi)) = false := by simpa using hn
   rw [this]
theorem qbj (lo hi : Int) : qsb 0 (xd lo hi) (zy lo hi) := qeh (fun r hr => (qaa hr lo hi).2) (fun r hr hf => qnj lo hi hr hf)
end Go.Proofs.YtkcdbcbpbolgkaaGreatDoor
namespace Go.Proofs.YtkcdbcbpbolgkaaGreatDoor
open Go.Abs
set_option linter.unusedSimpArgs false
set_option linter.unusedVariables false
noncomputable section
set_option maxRecDepth 100000
set_option linter.defProp false
def d96 := cut Tryz.prog Tryz.f96 news
@[go_sem] def E96 := qq d96
end
end Go.Proofs.YtkcdbcbpbolgkaaGreatDoor
namespace Go.Proofs.YtkcdbcbpbolgkaaGreatDoor
open Go.Abs
set_option linter.unusedSimpArgs false
set_option linter.unusedVariables false
noncomputable section
set_option maxRecDepth 100000
set_option linter.defProp false
def d309 := cut Tryz.prog Tryz.f309 news
@[go_sem] def E309 := qq d309
def d257 := cut Tryz.prog Tryz.f257 news
@[go_sem] def E257 := qq d257
def d259 := cut Tryz.prog Tryz.f259 news
@[go_sem] def E259 := qq d259
def d260 := cut Tryz.prog Tryz.f260 news
@[go_sem] def E260 := qq d260
def d258 := cut Tryz.prog Tryz.f258 news
@[go_sem] def E258 := qq d258
def d98 := cut Tryz.prog Tryz.f98 news
@[go_sem] def E98 := qq d98
end
noncomputable section
set_option maxRecDepth 100000
set_option linter.defProp false
def d194 := cut Tryz.prog Tryz.f194 news
@[go_sem] def E194 := qq d194
end
end Go.Proofs.YtkcdbcbpbolgkaaGreatDoor
