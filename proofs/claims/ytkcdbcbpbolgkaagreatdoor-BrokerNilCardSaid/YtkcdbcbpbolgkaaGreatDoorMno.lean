/- Texts Wk, Wl, Wm, Wn, Vc, Cg, Ch, Ga, Gb, Gc, Gd, Ge, Gg, Za, Yd, Ya, Yb, Yc, Ye, Yf, Yg. -/
import Derived.Test.YtkcdbcbpbolgkaaGreatDoorMnn
import Derived.Calls
import Derived.Orders
import Derived.Tactics
import Derived.Laws.AppendOwn
import Derived.Laws.Slices
import Derived.Laws.Closers25
import Derived.Laws.StructEq
import Derived.Laws.BytesString
import Derived.Laws.CopyRow
import Derived.MapKept
import Derived.Maps.RangeRun
import Derived.TacticsIn
import Derived.OrdersIn
import Derived.RangeFuncRecord
import Derived.RangeFuncLeaves
import Derived.IntWalk
import Derived.ProofKit
import Derived.OpenShut
import Derived.Carry
import Derived.Test.YtkcdbcbpbolgkaaGreatDoorProg
import Derived.KernelRfl
import Derived.OwnWalkIn
import Derived.TacticsInMore
import Derived.LoopIn
import Derived.WalkKit
import Derived.Lib.Strings
import Derived.Lib.Slices
import Derived.Lib.Walk
import Derived.Lib.Bytealg
import Derived.Shelf.SlSortCmp.WholeK
import Derived.Shelf.SlSortCmp.NoneTotal

namespace Go.Proofs.YtkcdbcbpbolgkaaGreatDoor
open Go.Abs Go.Shelf Go.RowKit Go.Lib Go.Sort
set_option linter.unusedSimpArgs false
set_option linter.unusedVariables false
theorem xhs (x : RowE) : (encR x).length = 2 := rfl
theorem xht (x : RowE) : ∀ v ∈ encR x, v.oneCell' = true := by
 intro v hv
 simp [encR] at hv
 rcases hv with rfl | rfl
 ·rfl
 ·exact x.2.2
set_option maxHeartbeats 1000000 in
theorem xmf (l : List En) (hn : (l.map (·.1)).Nodup) (hl : l.length ≤ 1000000) :
  qf Tryz.prog 172 [.d (.ref 0 0 2 l.length), .d (.func (.func 173) [] [])] [.row ((qes l).map .d)] (.tup []) [.row ((qes (qd8 l)).map .d)] := by
 intro g w vs hd hlen hv ho
 match vs, hlen with
 | [v0, v1], _ =>
 have h1 := v6 (zy (hv 1 v1 _ rfl rfl))
 have hf1 : v1 = .func (.func 173) #[] #[] := by
  cases h1 with
  | func _ vf vc _ _ hf hc =>
   have e1 : vf = [] := List.eq_nil_of_length_eq_zero (by simpa using hf)
   have e2 : vc = [] := List.eq_nil_of_length_eq_zero (by simpa using hc)
   subst e1; subst e2; rfl
 subst hf1
 have h0 := v6 (zy (hv 0 v0 _ rfl rfl))
 generalize hln : l.length = n at h0
 have none_ : ∀ (p : Option Addr) (cap : Nat), n = 0 → v0 = .slice p 0 cap → Calls Tryz.prog 172 [v0, .func (.func 173) #[] #[]].toArray w fun e w' =>
   ∃ v g' live', e = .returned v ∧ G g w g' w' ∧ Dom g' w' ∧ (∀ t ∈ (ASlot.tup []).toks ++ xg [.row ((qes (qd8 l)).map .d)], t ∈ live') ∧ RS g' w' live' v (.tup []) ∧ ObjsOk g' w' live' [.row ((qes (qd8 l)).map .d)] := by
  intro p cap h0 hv0
  have hl0 : l = [] := List.eq_nil_of_length_eq_zero (by omega)
  subst hl0; subst hv0
  have hcon := AnyF.slices_SortFunc_none xpb p cap (.func (.func 173) #[] #[]) w
  change Calls Tryz.prog 172 _ _ _ at hcon
  refine hcon.mono ?_
  rintro e w' ⟨rfl, rfl⟩
  have hs0 : qd8 [] = [] := by simp [qd8]
  rw [hs0]
  exact ⟨_, g, [], rfl, .refl _ _, hd, by simp [ASlot.toks, xg, AObj.cells], ⟨[], rfl, rfl, fun i u s hu => by simp at hu⟩, ho⟩
 cases h0 with
 | refnil a => exact none_ a 0 rfl rfl
 | ref b _ _ _ _ cap hg hcap hmx hsz =>
 by_cases hn0 : n = 0
 ·subst hn0; exact none_ _ cap rfl rfl
 obtain ⟨b', hb', c, et, hh, hcs, hcc⟩ := (ho.objs 0 _ rfl (by simp)).resolve_right (fun h => by
  have := h.1
  simp at this
  have := congrArg List.length this
  simp [qhy] at this; omega)
 have : b' = b := ho.inj b' b 0 hb' hg
 subst this
 rw [List.length_map, qhy] at hcs
 have hcell : ∀ (i : Nat) (e : En), l[i]? = some e → c[2 * i]? = some (.string ⟨e.1.toArray⟩) ∧ ∃ v, c[2 * i + 1]? = some v ∧ v.oneCell' = true ∧ RV g w v (.sl 1 (qd e.2)) := by
  intro i e he
  obtain ⟨k1, k2⟩ := qtc l i e he
  obtain ⟨u, u1, _, u3⟩ := hcc (2 * i) (.d (.str e.1)) (by rw [List.getElem?_map, k1]; rfl)
  obtain ⟨v, v1, v2, v3⟩ := hcc (2 * i + 1) (.d (.sl 1 (qd e.2))) (by rw [List.getElem?_map, k2]; rfl)
  have hu := qb8 (show RV g w u (.str e.1) from u3)
  subst hu
  exact ⟨u1, v, v1, v2, v3⟩
 let mkR : Nat → RowE := fun i => match l[i]?, c[2 * i + 1]? with
  | some e, some v => if h : v.oneCell' = true then (e.1, ⟨v, h⟩) else default
  | _, _ => default
 let P : List (RowE × En) := (List.range n).map fun i => (mkR i, l.getD i ([], []))
 have hPR : ∀ z ∈ P, z.1.1 = z.2.1 ∧ RV g w z.1.2.1 (.sl 1 (qd z.2.2)) := by
  intro z hz
  obtain ⟨i, hi, rfl⟩ := List.mem_map.1 hz
  have hil : i < l.length := by rw [hln]; exact List.mem_range.1 hi
  have he := List.getElem?_eq_getElem hil
  obtain ⟨_, v, v1, v2, v3⟩ := hcell i _ he
  have : mkR i = (l[i].1, ⟨v, v2⟩) := by simp only [mkR, he, v1, dif_pos v2]
  have e2 : l.getD i ([], []) = l[i] := by simp [List.getD, he]
  simp only [this, e2]
  exact ⟨trivial, v3⟩
 have hPs : P.map (·.2) = l := by
  apply List.ext_getElem?
  intro i
  simp only [P, List.map_map, List.getElem?_map]
  rcases Nat.lt_or_ge i n with h | h
  ·rw [List.getElem?_range h]
   have he := List.getElem?_eq_getElem (show i < l.length by omega)
   simp [he, List.getD]
  ·rw [List.getElem?_eq_none (by simpa using h), List.getElem?_eq_none (by omega)]; rfl
 obtain ⟨d, hdd⟩ : ∃ d : Array RowE, d = (P.map (·.1)).toArray := ⟨_, rfl⟩
 have hds : d.size = n := by rw [hdd]; simp [P]
 have hdi : ∀ i, i < n → d[i]! = mkR i := fun i hi => by rw [hdd]; simp [P, hi]
 have hblk : b' < w.heap.size := (Array.getElem?_eq_some_iff.1 hh).1
 have hfl : ∀ t, t < n * 2 → (flatK encR 2 d)[t]! = c.getD t default := by
  intro t ht
  rw [get_flatK encR 2 d t (by rw [hds]; exact ht), hdi _ (by omega)]
  have hil : t / 2 < l.length := by omega
  have he := List.getElem?_eq_getElem hil
  obtain ⟨k1, v, v1, v2, v3⟩ := hcell (t / 2) _ he
  have hm : mkR (t / 2) = (l[t / 2].1, ⟨v, v2⟩) := by simp only [mkR, he, v1, dif_pos v2]
  rw [hm]
  rcases Nat.mod_two_eq_zero_or_one t with hp | hp
  ·have e1 : 2 * (t / 2) = t := by omega
   rw [e1] at k1
   rw [hp, Array.getD_eq_getD_getElem?, k1]
   rfl
  ·have e1 : 2 * (t / 2) + 1 = t := by omega
   rw [e1] at v1
   rw [hp, Array.getD_eq_getD_getElem?, v1]
   rfl
 have hH : HoldsK encR 2 w b' 0 d := by
  intro j hj
  rw [size_flatK, hds] at hj
  refine ⟨?_, by simp [World.frozen?, hh]⟩
  rw [hfl j hj]
  have hjc : j < c.size := by omega
  simp [World.cell?, hh, hjc]
 have eg : ∀ args w, (callFunc 173 args).run Tryz.prog w = .ok (.enter 173 args) w := enters_of Tryz.func173 (by kernel_rfl) rfl
 have hcon := AnyQ.slices_SortFunc xpb 2 Tryz.isAgg195 Tryz.sizeOf195 encR xhs xht cmpR xsv 173 #[] b' 0 cap d w eg (fun _ _ _ _ x y => xhr x y _) hH hblk (by omega)
 change Calls Tryz.prog 172 _ _ _ at hcon
 rw [hds] at hcon
 refine hcon.mono ?_
 rintro e w' ⟨rfl, d', m, os, hperm, hsort, hw'⟩
 obtain ⟨hps, _, hpl⟩ := hperm
 rw [hds] at hps
 have hp2 : d'.toList.Perm (P.map (·.1)) := by
  have e1 : d'.extract 0 n = d' := by rw [← hps]; simp
  have e2 : d.extract 0 n = d := by rw [← hds]; simp
  rw [e1, e2] at hpl
  rw [hdd] at hpl
  simpa using hpl
 obtain ⟨Q, q1, q2⟩ := xce (fun z : RowE × En => z.1) hp2 rfl
 have hQl : Q.length = n := by rw [q1.length_eq]; simp [P]
 have hesl : (Q.map (·.2)).Perm l := by
  have := q1.map (fun z : RowE × En => z.2)
  rwa [hPs] at this
 have hQ : ∀ (i : Nat) (z : RowE × En), Q[i]? = some z → d'[i]! = z.1 ∧ z.1.1 = z.2.1 ∧ RV g w z.1.2.1 (.sl 1 (qd z.2.2)) := by
  intro i z hz
  have h1 := congrArg (fun l => l[i]?) q2
  simp only [List.getElem?_map, hz, Option.map_some, Array.getElem?_toList] at h1
  have hi : i < d'.size := by rw [hps, ← hQl]; exact (List.getElem?_eq_some_iff.1 hz).1
  refine ⟨?_, hPR z (q1.mem_iff.1 (List.mem_of_getElem? hz))⟩
  rw [getElem!_pos d' i hi]
  rw [Array.getElem?_eq_getElem hi] at h1
  simpa using h1.symm
 have hsorted : (Q.map (·.2)).Pairwise fun a b => cmpB a.1 b.1 ≤ 0 := by
  rw [List.pairwise_iff_getElem]
  intro i j hi hj hij
  simp only [List.length_map] at hi hj
  have zi := hQ i _ (List.getElem?_eq_getElem hi)
  have zj := hQ j _ (List.getElem?_eq_getElem hj)
  have hs := hsort i j (Nat.zero_le _) hij (by omega)
  rw [zi.1, zj.1] at hs
  have hs2 : ¬ cmpB Q[j].1.1 Q[i].1.1 < 0 := of_decide_eq_false hs
  rw [zi.2.1, zj.2.1] at hs2
  simp only [List.getElem_map]
  exact qdu.1 hs2
 have hes : Q.map (·.2) = qd8 l := by
  have hn2 : ((Q.map (·.2)).map (·.1)).Nodup := (hesl.map (fun x : En => x.1)).nodup_iff.2 hn
  exact qhz (hesl.trans (vz l).symm) hn2 hsorted (qdl l)
 have hwh : w'.heap = (w.heap.modify b' (onCells (putCells (fun v : Value => v) 0 (flatK encR 2 d')))) ++ os := by subst hw'; rfl
 have hother : ∀ k, k ≠ b' → k < w.heap.size → w'.heap[k]? = w.heap[k]? := by
  intro k hk hkl
  rw [hwh, Array.getElem?_append, if_pos (by simpa using hkl), Array.getElem?_modify, if_neg (Ne.symm hk)]
 have hself : w'.heap[b']? = some (.cells (putCells (fun v : Value => v) 0 (flatK encR 2 d') c) et (0, 0)) := by
  rw [hwh, Array.getElem?_append, if_pos (by simpa using hblk), Array.getElem?_modify, if_pos rfl, hh]
  rfl
 have hsize : w.heap.size ≤ w'.heap.size := by
  subst hw'
  simp [sortWorldK, grow, putRowK, putRow, mapBlock, Sort.ahead]
 have htop : w'.os = w.os ∧ w'.tape = w.tape ∧ w'.output = w.output := by subst hw'; exact ⟨rfl, rfl, rfl⟩
 have hne : ∀ k r, g k = r → (∀ i, r ≠ .obj i) → k ≠ b' := fun k r h hr he => by rw [he, hg] at h; exact hr 0 h.symm
 have hG : G g w g w' := by
  refine ⟨htop.1, htop.2.1, htop.2.2, hsize, fun k hk hgk => ⟨hother k (hne k _ hgk (by simp)) hk, hgk⟩, fun k r hk hgk => ⟨hother k (hne k _ hgk (by simp)) hk, hgk⟩,
   fun k r t hk hgk => ⟨r, some t, hgk, Nat.le_refl _, fun i u _ hu => by rw [jy (hother k (hne k _ hgk (by simp)) hk)]; exact hu⟩, fun k id hk hgk => ⟨hgk, ?_⟩⟩
  by_cases hkb : k = b'
  ·subst hkb
   rw [k8 hh, k8 hself]
   simp [putCells]
  ·exact Nat.le_of_eq (je (hother k hkb hk)).symm
 refine ⟨_, g, [], rfl, hG, hd.of hG fun k hk => hd.1 k (by omega), by simp [ASlot.toks, xg, AObj.cells], ⟨[], rfl, rfl, fun i u s hu => by simp at hu⟩, ⟨fun oid o hid hno => ?_, ho.inj, fun b oid hb => ?_⟩⟩
 ·match oid, hid with
  | 0, hid =>
   simp at hid
   subst hid
   have hle := (vz l).length_eq
   refine .inl ⟨b', hg, _, et, hself, by simp [putCells, qhy, hle]; omega, fun i s hi => ?_⟩
   rw [List.getElem?_map, Option.map_eq_some_iff] at hi
   obtain ⟨x, hx, rfl⟩ := hi
   have hil : i < n * 2 := by
    have := (List.getElem?_eq_some_iff.1 hx).1
    rw [qhy, hle, hln] at this
    exact this
   have hQi : i / 2 < Q.length := by omega
   obtain ⟨z1, z2, z3⟩ := hQ (i / 2) _ (List.getElem?_eq_getElem hQi)
   have hz : (qd8 l)[i / 2]? = some Q[i / 2].2 := by rw [← hes, List.getElem?_map, List.getElem?_eq_getElem hQi]; rfl
   obtain ⟨k1, k2⟩ := qtc _ _ _ hz
   have hcv : (putCells (fun v : Value => v) 0 (flatK encR 2 d') c)[i]? = some ((encR Q[i / 2].1)[i % 2]!) := by
    have hic : i < c.size := by omega
    simp only [putCells, Array.getElem?_mapIdx, Array.getElem?_eq_getElem hic, Option.map_some, size_flatK, hps, Nat.zero_le, true_and, Nat.zero_add, hil, if_true, Nat.sub_zero]
    rw [get_flatK encR 2 d' i (by rw [hps]; exact hil), z1]
   rcases Nat.mod_two_eq_zero_or_one i with hp | hp
   ·have e1 : 2 * (i / 2) = i := by omega
    rw [e1] at k1
    rw [k1] at hx; cases hx
    rw [hp] at hcv
    have hcs : (encR Q[i / 2].1)[0]! = .string ⟨Q[i / 2].2.1.toArray⟩ := by rw [← z2]; rfl
    rw [hcs] at hcv
    exact ⟨_, hcv, rfl, .str _⟩
   ·have e1 : 2 * (i / 2) + 1 = i := by omega
    rw [e1] at k2
    rw [k2] at hx; cases hx
    rw [hp] at hcv
    exact ⟨_, hcv, Q[i / 2].1.2.2, z3.mono (hG.rowsKept hd) (fun b id hb => hG.obj b id (hd.lt_obj hb) hb)⟩
  | i + 1, hid => simp at hid
 ·obtain ⟨o, h1, h2⟩ := ho.ids b oid hb
  match oid, h1 with
  | 0, h1 => exact ⟨_, rfl, by simp⟩
  | i + 1, h1 => simp at h1
end Go.Proofs.YtkcdbcbpbolgkaaGreatDoor
namespace Go.Proofs.YtkcdbcbpbolgkaaGreatDoor
open Go.Abs
set_option linter.unusedSimpArgs false
set_option linter.unusedVariables false
attribute [go_sem] y9
def pre (p k : List UInt8) : Bool := decide (p.length ≤ k.length) && k.take p.length == p
noncomputable section
set_option maxRecDepth 100000
set_option linter.defProp false
def d236 := cut Tryz.prog Tryz.f236 news
@[go_sem] def E236 := qj d236
def F236 := fnC d236 follows Tryz.func236
def d171 := cut Tryz.prog Tryz.f171 news
@[go_sem] def E171 := qj d171
def F171 := fnC d171 follows Tryz.func171
end
theorem qkf (k p : List UInt8) : qf Tryz.prog 236 [.d (.str k), .d (.str p)] [] (.d (.bool (pre p k))) [] := by
 refine F236.go ?_
 by_cases h : p.length ≤ k.length
 ·have hd : decide ((k.length : Int) ≥ (p.length : Int)) = true := by simpa using h
  have hd2 : decide (p.length ≤ k.length) = true := by simpa using h
  try (refine ev3 @pre.eq_1 @hd @hd2 ?_; try exact True.intro)
  (repeat (with_reducible refine ob ?_))
  try (refine ev2 @hd @Nat.sub_zero ?_; try exact True.intro)
 ·have hd : decide ((k.length : Int) ≥ (p.length : Int)) = false := by simpa using h
  have hd2 : decide (p.length ≤ k.length) = false := by simpa using h
  try (refine ev3 @pre.eq_1 @hd @hd2 ?_; try exact True.intro)
  (repeat (with_reducible refine ob ?_))
  try (refine ev1 @hd ?_; try exact True.intro)
theorem qm3 (k p : List UInt8) : qf Tryz.prog 171 [.d (.str k), .d (.str p)] [] (.d (.bool (pre p k))) [] := by
 refine F171.go ?_
 try (refine ev ?_; try exact True.intro)
 (repeat (with_reducible refine ob ?_)); first | refine cl F236 (qkf k p) ?_ | refine clF F236 (qkf k p) (fun _ => by (refine ev2 @qn.eq_1 @kx.eq_1 ?_; try exact True.intro)) ?_
 try (refine ev ?_; try exact True.intro)
noncomputable section
set_option maxRecDepth 100000
set_option linter.defProp false
def d92u := cut Tryz.prog Tryz.f92 news [29] [10] true
@[go_sem] def E92u := qj d92u
def F92u := fnC d92u follows Tryz.func92
def d172 := cut Tryz.prog Tryz.f172 news
@[go_sem] def E172 := qj d172
def F172 := fnC d172 follows Tryz.func172
end
theorem q28 {α β : Type} {f : α → β} : ∀ {l : List α}, (l.map f).Nodup → ∀ {x y : α}, x ∈ l → y ∈ l → f x = f y → x = y
 | [], _, x, y, hx, _, _ => by cases hx
 | a :: l, hn, x, y, hx, hy, h => by
  simp only [List.map_cons, List.nodup_cons, List.mem_map, not_exists, not_and] at hn
  rcases List.mem_cons.1 hx with rfl | hx'
  ·rcases List.mem_cons.1 hy with rfl | hy'
   ·rfl
   ·exact absurd h.symm (hn.1 y hy')
  ·rcases List.mem_cons.1 hy with rfl | hy'
   ·exact absurd h (hn.1 x hx')
   ·exact q28 hn.2 hx' hy' h
theorem qbd {α β : Type} (f : α → β) : ∀ {l : List α}, (l.map f).Nodup → l.Nodup
 | [], _ => List.nodup_nil
 | a :: l, hn => by
  simp only [List.map_cons, List.nodup_cons, List.mem_map, not_exists, not_and] at hn ⊢
  exact ⟨fun h => hn.1 a h rfl, qbd f hn.2⟩
theorem q5d {α : Type} (f : α → Nat) : ∀ {l : List α}, (l.map f).Nodup → ∀ {x : α}, x ∈ l → (l.find? fun y => f y == f x) = some x
 | [], _, x, hx => by cases hx
 | a :: l, hn, x, hx => by
  rw [List.find?_cons]
  by_cases h : f a = f x
  ·have := q28 hn (List.mem_cons_self ..) hx h
   subst this
   simp
  ·rw [beq_false_of_ne h]
   rcases List.mem_cons.1 hx with rfl | hx'
   ·exact absurd rfl h
   ·exact q5d f (by simp only [List.map_cons, List.nodup_cons] at hn; exact hn.2) hx'
theorem xcf {α : Type} [DecidableEq α] : ∀ {a b : List α}, a.Nodup → (∀ x ∈ a, x ∈ b) → a.length ≤ b.length
 | [], _, _, _ => Nat.zero_le _
 | x :: a, b, h, hs => by
  have hx := hs x (List.mem_cons_self ..)
  have h' := List.nodup_cons.1 h
  have := xcf (a := a) (b := b.erase x) h'.2 fun y hy => (List.mem_erase_of_ne (by rintro rfl; exact h'.1 hy)).2 (hs y (List.mem_cons_of_mem _ hy))
  rw [List.length_erase_of_mem hx] at this
  have := List.length_pos_of_mem hx
  simp only [List.length_cons]; omega
theorem q8d (l : List En) : (l.map kx).flatten = qes l := rfl
theorem q29 (l : List En) : (qes l).all D.isCell = true := by induction l <;> simp_all [qes, kx, D.isCell]
attribute [go_sem] q8d qzf q29
structure Cont.Ok (m : Cont) : Prop where
 num : (m.l.map (·.1)).Nodup
 lt : ∀ x ∈ m.l, x.1 < m.c
 key : (m.l.map (·.2.1)).Nodup
def enOf (x : KV) : En := (x.2.1, x.2.2)
def preL (p : List UInt8) (l : List KV) : List En := (l.filter fun x => pre p x.2.1).map enOf
def qc3 (m : Cont) (p : List UInt8) : List En := qd8 (preL p m.l)
theorem qzg {p : List UInt8} {l : List KV} (h : (l.map (·.2.1)).Nodup) : ((preL p l).map (·.1)).Nodup := by
 unfold preL
 rw [List.map_map]
 exact List.Nodup.sublist (List.Sublist.map _ List.filter_sublist) h
theorem xcg {a b : List En} (h : a.Perm b) (hn : (a.map (·.1)).Nodup) : qd8 a = qd8 b := by
 have h1 := vz a
 have h2 := vz b
 refine qhz (h1.trans (h.trans h2.symm)) ((h1.map (fun x : En => x.1)).nodup_iff.2 hn) (qdl a) (qdl b)
def xch (s : Sto) (p : List UInt8) (i : { i : List KV // (i.map (·.1)).Nodup ∧ ∀ x ∈ i, x ∈ s.m.l }) : St :=
 ⟨[(1, true, .d (.str p)), (5, true, .uni 0 2 ((preL p i.val).map kx)), (14, true, .d (.ptr 2 0))], [stoO s 1, mapO s.m, .iter (.d (.map 1)) s.m.c (i.val.map (·.1)) s.m.c], [0], 1⟩
set_option maxRecDepth 10000 in
theorem xmg (s : Sto) (p : List UInt8) (hm : s.m.Ok) (hl : s.m.l.length ≤ 1000) (hv : ∀ x ∈ s.m.l, x.2.2.length ≤ 1000000) :
  qf Tryz.prog 92 [.d (.ptr 0 0), .d (.str p)] [stoO s 1, mapO s.m] (.d (.sl 2 ((qc3 s.m p).map kx))) [stoO s 1, mapO s.m] := by
 refine F92u.go ?_
 try (refine ev2 @stoO.eq_1 @mapO.eq_1 ?_; try exact True.intro)
 (repeat (with_reducible refine ob ?_)); refine no_ ?_
 try (refine ev ?_; try exact True.intro)
 refine ql (xch s p) (fun i => s.m.l.length - i.val.length) ⟨[], by simp, by simp⟩ ?_ (fun i => ?_)
 ·try (refine ev6 @xch.eq_1 @stoO.eq_1 @mapO.eq_1 @preL.eq_1 @List.filter_nil.{0} @List.map_nil.{0,0} ?_; try exact True.intro)
 obtain ⟨i, hi1, hi2⟩ := i
 try (refine ev3 @xch.eq_1 @stoO.eq_1 @mapO.eq_1 ?_; try exact True.intro)
 have hleft : qfv (s.m.l.map qei) (i.map (·.1)) = (s.m.l.filter fun x => !(i.map (·.1)).contains x.1).map qei := by
  unfold qfv
  rw [List.filter_map]; rfl
 have hone : ∀ x ∈ s.m.l, ∀ y ∈ s.m.l, x.1 = y.1 → x = y := fun x hx y hy h => q28 hm.num hx hy h
 refine xf9 (last := s.m.c) ⟨rfl, rfl, by intro e he; obtain ⟨x, hx, rfl⟩ := List.mem_map.1 he; exact hm.lt x hx, Nat.le_refl _⟩ (fun hl0 => ?_) (fun e he => ?_)
 ·
  rw [hleft, List.map_eq_nil_iff, List.filter_eq_nil_iff] at hl0
  have hall : ∀ x ∈ s.m.l, x ∈ i := by
   intro x hx
   have := hl0 x hx
   simp only [List.contains_eq_mem, decide_eq_true_eq, Bool.not_eq_true, Bool.not_eq_false', Bool.not_not] at this
   simp at this
   obtain ⟨a, b, hab⟩ := this
   have := hone x hx _ (hi2 _ hab) rfl
   rw [this]; exact hab
  have hperm : i.Perm s.m.l := by
   refine (List.perm_ext_iff_of_nodup (qbd _ hi1) (qbd _ hm.num)).2 fun x => ⟨hi2 x, hall x⟩
  have hpp : (preL p i).Perm (preL p s.m.l) := (hperm.filter _).map _
  have hpn : ((preL p i).map (·.1)).Nodup := by
   refine (hpp.map (fun x : En => x.1)).nodup_iff.2 ?_
   exact qzg hm.key
  have hsame : qd8 (preL p i) = qc3 s.m p := xcg hpp hpn
  have hlen : (preL p i).length ≤ 1000 := by
   have h1 := hpp.length_eq
   have h2 : (preL p s.m.l).length ≤ s.m.l.length := by simp only [preL, List.length_map]; exact List.length_filter_le _ _
   omega
  try (refine ev1 @qo6.eq_1 ?_; try exact True.intro)
  (repeat (with_reducible refine ob ?_)); refine no_ ?_
  try (refine ev ?_; try exact True.intro)
  refine qp0 (.fr 5) 0 2 ((preL p i).map kx) ?_
  refine pu ?_
  try (refine ev ?_; try exact True.intro)
  refine clO [3] F172 (xmf (preL p i) hpn (by omega)) ?_
  try (refine ev ?_; try exact True.intro)
  have hsl : (preL p i).length = (qd8 (preL p i)).length := (vz _).length_eq.symm
  rw [hsl]
  refine qp2 3 2 ((qd8 (preL p i)).map kx) ?_ (hc := ?_) (hcc := ?_) (hes := ?_) (hok := D.okWR_noPtr (qqf _))
  ·refine pu ?_
   try (refine ev1 @hsame ?_; try exact True.intro)
  ·try (refine ev ?_; try exact True.intro)
  ·try (refine ev ?_; try exact True.intro)
  ·intro r hr
   obtain ⟨x, _, rfl⟩ := List.mem_map.1 hr
   rfl
 ·rw [hleft] at he
  obtain ⟨x, hx, rfl⟩ := List.mem_map.1 he
  rw [List.mem_filter] at hx
  obtain ⟨hx1, hx2⟩ := hx
  have hx3 : x.1 ∉ i.map (·.1) := by simpa using hx2
  have hnext : ((i ++ [x]).map (·.1)).Nodup ∧ ∀ y ∈ i ++ [x], y ∈ s.m.l := by
   refine ⟨by rw [List.map_append]; exact List.nodup_append.2 ⟨hi1, by simp, fun a ha b hb h => by simp at hb; subst hb; subst h; exact hx3 ha⟩, fun y hy => ?_⟩
   rcases List.mem_append.1 hy with h | h
   ·exact hi2 y h
   ·simp at h; subst h; exact hx1
  have hil : i.length < s.m.l.length := by
   have := xcf (qbd _ hnext.1) hnext.2
   simp at this; omega
  have hpl : (preL p i).length ≤ i.length := by simp only [preL, List.length_map]; exact List.length_filter_le _ _
  try (refine ev1 @entV.eq_1 ?_; try exact True.intro)
  (repeat (with_reducible refine ob ?_)); refine qbv ?_
  try (refine ev ?_; try exact True.intro)
  refine xa3 (e := qei x) (mid := 1) (since := s.m.c) (seen := i.map (·.1) ++ [x.1]) (clock := s.m.c) (es := s.m.l.map qei) ⟨rfl, rfl, by simp [qei], ?_⟩ ?_
  ·rw [List.find?_map]
   have h1 : s.m.l.find? ((fun e : Nat × D × D => e.1 == (qei x).1) ∘ qei) = some x := q5d (fun y : KV => y.1) hm.num hx1
   rw [h1]; rfl
  try (refine ev1 @qei.eq_1 ?_; try exact True.intro)
  (repeat (with_reducible refine ob ?_)); first | refine cl F171 (qm3 x.2.1 p) ?_ | refine clF F171 (qm3 x.2.1 p) (fun _ => by (refine ev2 @qn.eq_1 @kx.eq_1 ?_; try exact True.intro)) ?_
  try (refine ev ?_; try exact True.intro)
  (repeat (with_reducible refine ob ?_)); refine xq _ (fun h => ?_) (fun h => ?_)
  ·try (refine ev ?_; try exact True.intro)
   (repeat (with_reducible refine ob ?_)); first | refine cl F127 (yn x.2.2 (by have := hv x hx1; omega)) ?_ | refine clF F127 (yn x.2.2 (by have := hv x hx1; omega)) (fun _ => by (refine ev2 @qn.eq_1 @kx.eq_1 ?_; try exact True.intro)) ?_
   try (refine ev ?_; try exact True.intro)
   refine ⟨by omega, ?_⟩
   have hpx : preL p (i ++ [x]) = preL p i ++ [enOf x] := by simp [preL, h]
   refine ⟨⟨i ++ [x], hnext⟩, ?_, by simp only [List.length_append, List.length_singleton]; omega⟩
   try (refine ev7 @xch.eq_1 @stoO.eq_1 @mapO.eq_1 @hpx @List.map_append.{0,0} @kx.eq_1 @enOf.eq_1 ?_; try exact True.intro)
  ·have hpx : preL p (i ++ [x]) = preL p i := by simp [preL, h]
   try (refine ev ?_; try exact True.intro)
   refine ⟨⟨i ++ [x], hnext⟩, ?_, by simp only [List.length_append, List.length_singleton]; omega⟩
   try (refine ev7 @xch.eq_1 @stoO.eq_1 @mapO.eq_1 @hpx @List.map_append.{0,0} @kx.eq_1 @enOf.eq_1 ?_; try exact True.intro)
end Go.Proofs.YtkcdbcbpbolgkaaGreatDoor
namespace Go.Proofs.YtkcdbcbpbolgkaaGreatDoor
open Go.Abs
set_option linter.unusedSimpArgs false
set_option linter.unusedVariables false
theorem qbe {k : List UInt8} {x : KV} : zm k x = true ↔ k = x.2.1 := by simp [zm]
theorem qqg {k v : List UInt8} : ∀ {l : List KV} {j : Nat}, l.findIdx? (zm k) = some j → ∀ k', (l.modify j fun e => (e.1, k, v)).find? (zm k') = if k' = k then some ((l[j]?.getD (0, [], [])).1, k, v) else l.find? (zm k')
 | [], j, h, k' => by simp at h
 | a :: l, j, h, k' => by
  rw [List.findIdx?_cons] at h
  by_cases ha : zm k a = true
  ·rw [if_pos ha] at h
   cases h
   simp only [List.modify_zero_cons, List.find?_cons, List.getElem?_cons_zero, Option.getD_some]
   by_cases hk : k' = k
   ·subst hk
    have : zm k' (a.1, k', v) = true := qbe.2 rfl
    rw [this, if_pos rfl]
   ·have h1 : zm k' (a.1, k, v) = false := by simpa [zm] using hk
    have h2 : zm k' a = false := by rw [qbe] at ha; simp [zm, ← ha, hk]
    rw [h1, h2, if_neg hk]
  ·rw [if_neg (by simpa using ha)] at h
   obtain ⟨i, hi, rfl⟩ := Option.map_eq_some_iff.1 h
   simp only [List.modify_succ_cons, List.find?_cons, List.getElem?_cons_succ]
   have ih := qqg (v := v) hi k'
   by_cases hk : k' = k
   ·subst hk
    have : zm k' a = false := by simpa using ha
    rw [this]
    exact ih
   ·cases h2 : zm k' a with
    | true => rw [if_neg hk]
    | false => rw [ih]
theorem qzh {k : List UInt8} {l : List KV} (h : l.findIdx? (zm k) = none) : l.find? (zm k) = none := by
 rw [List.findIdx?_eq_none_iff] at h
 exact List.find?_eq_none.2 fun x hx => by rw [h x hx]; simp
theorem q5e (k v : List UInt8) (m : Cont) (k' : List UInt8) : mGet k' (mPut k v m) = if k' = k then some v else mGet k' m := by
 unfold mGet mPut
 cases h : m.l.findIdx? (zm k) with
 | some j =>
  simp only [qqg h k']
  split <;> rfl
 | none =>
  simp only [List.find?_append]
  by_cases hk : k' = k
  ·subst hk
   rw [qzh h, if_pos rfl]
   simp [zm]
  ·rw [if_neg hk]
   have : [(m.c, k, v)].find? (zm k') = none := by simp [zm, hk]
   rw [this, Option.or_none]
theorem qtd {k v : List UInt8} : ∀ {l : List KV} {j : Nat}, l.findIdx? (zm k) = some j → (l.modify j fun e => (e.1, k, v)).map (·.2.1) = l.map (·.2.1) ∧ (l.modify j fun e => (e.1, k, v)).map (·.1) = l.map (·.1)
 | [], j, h => by simp at h
 | a :: l, j, h => by
  rw [List.findIdx?_cons] at h
  by_cases ha : zm k a = true
  ·rw [if_pos ha] at h
   cases h
   rw [qbe] at ha
   simp only [List.modify_zero_cons, List.map_cons, ha, and_self]
  ·rw [if_neg (by simpa using ha)] at h
   obtain ⟨i, hi, rfl⟩ := Option.map_eq_some_iff.1 h
   obtain ⟨h1, h2⟩ := qtd (v := v) hi
   simp only [List.modify_succ_cons, List.map_cons, h1, h2, and_self]
theorem qte {α : Type} {l : List α} {x : α} (h : l.Nodup) (hx : x ∉ l) : (l ++ [x]).Nodup :=
 List.nodup_append.2 ⟨h, by simp, fun a ha b hb e => by simp at hb; subst hb; subst e; exact hx ha⟩
theorem qqh {m : Cont} (h : m.Ok) (k v : List UInt8) : (mPut k v m).Ok := by
 unfold mPut
 cases hf : m.l.findIdx? (zm k) with
 | some j =>
  obtain ⟨h1, h2⟩ := qtd (v := v) hf
  refine ⟨by simpa only [h2] using h.num, fun x hx => ?_, by simpa only [h1] using h.key⟩
  have : x.1 ∈ (m.l.modify j fun e => (e.1, k, v)).map (·.1) := List.mem_map_of_mem hx
  rw [h2] at this
  obtain ⟨y, hy, he⟩ := List.mem_map.1 this
  rw [← he]; exact h.lt y hy
 | none =>
  rw [List.findIdx?_eq_none_iff] at hf
  refine ⟨?_, fun x hx => ?_, ?_⟩
  ·rw [List.map_append]
   refine qte h.num fun hm => ?_
   obtain ⟨y, hy, he⟩ := List.mem_map.1 hm
   have := h.lt y hy
   simp only at he
   omega
  ·simp only
   rcases List.mem_append.1 hx with hx | hx
   ·have := h.lt x hx; omega
   ·simp at hx; subst hx; simp
  ·rw [List.map_append]
   refine qte h.key fun hm => ?_
   obtain ⟨y, hy, he⟩ := List.mem_map.1 hm
   have := hf y hy
   simp [zm, he] at this
theorem qkg (k : List UInt8) (m : Cont) : (mDel k m).l.Sublist m.l := by
 unfold mDel
 split
 ·exact List.eraseIdx_sublist ..
 ·exact List.Sublist.refl _
theorem qqi {m : Cont} (h : m.Ok) (k : List UInt8) : (mDel k m).Ok :=
 ⟨List.Nodup.sublist ((qkg k m).map _) h.num, fun x hx => by rw [xkd]; exact h.lt x ((qkg k m).subset hx), List.Nodup.sublist ((qkg k m).map _) h.key⟩
theorem qtf {k : List UInt8} : ∀ {l : List KV} {j : Nat}, l.findIdx? (zm k) = some j → (l.map (·.2.1)).Nodup → ∀ k', (l.eraseIdx j).find? (zm k') = if k' = k then none else l.find? (zm k')
 | [], j, h, _, k' => by simp at h
 | a :: l, j, h, hn, k' => by
  rw [List.findIdx?_cons] at h
  simp only [List.map_cons, List.nodup_cons] at hn
  by_cases ha : zm k a = true
  ·rw [if_pos ha] at h
   cases h
   rw [qbe] at ha
   simp only [List.eraseIdx_cons_zero, List.find?_cons]
   by_cases hk : k' = k
   ·subst hk
    rw [if_pos rfl]
    refine List.find?_eq_none.2 fun x hx hk => ?_
    rw [qbe] at hk
    exact hn.1 (List.mem_map.2 ⟨x, hx, by rw [← ha, ← hk]⟩)
   ·rw [if_neg hk]
    have h2 : zm k' a = false := by simp [zm, ← ha, hk]
    rw [h2]
  ·rw [if_neg (by simpa using ha)] at h
   obtain ⟨i, hi, rfl⟩ := Option.map_eq_some_iff.1 h
   simp only [List.eraseIdx_cons_succ, List.find?_cons]
   have ih := qtf hi hn.2 k'
   by_cases hk : k' = k
   ·subst hk
    have : zm k' a = false := by simpa using ha
    rw [this, if_pos rfl]
    rw [if_pos rfl] at ih
    exact ih
   ·cases h2 : zm k' a with
    | true => rw [if_neg hk]
    | false => rw [ih]
theorem q5f {m : Cont} (h : m.Ok) (k k' : List UInt8) : mGet k' (mDel k m) = if k' = k then none else mGet k' m := by
 unfold mGet mDel
 cases hf : m.l.findIdx? (zm k) with
 | some j =>
  simp only [qtf hf h.key k']
  split <;> rfl
 | none =>
  simp only
  split
  ·rename_i hk; subst hk; rw [qzh hf]; rfl
  ·rfl
theorem q5g (k v : List UInt8) (m : Cont) : (mPut k v m).l.length ≤ m.l.length + 1 := by
 unfold mPut
 split <;> simp
theorem qvw (k : List UInt8) (m : Cont) : (mDel k m).l.length ≤ m.l.length := (qkg k m).length_le
def kvOk (x : KV) : Prop := 1 ≤ x.2.1.length ∧ x.2.1.length ≤ 40 ∧ x.2.2.length ≤ 900
theorem xhu {k v : List UInt8} {m : Cont} {x : KV} (h : x ∈ (mPut k v m).l) : x ∈ m.l ∨ (x.2.1 = k ∧ x.2.2 = v) := by
 unfold mPut at h
 split at h
 ·rename_i j hj
  simp only at h
  obtain ⟨i, hi⟩ := List.getElem?_of_mem h
  rw [List.getElem?_modify] at hi
  cases hg : m.l[i]? with
  | none => rw [hg] at hi; cases hi
  | some y =>
   rw [hg] at hi
   simp only [Option.map_eq_map, Option.map_some, Option.some.injEq] at hi
   split at hi
   ·subst hi; exact .inr ⟨rfl, rfl⟩
   ·subst hi; exact .inl (List.mem_of_getElem? hg)
 ·rcases List.mem_append.1 h with h | h
  ·exact .inl h
  ·simp at h; subst h; exact .inr ⟨rfl, rfl⟩
structure Cont.Good (m : Cont) : Prop where
 ok : m.Ok
 few : m.l.length ≤ 400
 small : ∀ x ∈ m.l, kvOk x
theorem qf5 : ∀ (l : List OpS) {m : Cont}, m.Good → (∀ o ∈ l, jw o = true) → (jn m l).2 = true → (jn m l).1.Good
 | [], m, h, _, _ => h
 | o :: l, m, h, hp, hy => by
  rw [jn] at hy ⊢
  have ho := vu.1 (hp o (List.mem_cons_self ..))
  have hp' := fun x hx => hp x (List.mem_cons_of_mem _ hx)
  split at hy
  ·rename_i hd
   rw [if_pos hd]
   exact qf5 l ⟨qqi h.ok _, Nat.le_trans (qvw _ _) h.few, fun x hx => h.small x ((qkg _ _).subset hx)⟩ hp' hy
  ·rename_i hd
   rw [if_neg hd]
   split at hy
   ·cases hy
   ·rename_i h4
    rw [if_neg h4]
    refine qf5 l ⟨qqh h.ok _ _, by omega, fun x hx => ?_⟩ hp' hy
    rcases xhu hx with hx | ⟨h1, h2⟩
    ·exact h.small x hx
    ·exact ⟨by rw [h1]; exact ho.1, by rw [h1]; exact ho.2.1, by rw [h2]; exact ho.2.2.1⟩
theorem qqj (f r : List UInt8) (hr : r.length ≤ 2000) : (yi f r).length ≤ f.length + 70000 := by
 have := qqa _ r (Nat.le_refl _)
 unfold yi
 rw [qqb _ _ (fun q hq => (qa8 _ r (Nat.le_refl _) q hq).2)]
 simp only; omega
structure Sto.Ok (n : Nat) (s : Sto) : Prop where
 good : s.m.Good
 file : s.file.length ≤ n * 70000
theorem q3a (n : Nat) : newS.Ok n := by
 refine ⟨⟨⟨List.nodup_nil, fun x hx => (by cases hx), List.nodup_nil⟩, ?_, fun x hx => (by cases hx)⟩, ?_⟩
 ·simp only [newS, qdc, List.length_nil, Nat.zero_le]
 ·simp only [newS, List.length_nil, Nat.zero_le]
theorem Sto.Ok.mono {n m : Nat} {s : Sto} (h : s.Ok n) (hn : n ≤ m) : s.Ok m := ⟨h.good, Nat.le_trans h.file (Nat.mul_le_mul_right _ hn)⟩
theorem qkh (s : Sto) (l : List OpS) : ((xf s l).2 ≠ 0 ∧ (xf s l).1 = s) ∨ ((xf s l).2 = 0 ∧ (qq l).2 = 0 ∧ (jn s.m l).2 = true ∧ (xf s l).1 = ⟨yi s.file (qq l).1, s.synced, (jn s.m l).1⟩) := by
 unfold xf
 split
 ·exact .inl ⟨by assumption, rfl⟩
 ·split
  ·exact .inl ⟨by simp, rfl⟩
  ·rename_i h1 h2
   exact .inr ⟨rfl, by simpa using h1, by simpa using h2, rfl⟩
theorem qi3 {n : Nat} {s : Sto} (h : s.Ok n) (l : List OpS) : (xf s l).1.Ok (n + 1) := by
 rcases qkh s l with ⟨_, he⟩ | ⟨_, h1, h2, he⟩
 ·rw [he]; exact h.mono (Nat.le_succ _)
 ·rw [he]
  refine ⟨qf5 l h.good (vy h1).2.1 h2, ?_⟩
  have := qqj s.file _ (qae l)
  have := h.file
  simp only; omega
def vg (k : List UInt8) : Option (List UInt8) → List OpS → Option (List UInt8)
 | a, [] => a
 | a, o :: l => vg k (if o.key = k then (if o.del then none else some o.val) else a) l
theorem qfj (k : List UInt8) : ∀ (l : List OpS) {m : Cont}, m.Ok → (jn m l).2 = true → mGet k (jn m l).1 = vg k (mGet k m) l
 | [], m, _, _ => rfl
 | o :: l, m, h, hy => by
  rw [jn] at hy ⊢
  rw [vg]
  split at hy
  ·rename_i hd
   rw [if_pos hd, qfj k l (qqi h _) hy, q5f h]
   congr 1
   by_cases hk : k = o.key
   ·rw [if_pos hk, if_pos hk.symm, if_pos hd]
   ·rw [if_neg hk, if_neg (Ne.symm hk)]
  ·rename_i hd
   rw [if_neg hd]
   split at hy
   ·cases hy
   ·rename_i h4
    rw [if_neg h4, qfj k l (qqh h _ _) hy, q5e]
    congr 1
    by_cases hk : k = o.key
    ·rw [if_pos hk, if_pos hk.symm, if_neg hd]
    ·rw [if_neg hk, if_neg (Ne.symm hk)]
end Go.Proofs.YtkcdbcbpbolgkaaGreatDoor
namespace Go.Proofs.YtkcdbcbpbolgkaaGreatDoor
open Go.Abs
set_option linter.unusedSimpArgs false
set_option linter.unusedVariables false
theorem qiq (w : List UInt8) : qbl (qd w) = w := by
 induction w with
 | nil => rfl
 | cons c w ih => simp_all [qbl, qd]
theorem xmh (w : List UInt8) : (∃ l, qd w = qd l) = True := eq_true ⟨w, rfl⟩
theorem xpe : (∃ l, ([] : List (List D)) = qd l) = True := eq_true ⟨[], rfl⟩
theorem qvy : qbl [] = [] := rfl
attribute [go_sem] qiq xmh xpe qvy
noncomputable section
set_option maxRecDepth 100000
set_option linter.defProp false
def d30 := cut Tryz.prog Tryz.f30 news
@[go_sem] def E30 := qj d30
def d24 := cut Tryz.prog Tryz.f24 news
@[go_sem] def E24 := qj d24
end
theorem xci (m : Cont) (p : List UInt8) : (qc3 m p).length ≤ m.l.length := by
 rw [qc3, (vz _).length_eq]
 simp only [preL, List.length_map]
 exact List.length_filter_le _ _
theorem qao {α : Type} {f : α → Bool} {l : List α} {i : Nat} (h : (l.take i).all f = true) (hil : i < l.length) (hf : f l[i] = true) : (l.take (i + 1)).all f = true := by
 rw [List.take_succ_eq_append_getElem hil, List.all_append, h]; simp [hf]
theorem qqk {α : Type} {f : α → Bool} {l : List α} {i : Nat} (hil : i < l.length) (hf : f l[i] = false) : l.all f = false := by
 rw [List.all_eq_false]; exact ⟨l[i], List.getElem_mem hil, by simp [hf]⟩
structure StepS where
 kind : Int
 ops : List OpS
 deriving DecidableEq, Inhabited
def zf (x : StepS) : List D := [.int .i64 x.kind, .sl 3 (x.ops.map qn)]
theorem qki (o : StepS) : D.noPtrL (zf o) = true := by simp only [zf, D.noPtrL, D.noPtr, qbw, Bool.and_self]
theorem q3b (l : List StepS) : D.noPtrR (l.map zf) = true := xu qki l
attribute [go_sem] qki q3b
noncomputable section
set_option maxRecDepth 100000
set_option linter.defProp false
end
def ops1 : List OpS := [⟨[97], false, [1]⟩, ⟨[98], false, [2]⟩]
def ops2 : List OpS := [⟨[97], true, []⟩]
def st1 : Sto := (xf newS ops1).1
def st2 : Sto := (xf st1 ops2).1
theorem c1 : (xf newS ops1).2 = 0 := by decide +kernel
theorem c2 : (xf st1 ops2).2 = 0 := by decide +kernel
theorem c3 : qc3 st2.m [] = [([98], [2])] := by decide +kernel
end Go.Proofs.YtkcdbcbpbolgkaaGreatDoor
namespace Go.Proofs.YtkcdbcbpbolgkaaGreatDoor
open Go.Abs
set_option linter.unusedSimpArgs false
set_option linter.unusedVariables false
theorem xmk (s : List UInt8) : (((s.length : Nat) : Int) == 0) = (s == []) := by cases s <;> simp <;> omega
noncomputable section
set_option maxRecDepth 100000
set_option linter.defProp false
def d189 := cut Tryz.prog Tryz.f189 news
@[go_sem] def E189 := qj d189
def F189 := fnC d189 follows Tryz.func189
def d191 := cut Tryz.prog Tryz.f191 news
@[go_sem] def E191 := qj d191
def F191 := fnC d191 follows Tryz.func191
def d185 := cut Tryz.prog Tryz.f185 news
@[go_sem] def E185 := qj d185
def F185 := fnC d185 follows Tryz.func185
def d186 := cut Tryz.prog Tryz.f186 news
@[go_sem] def E186 := qj d186
def F186 := fnC d186 follows Tryz.func186
def d269 := cut Tryz.prog Tryz.f269 news
@[go_sem] def E269 := qj d269
def F269 := fnC d269 follows Tryz.func269
def d183 := cut Tryz.prog Tryz.f183 news
@[go_sem] def E183 := qj d183
def F183 := fnC d183 follows Tryz.func183
def xph := cut Tryz.prog Tryz.f190 news
@[go_sem] def xsy := qj xph
def q3c := fnC xph follows Tryz.func190
def d223 := cut Tryz.prog Tryz.f223 news
@[go_sem] def E223 := qj d223
def F223 := fnC d223 follows Tryz.func223
end
theorem qfk (a b : List UInt8) : qf Tryz.prog 190 [.d (.sl 1 (qd a)), .d (.sl 1 (qd b))] [] (.d (.bool (a == b))) [] := by
 refine q3c.go ?_
 try (refine ev ?_; try exact True.intro)
def qm4 (s : List UInt8) : Bool := decide ((s.length : Int) ≥ 1) && decide ((s.length : Int) ≤ 30)
theorem qkj (s : List UInt8) : qf Tryz.prog 183 [.d (.str s)] [] (.d (.bool (qm4 s))) [] := by
 refine F183.go ?_
 try (refine ev1 @qm4.eq_1 ?_; try exact True.intro)
def nKey (s : List UInt8) : List UInt8 := s ++ [47, 110]
def sKey (s : List UInt8) (d : Nat) : List UInt8 := s ++ [47, UInt8.ofNat (48 + d)]
theorem qvz (s : List UInt8) (h : s.length ≤ 1000) : qf Tryz.prog 185 [.d (.str s)] [] (.d (.str (nKey s))) [] := by
 refine F185.go ?_
 try (refine ev1 @nKey.eq_1 ?_; try exact True.intro)
 omega
theorem qlv (s : List UInt8) (d : Nat) (h : s.length ≤ 1000) (hd : d < 4) : qf Tryz.prog 186 [.d (.str s), .d (.int .i64 d)] [] (.d (.str (sKey s d))) [] := by
 refine F186.go ?_
 have h4 : d = 0 ∨ d = 1 ∨ d = 2 ∨ d = 3 := by omega
 have e0 : (Utf8.encode (IntKind.i32.wrap (IntKind.i64.wrap 48))).data.toList = [48] := by decide
 have e1 : (Utf8.encode (IntKind.i32.wrap (IntKind.i64.wrap 49))).data.toList = [49] := by decide
 have e2 : (Utf8.encode (IntKind.i32.wrap (IntKind.i64.wrap 50))).data.toList = [50] := by decide
 have e3 : (Utf8.encode (IntKind.i32.wrap (IntKind.i64.wrap 51))).data.toList = [51] := by decide
 rcases h4 with rfl | rfl | rfl | rfl
 all_goals
  try (refine ev6 @sKey.eq_1 @e0 @e1 @e2 @e3 @List.append_assoc.{0} ?_; try exact True.intro)
  exact ⟨by omega, by omega, rfl⟩
def qaf (q : Qu) : List UInt8 := if q.acc = 0 ∧ q.cons = 0 then [] else wInt q.acc ++ wInt q.cons
theorem qkk (q : Qu) (h1 : I64 q.acc) (h2 : I64 q.cons) : qf Tryz.prog 189 [.d (.agg (encQ q))] [] (.d (.sl 1 (qd (qaf q)))) [] := by
 have a1 := xn h1
 refine F189.go ?_
 try (refine ev1 @encQ.eq_1 ?_; try exact True.intro)
 refine xq _ (fun h => ?_) (fun h => ?_)
 ·have hb : qaf q = [] := by unfold qaf; rw [if_pos]; simpa using h
  try (refine ev2 @hb @qs ?_; try exact True.intro)
 ·have hb : qaf q = wInt q.acc ++ wInt q.cons := by unfold qaf; rw [if_neg]; simpa using h
  try (refine ev ?_; try exact True.intro)
  refine clA F147 (jv [] q.acc (by simp) h1) ?_
  try (refine ev ?_; try exact True.intro)
  refine clA F147 (jv ([] ++ wInt q.acc) q.cons (by rw [List.nil_append]; omega) h2) ?_
  try (refine ev1 @hb ?_; try exact True.intro)
theorem q5h {α : Type} {f : α → Bool} {l : List α} {i : Nat} (hi : (l.take i).find? f = none) (hil : i < l.length) (h : f l[i] = true) : l.find? f = some l[i] := by
 have e : l.find? f = (l.take i ++ l.drop i).find? f := by rw [List.take_append_drop]
 rw [e, List.find?_append, hi, List.drop_eq_getElem_cons hil]
 simp only [Option.none_or, List.find?_cons, h]
def qa2 (q : Qu) (d : Int) : List UInt8 := match q.items.find? (fun p => p.seq.tmod 4 == d) with
 | some p => (qay p).1
 | none => []
def q5i (q : Qu) (d : Int) (i : { i : Nat // (q.items.take i).find? (fun p => p.seq.tmod 4 == d) = none }) : St :=
 ⟨[(1, true, .d (.int .i64 d)), (10, true, .d (.sl 9 (q.items.map qe))), (11, true, .d (.int .i64 q.items.length)), (12, true, .d (.int .i64 (i.val : Nat)))], [], [], 1⟩
structure Qu.W (q : Qu) : Prop where
 a : I64 q.acc
 c : I64 q.cons
 p : ∀ p ∈ q.items, p.W
set_option maxRecDepth 10000 in
theorem qkl (q : Qu) (d : Int) (hq : q.Sm) (hw : q.W) : qf Tryz.prog 191 [.d (.agg (encQ q)), .d (.int .i64 d)] [] (.d (.sl 1 (qd (qa2 q d)))) [] := by
 have hl := hq.1
 refine F191.go ?_
 try (refine ev1 @encQ.eq_1 ?_; try exact True.intro)
 refine ql (q5i q d) (fun i => q.items.length - i.val) ⟨0, rfl⟩ ?_ (fun i => ?_)
 ·try (refine ev2 @q5i.eq_1 @Int.ofNat_zero ?_; try exact True.intro)
 obtain ⟨i, hi⟩ := i
 try (refine ev1 @q5i.eq_1 ?_; try exact True.intro)
 refine xq _ (fun h => ?_) (fun h => ?_)
 ·have hil : i < q.items.length := by simpa using h
  have hen := q75 q.items[i] (hq.2 _ (List.getElem_mem hil)) (hw.p _ (List.getElem_mem hil))
  simp only [qe] at hen
  try (refine ev2 (qi qe q.items hil) @qe.eq_1 ?_; try exact True.intro)
  (repeat (with_reducible refine ob ?_))
  refine xq _ (fun h => ?_) (fun h => ?_)
  ·have hb : qa2 q d = (qay q.items[i]).1 := by
    unfold qa2; rw [q5h hi hil h]
   try (refine ev ?_; try exact True.intro)
   (repeat (with_reducible refine ob ?_)); first | refine cl F255 (hen) ?_ | refine clF F255 (hen) (fun _ => by (refine ev3 @qe.eq_1 @encQ.eq_1 @qn.eq_1 ?_; try exact True.intro)) ?_
   try (refine ev1 @hb ?_; try exact True.intro)
  ·try (refine ev ?_; try exact True.intro)
   refine ⟨⟨i + 1, ?_⟩, ?_, by dsimp only; omega⟩
   ·rw [List.take_succ_eq_append_getElem hil, List.find?_append, hi]
    simp only [Option.none_or, List.find?_cons, h, List.find?_nil]
   ·try (refine ev2 @q5i.eq_1 (qh (show i < 9223372036854775807 by omega)) ?_; try exact True.intro)
 ·have hil : q.items.length ≤ i := by simpa using h
  have hb : qa2 q d = [] := by
   rw [List.take_of_length_le hil] at hi
   unfold qa2; rw [hi]
  try (refine ev2 @hb @qs ?_; try exact True.intro)
def chg (k : List UInt8) (old next : List UInt8) : List OpS := if old = next then [] else [⟨k, next == [], next⟩]
theorem qzi (l : List OpS) (k old next : List UInt8) (hl : l.length ≤ 1000) : qf Tryz.prog 269 [.own 0 3 (l.map qn), .d (.str k), .d (.sl 1 (qd old)), .d (.sl 1 (qd next))] [] (.own 0 3 ((l ++ chg k old next).map qn)) [] := by
 refine F269.go ?_
 try (refine ev ?_; try exact True.intro)
 (repeat (with_reducible refine ob ?_)); first | refine cl q3c (qfk old next) ?_ | refine clF q3c (qfk old next) (fun _ => by (refine ev3 @qe.eq_1 @encQ.eq_1 @qn.eq_1 ?_; try exact True.intro)) ?_
 try (refine ev ?_; try exact True.intro)
 refine xq _ (fun h => ?_) (fun h => ?_)
 ·have hb : chg k old next = [] := by unfold chg; rw [if_pos (by simpa using h)]
  try (refine ev2 @hb @List.append_nil.{0} ?_; try exact True.intro)
 ·have hb : chg k old next = [⟨k, next == [], next⟩] := by unfold chg; rw [if_neg (by simpa using h)]
  try (refine ev6 @hb @List.map_append.{0,0} @List.map_cons.{0,0} @List.map_nil.{0,0} @qn.eq_1 @xmk ?_; try exact True.intro)
  omega
def vm (a b : Qu) (name : List UInt8) : Nat → List OpS
 | 0 => chg (nKey name) (qaf a) (qaf b)
 | d + 1 => vm a b name d ++ chg (sKey name d) (qa2 a d) (qa2 b d)
def kz (a b : Qu) (name : List UInt8) : List OpS × Int := if (!ww a || !ww b || !qm4 name) = true then ([], 1) else (vm a b name 4, 0)
theorem xcl (k a b : List UInt8) : (chg k a b).length ≤ 1 := by unfold chg; split <;> simp
theorem qfl (a b : Qu) (name : List UInt8) : ∀ d, (vm a b name d).length ≤ d + 1
 | 0 => xcl _ _ _
 | d + 1 => by
  have := qfl a b name d
  have := xcl (sKey name d) (qa2 a d) (qa2 b d)
  rw [vm, List.length_append]; omega
def xhv (a b : Qu) (name : List UInt8) (d : Nat) : St :=
 ⟨[(2, true, .d (.str name)), (3, true, .d (.ptr 0 0)), (4, true, .d (.ptr 1 0)), (8, true, .own 0 3 ((vm a b name d).map qn)), (30, true, .d (.int .i64 (d : Nat)))], [.row ((encQ a).map .d), .row ((encQ b).map .d)], [0], 1⟩
set_option maxRecDepth 10000 in
theorem q3d (a b : Qu) (name : List UInt8) (ha : a.Sm) (wa : a.W) (hb : b.Sm) (wb : b.W) (hn : name.length ≤ 1000) :
  qf Tryz.prog 223 [.d (.agg (encQ a)), .d (.agg (encQ b)), .d (.str name)] [] (.tup [.d (.sl 3 ((kz a b name).1.map qn)), .d (.int .i64 (kz a b name).2)]) [] := by
 refine F223.goT ?_
 try (refine ev1 @encQ.eq_1 ?_; try exact True.intro)
 (repeat (with_reducible refine ob ?_)); first | refine cl F188 (qbz a ha) ?_ | refine clF F188 (qbz a ha) (fun _ => by (refine ev3 @qe.eq_1 @encQ.eq_1 @qn.eq_1 ?_; try exact True.intro)) ?_
 try (refine ev ?_; try exact True.intro)
 (repeat (with_reducible refine ob ?_)); first | refine cl F188 (qbz b hb) ?_ | refine clF F188 (qbz b hb) (fun _ => by (refine ev3 @qe.eq_1 @encQ.eq_1 @qn.eq_1 ?_; try exact True.intro)) ?_
 try (refine ev ?_; try exact True.intro)
 (repeat (with_reducible refine ob ?_)); first | refine cl F183 (qkj name) ?_ | refine clF F183 (qkj name) (fun _ => by (refine ev3 @qe.eq_1 @encQ.eq_1 @qn.eq_1 ?_; try exact True.intro)) ?_
 try (refine ev ?_; try exact True.intro)
 (repeat (with_reducible refine ob ?_))
 refine xq _ (fun h => ?_) (fun h => ?_)
 ·have hx : kz a b name = ([], 1) := by unfold kz; rw [if_pos h]
  try (refine ev2 @hx @List.map_nil.{0,0} ?_; try exact True.intro)
 have hx : kz a b name = (vm a b name 4, 0) := by unfold kz; rw [if_neg]; simp [h]
 try (refine ev ?_; try exact True.intro)
 (repeat (with_reducible refine ob ?_)); first | refine cl F185 (qvz name hn) ?_ | refine clF F185 (qvz name hn) (fun _ => by (refine ev3 @qe.eq_1 @encQ.eq_1 @qn.eq_1 ?_; try exact True.intro)) ?_
 try (refine ev ?_; try exact True.intro)
 (repeat (with_reducible refine ob ?_)); first | refine cl F189 (qkk a wa.a wa.c) ?_ | refine clF F189 (qkk a wa.a wa.c) (fun _ => by (refine ev3 @qe.eq_1 @encQ.eq_1 @qn.eq_1 ?_; try exact True.intro)) ?_
 try (refine ev ?_; try exact True.intro)
 (repeat (with_reducible refine ob ?_)); first | refine cl F189 (qkk b wb.a wb.c) ?_ | refine clF F189 (qkk b wb.a wb.c) (fun _ => by (refine ev3 @qe.eq_1 @encQ.eq_1 @qn.eq_1 ?_; try exact True.intro)) ?_
 try (refine ev ?_; try exact True.intro)
 refine clA F269 (qzi [] (nKey name) (qaf a) (qaf b) (by simp)) ?_
 try (refine ev ?_; try exact True.intro)
 refine ql (fun d : { d : Nat // d ≤ 4 } => xhv a b name d.val) (fun d => 4 - d.val) ⟨0, Nat.zero_le _⟩ ?_ (fun d => ?_)
 ·try simp only [xhv, Int.ofNat_zero, vm, encQ, go_sem, Nat.reduceAdd, Nat.reduceMul, Nat.reduceSub, Nat.reduceEqDiff, Nat.reduceLT, Nat.reduceLeDiff, Nat.reduceBEq, reduceIte, reduceCtorEq, Int.reduceAdd, Int.reduceLT, Int.reduceLE, Int.reduceGT, Int.reduceGE, Int.reduceEq, Int.reduceNe, Int.reduceBEq, Int.reduceBNe, Int.reduceToNat, Int.reduceNeg]
 obtain ⟨d, hd⟩ := d
 try (refine ev2 @xhv.eq_1 @encQ.eq_1 ?_; try exact True.intro)
 refine xq _ (fun h => ?_) (fun h => ?_)
 ·have hl : d < 4 := by simp at h; omega
  have := qfl a b name d
  try (refine ev ?_; try exact True.intro)
  (repeat (with_reducible refine ob ?_)); first | refine cl F186 (qlv name d hn hl) ?_ | refine clF F186 (qlv name d hn hl) (fun _ => by (refine ev3 @qe.eq_1 @encQ.eq_1 @qn.eq_1 ?_; try exact True.intro)) ?_
  try (refine ev ?_; try exact True.intro)
  (repeat (with_reducible refine ob ?_)); first | refine cl F191 (qkl a d ha wa) ?_ | refine clF F191 (qkl a d ha wa) (fun _ => by (refine ev3 @qe.eq_1 @encQ.eq_1 @qn.eq_1 ?_; try exact True.intro)) ?_
  try (refine ev ?_; try exact True.intro)
  (repeat (with_reducible refine ob ?_)); first | refine cl F191 (qkl b d hb wb) ?_ | refine clF F191 (qkl b d hb wb) (fun _ => by (refine ev3 @qe.eq_1 @encQ.eq_1 @qn.eq_1 ?_; try exact True.intro)) ?_
  try (refine ev ?_; try exact True.intro)
  refine clA F269 (qzi (vm a b name d) (sKey name d) (qa2 a d) (qa2 b d) (by omega)) ?_
  try (refine ev ?_; try exact True.intro)
  refine ⟨⟨d + 1, hl⟩, ?_, by dsimp only; omega⟩
  try simp only [xhv, encQ, vm, qh (show d < 9223372036854775807 by omega), go_sem, Nat.reduceAdd, Nat.reduceMul, Nat.reduceSub, Nat.reduceEqDiff, Nat.reduceLT, Nat.reduceLeDiff, Nat.reduceBEq, reduceIte, reduceCtorEq, Int.reduceAdd, Int.reduceLT, Int.reduceLE, Int.reduceGT, Int.reduceGE, Int.reduceEq, Int.reduceNe, Int.reduceBEq, Int.reduceBNe, Int.reduceToNat, Int.reduceNeg]
 ·have hl : d = 4 := by simp at h; omega
  subst hl
  try (refine ev1 @hx ?_; try exact True.intro)
end Go.Proofs.YtkcdbcbpbolgkaaGreatDoor
namespace Go.Proofs.YtkcdbcbpbolgkaaGreatDoor
open Go.Abs
set_option linter.unusedSimpArgs false
theorem qkm {α : Type} {f : α → Bool} {l : List α} {i : Nat} (h : (l.take i).all f = true) (hi : l.length ≤ i) : l.all f = true := by
 rwa [List.take_of_length_le hi] at h
noncomputable section
set_option maxRecDepth 100000
set_option linter.defProp false
def d201 := cut Tryz.prog Tryz.f201 news
@[go_sem] def E201 := qj d201
def d202 := cut Tryz.prog Tryz.f202 news
@[go_sem] def E202 := qj d202
def d264 := cut Tryz.prog Tryz.f264 news
@[go_sem] def E264 := qj d264
def d203 := cut Tryz.prog Tryz.f203 news
@[go_sem] def E203 := qj d203
def d114 := cut Tryz.prog Tryz.f114 news
@[go_sem] def E114 := qj d114
end
def qnu (p : Pk) : AObj := .row [.d (.int .i64 p.kind), .d (.int .i64 p.sess), .d (.int .i64 p.epoch), .d (.int .i64 p.from_), .d (.int .i64 p.to), .d (.int .i64 p.seq), .d (.int .i64 p.label), .d (.sl 3 (p.values.map xp)), .d (.sl 1 (p.clock.map encI))]
end Go.Proofs.YtkcdbcbpbolgkaaGreatDoor
namespace Go.Proofs.YtkcdbcbpbolgkaaGreatDoor
open Go.Abs
set_option linter.unusedSimpArgs false
noncomputable section
set_option maxRecDepth 100000
set_option linter.defProp false
def d209 := cut Tryz.prog Tryz.f209 news
@[go_sem] def E209 := qj d209
def d210 := cut Tryz.prog Tryz.f210 news
@[go_sem] def E210 := qj d210
def d124 := cut Tryz.prog Tryz.f124 news
@[go_sem] def E124 := qj d124
def d111 := cut Tryz.prog Tryz.f111 news
@[go_sem] def E111 := qj d111
def d36 := cut Tryz.prog Tryz.f36 news
@[go_sem] def E36 := qj d36
def F36 := fnC d36 follows Tryz.func36
end
def qhc (v : AV) : Bool := !decide ((v.s.length : Int) > 100)
def qnw (p : Pk) : Bool := p.values.all qhc && (decide ((p.values.length : Int) ≤ 10) && decide ((p.clock.length : Int) ≤ 10))
def q5o (p : Pk) (i : { i : Nat // (p.values.take i).all qhc = true }) : St := ⟨[(1, true, .d (.ptr 0 0)), (3, true, .d (.int .i64 (i.val : Nat)))], [qnu p], [], 1⟩
theorem q5p (p : Pk) (hp : p.values.length ≤ maxLen) : qf Tryz.prog 36 [.d (.agg (qe p))] [] (.d (.bool (qnw p))) [] := by
 unfold maxLen at hp
 first | refine F36.go ?_ | refine F36.goT ?_
 (refine ev1 @qe.eq_1 ?_; try exact True.intro)
 refine ql (q5o p) (fun i => p.values.length - i.val) ⟨0, rfl⟩ ?_ (fun i => ?_)
 ·try (refine ev2 @q5o.eq_1 @qnu.eq_1 ?_; try exact True.intro)
 obtain ⟨i, hi⟩ := i
 try (refine ev2 @q5o.eq_1 @qnu.eq_1 ?_; try exact True.intro)
 refine qr _ rfl rfl (fun h => ?_) (fun h => ?_)
 ·have hil : i < p.values.length := by simpa using h
  (refine ev2 (qi xp p.values hil) @xp.eq_1 ?_; try exact True.intro)
  (repeat (with_reducible refine ob ?_))
  refine qr _ rfl rfl (fun h2 => ?_) (fun h2 => ?_)
  ·have hg : qhc p.values[i] = false := by simp only [qhc, h2]; rfl
   (refine ev2 @qnw.eq_1 (qqk hil hg) ?_; try exact True.intro)
  ·have hg : qhc p.values[i] = true := by simp only [qhc, h2]; rfl
   try (refine ev ?_; try exact True.intro)
   refine ⟨⟨i + 1, qao hi hil hg⟩, ?_, by dsimp only; omega⟩
   (refine ev3 @q5o.eq_1 @qnu.eq_1 (qh (show i < 9223372036854775807 by omega)) ?_; try exact True.intro)
 ·have hall : p.values.all qhc = true := qkm hi (by simpa using h)
  (refine ev2 @qnw.eq_1 @hall ?_; try exact True.intro)
end Go.Proofs.YtkcdbcbpbolgkaaGreatDoor
namespace Go.Proofs.YtkcdbcbpbolgkaaGreatDoor
open Go.Abs
set_option linter.unusedSimpArgs false
structure Ue where
 sess : Int
 phase : Int
 moved : List Bool
 opened : List Bool
 deriving DecidableEq, Inhabited
def encB (b : Bool) : List D := [.bool b]
theorem qth (b : Bool) : D.noPtrL (encB b) = true := rfl
theorem qci (l : List Bool) : D.noPtrR (l.map encB) = true := xu qth l
def qp (x : Ue) : List D := [.int .i64 x.sess, .int .i64 x.phase, .sl 1 (x.moved.map encB), .sl 1 (x.opened.map encB)]
theorem qi4 (x : Ue) : D.noPtrL (qp x) = true := by simp only [qp, D.noPtrL, D.noPtr, qci, Bool.and_self]
theorem qfm (l : List Ue) : D.noPtrR (l.map qp) = true := xu qi4 l
structure Mg where
 roles : Int
 ents : List Ue
 deriving DecidableEq, Inhabited
def qx (m : Mg) : List D := [.int .i64 m.roles, .sl 4 (m.ents.map qp)]
theorem q3f (m : Mg) : D.noPtrL (qx m) = true := by simp only [qx, D.noPtrL, D.noPtr, qfm, Bool.and_self]
attribute [go_sem] qth qci qi4 qfm q3f
def Ue.Sm (x : Ue) : Prop := x.moved.length ≤ 1000 ∧ x.opened.length ≤ 1000
def Mg.Sm (m : Mg) : Prop := m.ents.length ≤ 1000 ∧ ∀ x ∈ m.ents, x.Sm
noncomputable section
set_option maxRecDepth 100000
set_option linter.defProp false
def d266 := cut Tryz.prog Tryz.f266 news
@[go_sem] def E266 := qj d266
def F266 := fnC d266 follows Tryz.func266
def d211 := cut Tryz.prog Tryz.f211 news
@[go_sem] def E211 := qj d211
def F211 := fnC d211 follows Tryz.func211
def d134 := cut Tryz.prog Tryz.f134 news
@[go_sem] def E134 := qj d134
def F134 := fnC d134 follows Tryz.func134
def d69 := cut Tryz.prog Tryz.f69 news
@[go_sem] def E69 := qj d69
def F69 := fnC d69 follows Tryz.func69
end
def hasB (v : Bool) (l : List Bool) : Bool := l.any fun b => v == b
def q5q (l : List Bool) (v : Bool) (i : { i : Nat // (l.take i).any (fun b => v == b) = false }) : St :=
 ⟨[(0, true, .d (.sl 1 (l.map encB))), (1, true, .d (.bool v)), (7, true, .d (.int .i64 l.length)), (8, true, .d (.int .i64 (i.val : Nat)))], [], [], 1⟩
theorem qti (l : List Bool) (v : Bool) (hl : l.length ≤ 1000) : qf Tryz.prog 266 [.d (.sl 1 (l.map encB)), .d (.bool v)] [] (.d (.int .i64 (idx (fun b => v == b) l))) [] := by
 refine F266.go ?_
 try (refine ev ?_; try exact True.intro)
 refine ql (q5q l v) (fun i => l.length - i.val) ⟨0, rfl⟩ ?_ (fun i => ?_)
 ·try (refine ev1 @q5q.eq_1 ?_; try exact True.intro)
 obtain ⟨i, hi⟩ := i
 try (refine ev1 @q5q.eq_1 ?_; try exact True.intro)
 (repeat (with_reducible refine ob ?_)); refine xq _ (fun h => ?_) (fun h => ?_)
 ·have hil : i < l.length := by simpa using h
  (refine ev2 (qi encB l hil) @encB.eq_1 ?_; try exact True.intro)
  (repeat (with_reducible refine ob ?_))
  refine xq _ (fun h2 => ?_) (fun h2 => ?_)
  ·try (refine ev1 (qep (f := fun b => v == b) hi hil h2) ?_; try exact True.intro)
  ·try (refine ev ?_; try exact True.intro)
   refine ⟨⟨i + 1, vk hi hil h2⟩, ?_, by dsimp only; omega⟩
   try (refine ev2 @q5q.eq_1 (qh (show i < 9223372036854775807 by omega)) ?_; try exact True.intro)
 ·have hil : l.length ≤ i := by simpa using h
  try (refine ev1 (qeo hi hil) ?_; try exact True.intro)
theorem qap (l : List Bool) (v : Bool) (hl : l.length ≤ 1000) : qf Tryz.prog 211 [.d (.sl 1 (l.map encB)), .d (.bool v)] [] (.d (.bool (hasB v l))) [] := by
 refine F211.go ?_
 try (refine ev ?_; try exact True.intro)
 (repeat (with_reducible refine ob ?_)); first | refine cl F266 (qti l v hl) ?_ | refine clF F266 (qti l v hl) (fun _ => by (refine ev2 @qp.eq_1 @qx.eq_1 ?_; try exact True.intro)) ?_
 try (refine ev2 @qs9 @hasB.eq_1 ?_; try exact True.intro)
def zg (x : Ue) : Int :=
 if !hasB false x.moved && !hasB false x.opened then 3 else if !hasB false x.moved then 2 else if hasB true x.opened then 0 else 1
theorem qbf (x : Ue) (hx : x.Sm) : qf Tryz.prog 134 [.d (.agg (qp x))] [] (.d (.int .i64 (zg x))) [] := by
 refine F134.go ?_
 try (refine ev1 @qp.eq_1 ?_; try exact True.intro)
 (repeat (with_reducible refine ob ?_)); first | refine cl F211 (qap x.moved false hx.1) ?_ | refine clF F211 (qap x.moved false hx.1) (fun _ => by (refine ev2 @qp.eq_1 @qx.eq_1 ?_; try exact True.intro)) ?_
 try (refine ev ?_; try exact True.intro)
 (repeat (with_reducible refine ob ?_)); first | refine cl F211 (qap x.opened false hx.2) ?_ | refine clF F211 (qap x.opened false hx.2) (fun _ => by (refine ev2 @qp.eq_1 @qx.eq_1 ?_; try exact True.intro)) ?_
 try (refine ev ?_; try exact True.intro)
 refine xq _ (fun h1 => ?_) (fun h1 => ?_)
 ·have e : zg x = 3 := by simp_all [zg]
  try (refine ev1 @e ?_; try exact True.intro)
 try (refine ev ?_; try exact True.intro)
 refine xq _ (fun h2 => ?_) (fun h2 => ?_)
 ·have e : zg x = 2 := by simp_all [zg]
  try (refine ev1 @e ?_; try exact True.intro)
 try (refine ev ?_; try exact True.intro)
 (repeat (with_reducible refine ob ?_)); first | refine cl F211 (qap x.opened true hx.2) ?_ | refine clF F211 (qap x.opened true hx.2) (fun _ => by (refine ev2 @qp.eq_1 @qx.eq_1 ?_; try exact True.intro)) ?_
 try (refine ev ?_; try exact True.intro)
 refine xq _ (fun h3 => ?_) (fun h3 => ?_)
 ·have e : zg x = 0 := by simp_all [zg]
  try (refine ev1 @e ?_; try exact True.intro)
 ·have e : zg x = 1 := by simp_all [zg]
  try (refine ev1 @e ?_; try exact True.intro)
theorem w01 : (IntKind.i64.wrap (0 - 1)).toNat = 0 := by decide
def qd9 (m : Mg) (i : Nat) : Bool :=
 decide ((m.ents.getD i default).sess < 1) || decide ((m.ents.getD i default).sess > 32) || (decide ((i : Int) > 0) && decide ((m.ents.getD i default).sess ≤ (m.ents.getD (i - 1) default).sess)) ||
 ((m.ents.getD i default).moved.length : Int) != m.roles || ((m.ents.getD i default).opened.length : Int) != m.roles || (m.ents.getD i default).phase == 0 || (m.ents.getD i default).phase != zg (m.ents.getD i default)
def zo (m : Mg) : Bool := qbx (fun i => !qd9 m i) m.ents.length && (decide (m.roles ≥ 1) && decide (m.roles ≤ 6))
theorem en0 (m : Mg) (h : 0 < m.ents.length) : (decide (m.ents[0].sess < 1) || decide (m.ents[0].sess > 32) || (m.ents[0].moved.length : Int) != m.roles || (m.ents[0].opened.length : Int) != m.roles || m.ents[0].phase == 0 || m.ents[0].phase != zg m.ents[0]) = qd9 m 0 := by
 simp only [qd9, x9 h, Int.ofNat_zero, decide_false, Bool.false_and, Bool.or_false, Int.natCast_zero, show ¬ ((0 : Int) > 0) by omega]
theorem enk (m : Mg) (k : Nat) (h : k + 1 < m.ents.length) (h' : k < m.ents.length) : (decide (m.ents[k+1].sess < 1) || decide (m.ents[k+1].sess > 32) || (decide ((k : Int) + 1 > 0) && decide (m.ents[k+1].sess ≤ m.ents[k].sess)) || (m.ents[k+1].moved.length : Int) != m.roles || (m.ents[k+1].opened.length : Int) != m.roles || m.ents[k+1].phase == 0 || m.ents[k+1].phase != zg m.ents[k+1]) = qd9 m (k + 1) := by
 simp only [qd9, x9 h, Nat.add_sub_cancel, x9 h', Int.natCast_add, Int.cast_ofNat_Int]
def zp (m : Mg) : AObj := .row [.d (.int .i64 m.roles), .d (.sl 4 (m.ents.map qp))]
def qko (m : Mg) (i : { i : Nat // qbx (fun i => !qd9 m i) i = true }) : St :=
 ⟨[(1, true, .d (.ptr 0 0)), (6, true, .d (.sl 4 (m.ents.map qp))), (7, true, .d (.int .i64 m.ents.length)), (8, true, .d (.int .i64 (i.val : Nat)))], [zp m], [], 1⟩
set_option maxRecDepth 10000 in
theorem yu (m : Mg) (hm : m.Sm) : qf Tryz.prog 69 [.d (.agg (qx m))] [] (.d (.bool (zo m))) [] := by
 have hl := hm.1
 refine F69.go ?_
 try (refine ev1 @qx.eq_1 ?_; try exact True.intro)
 refine ql (qko m) (fun i => m.ents.length - i.val) ⟨0, rfl⟩ ?_ (fun i => ?_)
 ·try (refine ev2 @qko.eq_1 @zp.eq_1 ?_; try exact True.intro)
 obtain ⟨i, hi⟩ := i
 try (refine ev2 @qko.eq_1 @zp.eq_1 ?_; try exact True.intro)
 (repeat (with_reducible refine ob ?_)); refine xq _ (fun h => ?_) (fun h => ?_)
 ·have hil : i < m.ents.length := by simpa using h
  have hx := hm.2 _ (List.getElem_mem hil)
  rcases Nat.eq_zero_or_pos i with h0 | h0
  ·subst h0
   (refine ev4 (qi qp m.ents hil) @qp.eq_1 @Int.toNat_zero @w01 ?_; try exact True.intro)
   (repeat (with_reducible refine ob ?_))
   (repeat (with_reducible refine ob ?_)); first | refine cl F134 (qbf m.ents[0] hx) ?_ | refine clF F134 (qbf m.ents[0] hx) (fun _ => by (refine ev2 @qp.eq_1 @qx.eq_1 ?_; try exact True.intro)) ?_
   try (refine ev ?_; try exact True.intro)
   refine ⟨fun h => by rw [h]; rfl, ?_⟩
   refine qr (qd9 m 0) rfl ?_ (fun h2 => ?_) (fun h2 => ?_)
   ·try (refine ev1 (en0 m hil) ?_; try exact True.intro)
   ·have hg : (!qd9 m 0) = false := by simp [h2]
    try (refine ev2 @zo.eq_1 (qeq (g := fun i => !qd9 m i) hil hg) ?_; try exact True.intro)
   ·try (refine ev ?_; try exact True.intro)
    refine ⟨⟨1, yt hi (by simp [h2])⟩, ?_, by dsimp only; omega⟩
    try (refine ev3 @qko.eq_1 @zp.eq_1 (show IntKind.i64.wrap 1 = 1 by decide) ?_; try exact True.intro)
  ·obtain ⟨k, rfl⟩ : ∃ k, i = k + 1 := ⟨i - 1, by omega⟩
   have hk : k < m.ents.length := by omega
   have hw : IntKind.i64.wrap (((k : Nat) : Int) + 1 - 1) = ((k : Nat) : Int) := by rw [wrap_i64 (by omega) (by omega)]; omega
   have hw2 : IntKind.i64.wrap (((k : Nat) : Int) + 1 + 1) = ((k : Nat) : Int) + 1 + 1 := by rw [wrap_i64 (by omega) (by omega)]
   (refine ev4 (qi qp m.ents hil) (qi qp m.ents hk) @hw @qp.eq_1 ?_; try exact True.intro)
   (repeat (with_reducible refine ob ?_))
   (repeat (with_reducible refine ob ?_)); first | refine cl F134 (qbf m.ents[k+1] hx) ?_ | refine clF F134 (qbf m.ents[k+1] hx) (fun _ => by (refine ev2 @qp.eq_1 @qx.eq_1 ?_; try exact True.intro)) ?_
   try (refine ev ?_; try exact True.intro)
   refine ⟨fun h => by rw [h]; rfl, ?_⟩
   refine qr (qd9 m (k + 1)) rfl ?_ (fun h2 => ?_) (fun h2 => ?_)
   ·try (refine ev1 (enk m k hil hk) ?_; try exact True.intro)
   ·have hg : (!qd9 m (k + 1)) = false := by simp [h2]
    try (refine ev2 @zo.eq_1 (qeq (g := fun i => !qd9 m i) hil hg) ?_; try exact True.intro)
   ·try (refine ev ?_; try exact True.intro)
    refine ⟨⟨k + 1 + 1, yt hi (by simp [h2])⟩, ?_, by dsimp only; omega⟩
    try (refine ev3 @qko.eq_1 @zp.eq_1 @hw2 ?_; try exact True.intro)
 ·have hil : m.ents.length ≤ i := by simpa using h
  have ha : qbx (fun i => !qd9 m i) m.ents.length = true := za.2 fun j hj => za.1 hi j (by omega)
  try (refine ev ?_; try exact True.intro)
  (repeat (with_reducible refine ob ?_))
  (refine ev2 @zo.eq_1 @ha ?_; try exact True.intro)
end Go.Proofs.YtkcdbcbpbolgkaaGreatDoor
namespace Go.Proofs.YtkcdbcbpbolgkaaGreatDoor
open Go.Abs
set_option linter.unusedSimpArgs false
noncomputable section
set_option maxRecDepth 100000
set_option linter.defProp false
def d144 := cut Tryz.prog Tryz.f144 news
@[go_sem] def E144 := qj d144
def F144 := fnC d144 follows Tryz.func144
def d143 := cut Tryz.prog Tryz.f143 news
@[go_sem] def E143 := qj d143
def F143 := fnC d143 follows Tryz.func143
def d77 := cut Tryz.prog Tryz.f77 news
@[go_sem] def E77 := qj d77
def F77 := fnC d77 follows Tryz.func77
def d145 := cut Tryz.prog Tryz.f145 news
@[go_sem] def E145 := qj d145
def F145 := fnC d145 follows Tryz.func145
def d78 := cut Tryz.prog Tryz.f78 news
@[go_sem] def E78 := qj d78
def F78 := fnC d78 follows Tryz.func78
def d101 := cut Tryz.prog Tryz.f101 news
@[go_sem] def E101 := qj d101
def F101 := fnC d101 follows Tryz.func101
def d40 := cut Tryz.prog Tryz.f40 news
@[go_sem] def E40 := qj d40
def F40 := fnC d40 follows Tryz.func40
def d43 := cut Tryz.prog Tryz.f43 news
@[go_sem] def E43 := qj d43
def F43 := fnC d43 follows Tryz.func43
end
def sObj (s : Int) : AObj := .row [.d (.int .i64 s)]
attribute [go_sem] sObj
theorem xhx (x : Ue) (s : Int) : qf Tryz.prog 144 [.d (.agg (qp x)), .d (.ptr 0 0)] [sObj s] (.d (.bool (decide (x.sess ≥ s)))) [sObj s] := by
 refine F144.go ?_
 try (refine ev2 @qp.eq_1 @sObj.eq_1 ?_; try exact True.intro)
def xhy (l : List Ue) (k : FuncId) (s : Int) (f : Ue → Bool) (i : { i : Nat // (l.take i).any f = false }) : St :=
 ⟨[(0, true, .d (.sl 4 (l.map qp))), (1, true, .d (.func (.func k) [] [.ptr 0 0])), (6, true, .d (.sl 4 (l.map qp))), (7, true, .d (.int .i64 l.length)), (8, true, .d (.int .i64 (i.val : Nat)))],
  [sObj s], [], 1⟩
theorem q8e (l : List Ue) (s : Int) (hl : l.length ≤ 1000) : qf Tryz.prog 143 [.d (.sl 4 (l.map qp)), .d (.func (.func 144) [] [.ptr 0 0])] [sObj s]
  (.d (.int .i64 (idx (fun x => decide (x.sess ≥ s)) l))) [sObj s] := by
 refine F143.go ?_
 try (refine ev ?_; try exact True.intro)
 refine ql (xhy l 144 s (fun x => decide (x.sess ≥ s))) (fun i => l.length - i.val) ⟨0, rfl⟩ ?_ (fun i => ?_)
 ·try (refine ev2 @xhy.eq_1 @sObj.eq_1 ?_; try exact True.intro)
 obtain ⟨i, hi⟩ := i
 try (refine ev1 @xhy.eq_1 ?_; try exact True.intro)
 (repeat (with_reducible refine ob ?_)); refine xq _ (fun h => ?_) (fun h => ?_)
 ·have hil : i < l.length := by simpa using h
  (refine ev2 (qi qp l hil) @qp.eq_1 ?_; try exact True.intro)
  (repeat (with_reducible refine ob ?_)); refine clO [0] F144 (xhx l[i] s) ?_ (hfit := by first | exact ⟨qc, trivial⟩ | exact ⟨qc, qc, trivial⟩ | (refine ev2 @qp.eq_1 @qx.eq_1 ?_; try exact True.intro))
  try (refine ev1 @sObj.eq_1 ?_; try exact True.intro)
  refine xq _ (fun h2 => ?_) (fun h2 => ?_)
  ·try (refine ev1 (qep (f := fun x => decide (x.sess ≥ s)) hi hil h2) ?_; try exact True.intro)
  ·try (refine ev ?_; try exact True.intro)
   refine ⟨⟨i + 1, vk hi hil h2⟩, ?_, by dsimp only; omega⟩
   try (refine ev3 @xhy.eq_1 @sObj.eq_1 (qh (show i < 9223372036854775807 by omega)) ?_; try exact True.intro)
 ·try (refine ev2 (qeo hi (by simpa using h)) @sObj.eq_1 ?_; try exact True.intro)
def xh (m : Mg) (s : Int) : Nat × Bool :=
 if m.ents.any (fun x => decide (x.sess ≥ s)) then (m.ents.findIdx (fun x => decide (x.sess ≥ s)), (m.ents.getD (m.ents.findIdx (fun x => decide (x.sess ≥ s))) default).sess == s) else (m.ents.length, false)
theorem xml {α : Type} (f : α → Bool) (l : List α) : decide (idx f l < 0) = !l.any f := by
 unfold idx
 cases l.any f <;> simp
theorem qqn {α : Type} {f : α → Bool} {l : List α} (h : l.any f = true) : idx f l = (l.findIdx f : Int) ∧ l.findIdx f < l.length := by
 refine ⟨by simp [idx, h], ?_⟩
 rw [List.findIdx_lt_length]
 simpa using h
theorem qfn (m : Mg) (s : Int) (hm : m.Sm) : qf Tryz.prog 77 [.d (.agg (qx m)), .d (.int .i64 s)] [] (.tup [.d (.int .i64 ((xh m s).1 : Nat)), .d (.bool (xh m s).2)]) [] := by
 refine F77.goT ?_
 try (refine ev1 @qx.eq_1 ?_; try exact True.intro)
 (repeat (with_reducible refine ob ?_)); refine clO [1] F143 (q8e m.ents s hm.1) ?_ (hfit := by first | exact ⟨qc, trivial⟩ | exact ⟨qc, qc, trivial⟩ | (refine ev2 @qp.eq_1 @qx.eq_1 ?_; try exact True.intro))
 try (refine ev2 @xml @sObj.eq_1 ?_; try exact True.intro)
 (repeat (with_reducible refine ob ?_)); refine xq _ (fun h => ?_) (fun h => ?_)
 ·have hf : m.ents.any (fun x => decide (x.sess ≥ s)) = false := by simpa using h
  have hu : xh m s = (m.ents.length, false) := by simp [xh, hf]
  try (refine ev1 @hu ?_; try exact True.intro)
 ·have hf : m.ents.any (fun x => decide (x.sess ≥ s)) = true := by simpa using h
  obtain ⟨h1, h2⟩ := qqn hf
  have hu : xh m s = (m.ents.findIdx (fun x => decide (x.sess ≥ s)), (m.ents.getD (m.ents.findIdx (fun x => decide (x.sess ≥ s))) default).sess == s) := by simp [xh, hf]
  rw [hu, x9 h2]
  rw [h1]
  generalize m.ents.findIdx (fun x => decide (x.sess ≥ s)) = k at h2 ⊢
  try (refine ev2 (qi qp m.ents h2) @qp.eq_1 ?_; try exact True.intro)
  (repeat (with_reducible refine ob ?_))
  try (refine ev2 (qi qp m.ents h2) @qp.eq_1 ?_; try exact True.intro)
  first | omega | exact ⟨by omega, by omega⟩ | skip
theorem q5r (l m : List Bool) (hl : l.length ≤ 1000) :
  qf Tryz.prog 145 [.d (.sl 1 (l.map encB)), .d (.sl 1 (m.map encB))] [] (.d (.bool (decide (l = m)))) [] := by
 refine F145.go ?_
 try (refine ev ?_; try exact True.intro)
 refine xq _ (fun h => ?_) (fun h => ?_)
 ·have hne : decide (l = m) = false := by rw [decide_eq_false_iff_not]; rintro rfl; simp at h
  try (refine ev1 @hne ?_; try exact True.intro)
 ·have hlm : l.length = m.length := by simp at h; omega
  try (refine ev ?_; try exact True.intro)
  refine ql (Seq 1 encB l m) (fun i => l.length - i.val) ⟨0, rfl⟩ ?_ (fun i => ?_)
  ·try (refine ev1 @Seq.eq_1 ?_; try exact True.intro)
  ·obtain ⟨i, hi⟩ := i
   try (refine ev1 @Seq.eq_1 ?_; try exact True.intro)
   refine xq _ (fun h => ?_) (fun h => ?_)
   ·have hil : i < l.length := by simpa using h
    have him : i < m.length := by omega
    try (refine ev3 (qi encB l hil) (qi encB m him) @encB.eq_1 ?_; try exact True.intro)
    refine ⟨by omega, by omega, ?_⟩
    refine xq _ (fun h2 => ?_) (fun h2 => ?_)
    ·have hne : l[i] ≠ m[i] := by simpa using h2
     try (refine ev1 (qvo hil him hne) ?_; try exact True.intro)
    ·have he : l[i] = m[i] := by simpa using h2
     try (refine ev ?_; try exact True.intro)
     refine ⟨⟨i + 1, w8 hi hil him he⟩, ?_, by dsimp only; omega⟩
     try (refine ev2 @Seq.eq_1 (qh (show i < 9223372036854775807 by omega)) ?_; try exact True.intro)
   ·have he : decide (l = m) = true := by
     have : l.length ≤ i := by simpa using h
     rw [List.take_of_length_le this, List.take_of_length_le (by omega)] at hi
     simp [hi]
    try (refine ev1 @he ?_; try exact True.intro)
theorem xkh (x y : Ue) : (x.sess == y.sess && x.phase == y.phase && decide (x.moved = y.moved) && decide (x.opened = y.opened)) = decide (x = y) := by
 obtain ⟨a1, a2, a3, a4⟩ := x
 obtain ⟨b1, b2, b3, b4⟩ := y
 rw [Bool.eq_iff_iff]
 simp [and_assoc]
theorem qlw (x y : Ue) (hx : x.Sm) : qf Tryz.prog 78 [.d (.agg (qp x)), .d (.agg (qp y))] [] (.d (.bool (decide (x = y)))) [] := by
 refine F78.go ?_
 try (refine ev1 @qp.eq_1 ?_; try exact True.intro)
 (repeat (with_reducible refine ob ?_)); first | refine cl F145 (q5r x.moved y.moved hx.1) ?_ | refine clF F145 (q5r x.moved y.moved hx.1) (fun _ => by (refine ev2 @qp.eq_1 @qx.eq_1 ?_; try exact True.intro)) ?_
 try (refine ev ?_; try exact True.intro)
 (repeat (with_reducible refine ob ?_))
 (repeat (with_reducible refine ob ?_)); first | refine cl F145 (q5r x.opened y.opened hx.2) ?_ | refine clF F145 (q5r x.opened y.opened hx.2) (fun _ => by (refine ev2 @qp.eq_1 @qx.eq_1 ?_; try exact True.intro)) ?_
 try (refine ev1 @xkh ?_; try exact True.intro)
def SeqE (l m : List Ue) (i : { i : Nat // qbx (eqAt (fun x y => decide (x = y)) l m) i = true }) : St :=
 ⟨[(1, true, .d (.sl 4 (m.map qp))), (2, true, .d (.func (.func 78) [] [])), (15, true, .d (.sl 4 (l.map qp))), (16, true, .d (.int .i64 l.length)), (17, true, .d (.int .i64 (i.val : Nat)))], [], [], 1⟩
set_option maxRecDepth 10000 in
theorem q5s (l m : List Ue) (hl : l.length ≤ 1000) (hp : ∀ x ∈ l, x.Sm) :
  qf Tryz.prog 101 [.d (.sl 4 (l.map qp)), .d (.sl 4 (m.map qp)), .d (.func (.func 78) [] [])] [] (.d (.bool (decide (l = m)))) [] := by
 refine F101.go ?_
 try (refine ev ?_; try exact True.intro)
 refine xq _ (fun h => ?_) (fun h => ?_)
 ·have hne : decide (l = m) = false := by rw [decide_eq_false_iff_not]; rintro rfl; simp at h
  try (refine ev1 @hne ?_; try exact True.intro)
 ·have hlm : l.length = m.length := by simp at h; omega
  try (refine ev ?_; try exact True.intro)
  refine ql (SeqE l m) (fun i => l.length - i.val) ⟨0, rfl⟩ ?_ (fun i => ?_)
  ·try (refine ev1 @SeqE.eq_1 ?_; try exact True.intro)
  ·obtain ⟨i, hi⟩ := i
   try (refine ev1 @SeqE.eq_1 ?_; try exact True.intro)
   refine xq _ (fun h => ?_) (fun h => ?_)
   ·have hil : i < l.length := by simpa using h
    have him : i < m.length := by omega
    (refine ev3 (qi qp l hil) (qi qp m him) @qp.eq_1 ?_; try exact True.intro)
    (repeat (with_reducible refine ob ?_))
    (repeat (with_reducible refine ob ?_)); first | refine cl F78 (qlw l[i] m[i] (hp _ (List.getElem_mem hil))) ?_ | refine clF F78 (qlw l[i] m[i] (hp _ (List.getElem_mem hil))) (fun _ => by (refine ev2 @qp.eq_1 @qx.eq_1 ?_; try exact True.intro)) ?_
    try (refine ev ?_; try exact True.intro)
    refine xq _ (fun h2 => ?_) (fun h2 => ?_)
    ·have hne : l[i] ≠ m[i] := by simpa using h2
     try (refine ev1 (qvo hil him hne) ?_; try exact True.intro)
    ·have he : l[i] = m[i] := by simpa using h2
     try (refine ev ?_; try exact True.intro)
     refine ⟨⟨i + 1, yt hi (by simp [eqAt, hil, him, he])⟩, ?_, by dsimp only; omega⟩
     try (refine ev2 @SeqE.eq_1 (qh (show i < 9223372036854775807 by omega)) ?_; try exact True.intro)
   ·have he : decide (l = m) = true := by
     have : l.length ≤ i := by simpa using h
     rw [← xb5]
     simp only [eqBy, hlm, beq_self_eq_true, Bool.true_and]
     exact za.2 fun j hj => za.1 hi j (by omega)
    try (refine ev1 @he ?_; try exact True.intro)
theorem xki (a b : Mg) : (a.roles == b.roles && decide (a.ents = b.ents)) = decide (a = b) := by
 obtain ⟨a1, a2⟩ := a
 obtain ⟨b1, b2⟩ := b
 rw [Bool.eq_iff_iff]
 simp
theorem q8f (a b : Mg) (ha : a.Sm) : qf Tryz.prog 40 [.d (.agg (qx a)), .d (.agg (qx b))] [] (.d (.bool (decide (a = b)))) [] := by
 refine F40.go ?_
 try (refine ev1 @qx.eq_1 ?_; try exact True.intro)
 (repeat (with_reducible refine ob ?_)); first | refine cl F101 (q5s a.ents b.ents ha.1 ha.2) ?_ | refine clF F101 (q5s a.ents b.ents ha.1 ha.2) (fun _ => by (refine ev2 @qp.eq_1 @qx.eq_1 ?_; try exact True.intro)) ?_
 try (refine ev ?_; try exact True.intro)
 exact xki a b
def qqo (n : Int) : Mg × Int := if decide (n < 1) || decide (n > 6) then (⟨0, []⟩, 2) else (⟨n, []⟩, 0)
theorem q5t (n : Int) : qf Tryz.prog 43 [.d (.int .i64 n)] [] (.tup [.d (.agg (qx (qqo n).1)), .d (.int .i64 (qqo n).2)]) [] := by
 refine F43.goT ?_
 try (refine ev ?_; try exact True.intro)
 (repeat (with_reducible refine ob ?_)); refine xq _ (fun h => ?_) (fun h => ?_)
 ·try (refine ev4 @qqo.eq_1 @h @qx.eq_1 @List.map_nil.{0,0} ?_; try exact True.intro)
 ·try (refine ev4 @qqo.eq_1 @h @qx.eq_1 @List.map_nil.{0,0} ?_; try exact True.intro)
end Go.Proofs.YtkcdbcbpbolgkaaGreatDoor
namespace Go.Proofs.YtkcdbcbpbolgkaaGreatDoor
open Go.Abs
set_option linter.unusedSimpArgs false
noncomputable section
set_option maxRecDepth 100000
set_option linter.defProp false
def xpj := cut Tryz.prog Tryz.f224 news [7]
@[go_sem] def xs0 := qj xpj
def xmm := fnC xpj follows Tryz.func224
def xpk := cut Tryz.prog Tryz.f225 news [7]
@[go_sem] def xs1 := qj xpk
def xmn := fnC xpk follows Tryz.func225
def d225 := cut Tryz.prog Tryz.f225 news
@[go_sem] def E225 := qj d225
def F225 := fnC d225 follows Tryz.func225
end
theorem qzk (l : List Ue) (hl : l.length ≤ 1000) : qf Tryz.prog 224 [.d (.sl 4 (l.map qp))] [] (.uni 0 4 (l.map qp)) [] := by
 refine xmm.go ?_
 try (refine ev ?_; try exact True.intro)
 refine qln rfl rfl (fun b hb => ?_)
 try (refine ev ?_; try exact True.intro)
 (repeat (with_reducible refine ob ?_)); refine xq _ (fun h => ?_) (fun h => ?_)
 ·try (refine ev1 (hb h) ?_; try exact True.intro)
 ·try (refine ev ?_; try exact True.intro)
  omega
theorem qtj (l : List Bool) (hl : l.length ≤ 1000) : qf Tryz.prog 225 [.d (.sl 1 (l.map encB))] [] (.uni 0 1 (l.map encB)) [] := by
 refine xmn.go ?_
 try (refine ev ?_; try exact True.intro)
 refine qln rfl rfl (fun b hb => ?_)
 try (refine ev ?_; try exact True.intro)
 (repeat (with_reducible refine ob ?_)); refine xq _ (fun h => ?_) (fun h => ?_)
 ·try (refine ev1 (hb h) ?_; try exact True.intro)
 ·try (refine ev ?_; try exact True.intro)
  omega
theorem yo (l : List Bool) (hl : l.length ≤ 1000) : qf Tryz.prog 225 [.d (.sl 1 (l.map encB))] [] (.d (.sl 1 (l.map encB))) [] := by
 refine F225.go ?_
 try (refine ev ?_; try exact True.intro)
 refine qln rfl rfl (fun b hb => ?_)
 try (refine ev ?_; try exact True.intro)
 (repeat (with_reducible refine ob ?_)); refine xq _ (fun h => ?_) (fun h => ?_)
 ·try (refine ev1 (hb h) ?_; try exact True.intro)
 ·try (refine ev ?_; try exact True.intro)
  omega
end Go.Proofs.YtkcdbcbpbolgkaaGreatDoor
namespace Go.Proofs.YtkcdbcbpbolgkaaGreatDoor
open Go.Abs
set_option linter.unusedSimpArgs false
noncomputable section
set_option maxRecDepth 100000
set_option linter.defProp false
def xpl := cut Tryz.prog Tryz.f141 news [] [2, 7] true
@[go_sem] def xs2 := qj xpl
end
theorem q8g (b es : Nat) (rows : List (List D)) : qdz b (.uni 0 es rows) = .uni b es rows := by simp [qdz, wg, renT, ASlot.toks]
theorem q8h (b es : Nat) (rows : List (List D)) : qdz b (.own 0 es rows) = .own b es rows := by simp [qdz, wg, renT, ASlot.toks]
attribute [go_sem] q8g q8h
def jk (l : List Ue) : List ASlot := (l.map qp).flatten.map ASlot.d
theorem qzl (l : List Ue) : List.map ASlot.d (l.map qp).flatten = jk l := rfl
theorem x8 (x : Ue) (l : List Ue) : jk (x :: l) = .d (.int .i64 x.sess) :: .d (.int .i64 x.phase) :: .d (.sl 1 (x.moved.map encB)) :: .d (.sl 1 (x.opened.map encB)) :: jk l := rfl
theorem qea : ∀ l : List Ue, (jk l).length = l.length * 4
 | [] => rfl
 | x :: l => by rw [x8]; simp only [List.length_cons, qea l]; omega
theorem qhd : ∀ (l : List Ue) (i j : Nat) (_ : i < l.length) (_ : j < 4), (jk l)[i * 4 + j]? = some (.d ((qp l[i]).getD j .nilsl))
 | x :: l, 0, j, _, hj => by
  rw [x8]
  have : j = 0 ∨ j = 1 ∨ j = 2 ∨ j = 3 := by omega
  rcases this with rfl | rfl | rfl | rfl <;> rfl
 | x :: l, i + 1, j, hi, hj => by
  rw [x8, show (i + 1) * 4 + j = (i * 4 + j) + 1 + 1 + 1 + 1 by omega]
  simp only [List.getElem?_cons_succ]
  exact qhd l i j (by simpa using hi) hj
theorem qtk (l : List Ue) (i j : Nat) (hi : i < l.length) (hj : j < 4) : (jk l).getD (i * 4 + j) .bad = .d ((qp l[i]).getD j .nilsl) := by
 rw [List.getD_eq_getElem?_getD, qhd l i j hi hj]; rfl
theorem qzm (l : List Ue) (i j : Nat) (hi : i < l.length) (hj : j < 4) : (jk l).set (i * 4 + j) (.d ((qp l[i]).getD j .nilsl)) = jk l := by
 refine List.ext_getElem? fun k => ?_
 rw [List.getElem?_set]
 split
 ·rename_i h; subst h
  rw [qhd l i j hi hj]
  have := (List.getElem?_eq_some_iff.1 (qhd l i j hi hj)).1
  simp [this]
 ·rfl
theorem qn8 {l : List Ue} {i : Nat} (hi : i < l.length) : (jk l).getD (i * 4 + 2) .bad = .d (.sl 1 (l[i].moved.map encB)) := qtk l i 2 hi (by decide)
theorem qn9 {l : List Ue} {i : Nat} (hi : i < l.length) : (jk l).getD (i * 4 + 3) .bad = .d (.sl 1 (l[i].opened.map encB)) := qtk l i 3 hi (by decide)
theorem qf6 {l : List Ue} {i : Nat} (hi : i < l.length) : (jk l).set (i * 4 + 2) (.d (.sl 1 (l[i].moved.map encB))) = jk l := qzm l i 2 hi (by decide)
theorem qf7 {l : List Ue} {i : Nat} (hi : i < l.length) : (jk l).set (i * 4 + 3) (.d (.sl 1 (l[i].opened.map encB))) = jk l := qzm l i 3 hi (by decide)
theorem qqp (keep : Nat → Bool) : ∀ l : List Ue, csW keep (jk l) (jk l)
 | [] => by simp only [jk, List.map_nil, List.flatten_nil, csW]
 | x :: l => by
  rw [x8]
  have := qqp keep l
  try (refine ev1 @this ?_; try exact True.intro)
theorem qf8 : ∀ l : List Ue, qa7 (jk l) (jk l) = []
 | [] => rfl
 | x :: l => by
  rw [x8]
  have := qf8 l
  try (refine ev1 @this ?_; try exact True.intro)
theorem qlx : ∀ l : List Ue, (jk l).flatMap ASlot.toks = []
 | [] => rfl
 | x :: l => by
  rw [x8]
  have := qlx l
  try (refine ev2 @List.flatMap_cons.{0,0} @this ?_; try exact True.intro)
attribute [go_sem] qqp qf8 qlx qea
theorem q3g {keep : Nat → Bool} {s : ASlot} (hs : qc1 keep s s) : ∀ (l : List ASlot) (i : Nat), csW keep l l → csW keep (l.set i s) (l.set i s)
 | [], _, h => h
 | _ :: _, 0, h => ⟨hs, h.2⟩
 | _ :: l, i + 1, h => ⟨h.1, q3g hs l i h.2⟩
theorem qi5 {s : ASlot} (hs : vt s s = []) : ∀ (l : List ASlot) (i : Nat), qa7 l l = [] → qa7 (l.set i s) (l.set i s) = []
 | [], _, h => h
 | x :: l, 0, h => by
  rw [List.set_cons_zero, qcs]
  rw [qcs, List.append_eq_nil_iff] at h
  rw [hs, h.2]; rfl
 | x :: l, i + 1, h => by
  rw [List.set_cons_succ, qcs]
  rw [qcs, List.append_eq_nil_iff] at h
  rw [h.1, qi5 hs l i h.2]; rfl
theorem qv1 {s : ASlot} (hs : s.toks = []) : ∀ (l : List ASlot) (i : Nat), l.flatMap ASlot.toks = [] → (l.set i s).flatMap ASlot.toks = []
 | [], _, h => h
 | x :: l, 0, h => by
  rw [List.set_cons_zero, List.flatMap_cons]
  rw [List.flatMap_cons, List.append_eq_nil_iff] at h
  rw [hs, h.2]; rfl
 | x :: l, i + 1, h => by
  rw [List.set_cons_succ, List.flatMap_cons]
  rw [List.flatMap_cons, List.append_eq_nil_iff] at h
  rw [h.1, qv1 hs l i h.2]; rfl
noncomputable section
set_option maxRecDepth 100000
set_option linter.defProp false
def xpn := cut Tryz.prog Tryz.f141 news [] [2, 7] true
@[go_sem] def xs3 := qj xpn
def xpo := fnC xpn follows Tryz.func141
end
def refA (l : List ASlot) (k a b : Nat) (x : Ue) : List ASlot := (l.set (k * 4 + 2) (.d (.ref a 0 1 x.moved.length))).set (k * 4 + 3) (.d (.ref b 0 1 x.opened.length))
theorem xhz (l : List ASlot) (k a b : Nat) (x : Ue) : (refA l k a b x).length = l.length := by simp [refA]
theorem xmo {l : List Ue} {k a b i : Nat} {x : Ue} (hik : i ≠ k) (hi : i < l.length) : (refA (jk l) k a b x).getD (i * 4 + 2) .bad = .d (.sl 1 (l[i].moved.map encB)) := by
 rw [← qn8 hi, List.getD_eq_getElem?_getD, List.getD_eq_getElem?_getD, refA, List.getElem?_set_ne (by omega), List.getElem?_set_ne (by omega)]
theorem xmp {l : List Ue} {k a b i : Nat} {x : Ue} (hik : i ≠ k) (hi : i < l.length) : (refA (jk l) k a b x).getD (i * 4 + 3) .bad = .d (.sl 1 (l[i].opened.map encB)) := by
 rw [← qn9 hi, List.getD_eq_getElem?_getD, List.getD_eq_getElem?_getD, refA, List.getElem?_set_ne (by omega), List.getElem?_set_ne (by omega)]
theorem q3h {l : List Ue} {k a b i : Nat} {x : Ue} (hik : i ≠ k) (hi : i < l.length) : (refA (jk l) k a b x).set (i * 4 + 2) (.d (.sl 1 (l[i].moved.map encB))) = refA (jk l) k a b x := by
 rw [refA, List.set_comm _ _ (show k * 4 + 3 ≠ i * 4 + 2 by omega), List.set_comm _ _ (show k * 4 + 2 ≠ i * 4 + 2 by omega), qf6 hi]
theorem q3i {l : List Ue} {k a b i : Nat} {x : Ue} (hik : i ≠ k) (hi : i < l.length) : (refA (jk l) k a b x).set (i * 4 + 3) (.d (.sl 1 (l[i].opened.map encB))) = refA (jk l) k a b x := by
 rw [refA, List.set_comm _ _ (show k * 4 + 3 ≠ i * 4 + 3 by omega), List.set_comm _ _ (show k * 4 + 2 ≠ i * 4 + 3 by omega), qf7 hi]
theorem qoa {keep : Nat → Bool} {l : List Ue} {k a b : Nat} {x : Ue} (ha : keep a = true) (hb : keep b = true) : csW keep (refA (jk l) k a b x) (refA (jk l) k a b x) :=
 q3g (by try (refine ev2 @ha @hb ?_; try exact True.intro)) _ _ (q3g (by try (refine ev2 @ha @hb ?_; try exact True.intro)) _ _ (qqp keep l))
theorem qzn {l : List Ue} {k a b : Nat} {x : Ue} : qa7 (refA (jk l) k a b x) (refA (jk l) k a b x) = [] := qi5 rfl _ _ (qi5 rfl _ _ (qf8 l))
theorem xcn {l : List Ue} {k a b : Nat} {x : Ue} : (refA (jk l) k a b x).flatMap ASlot.toks = [] := qv1 rfl _ _ (qv1 rfl _ _ (qlx l))
theorem xh0 (l : List Bool) : List.map ASlot.d (l.map encB).flatten = l.map fun b => .d (.bool b) := by
 induction l with
 | nil => rfl
 | cons b l ih => simp only [List.map_cons, List.flatten_cons, encB, List.cons_append, List.nil_append, ih]
theorem q5u (keep : Nat → Bool) : ∀ l : List Bool, csW keep (l.map fun b => .d (.bool b)) (l.map fun b => .d (.bool b))
 | [] => trivial
 | x :: l => by
  have := q5u keep l
  try (refine ev2 @List.map_cons.{0,0} @this ?_; try exact True.intro)
theorem qm7 : ∀ l : List Bool, qa7 (l.map fun b => .d (.bool b)) (l.map fun b => .d (.bool b)) = []
 | [] => rfl
 | x :: l => by
  have := qm7 l
  try (refine ev2 @List.map_cons.{0,0} @this ?_; try exact True.intro)
theorem qzo : ∀ l : List Bool, ((l.map fun b => .d (.bool b)).flatMap ASlot.toks : List Nat) = []
 | [] => rfl
 | x :: l => by
  have := qzo l
  try (refine ev3 @List.map_cons.{0,0} @List.flatMap_cons.{0,0} @this ?_; try exact True.intro)
attribute [go_sem] xhz qoa qzn xcn xh0 q5u qm7 qzo
theorem xh1 (l : List ASlot) (k a b : Nat) (x : Ue) : (l.set (k * 4 + 2) (.d (.ref a 0 1 x.moved.length))).set (k * 4 + 3) (.d (.ref b 0 1 x.opened.length)) = refA l k a b x := rfl
theorem xs4 {l : List ASlot} {a b : Nat} {u v x y : ASlot} (h : a ≠ b) : (((l.set a u).set b v).set a x).set b y = (l.set a x).set b y := by
 rw [List.set_comm _ _ (Ne.symm h), List.set_set, List.set_set]
def qzp (m : Mg) (k : Nat) (x : Ue) (i : { i : Nat // i ≤ m.ents.length }) : St :=
 ⟨[(1, true, .d (.ptr 0 0)), (2, true, .d (.ptr 1 0)), (11, true, .d (.int .i64 m.ents.length)), (12, true, .d (.int .i64 (i.val : Nat)))],
  if i.val ≤ k then [.row [.d (.int .i64 m.roles), .d (.ref 2 0 4 m.ents.length)], .row [.d (.int .i64 0), .d .nilsl], .row (jk m.ents)]
  else [.row [.d (.int .i64 m.roles), .d (.ref 2 0 4 m.ents.length)], .row [.d (.int .i64 0), .d .nilsl], .row (refA (jk m.ents) k 3 4 x), .row (x.moved.map fun b => .d (.bool b)), .row (x.opened.map fun b => .d (.bool b))], [], 1⟩
set_option maxRecDepth 10000 in
theorem q3j (m : Mg) (hm : m.Sm) (k : Nat) (hk : k < m.ents.length) : qf Tryz.prog 141 [.d (.agg (qx m))] [] (.d (.agg [.int .i64 m.roles, .ref 2 0 4 m.ents.length]))
  [.none, .none, .row (refA (jk m.ents) k 3 4 m.ents[k]), .row (m.ents[k].moved.map fun b => .d (.bool b)), .row (m.ents[k].opened.map fun b => .d (.bool b))] := by
 have hl := hm.1
 refine xpo.go ?_
 try (refine ev1 @qx.eq_1 ?_; try exact True.intro)
 refine clA xmm (qzk m.ents hm.1) ?_
 try (refine ev ?_; try exact True.intro)
 (repeat (with_reducible refine ob ?_))
 refine qp0 (.cell 0 1) _ 4 (m.ents.map qp) ?_
 refine pu ?_
 try (refine ev ?_; try exact True.intro)
 refine ql (qzp m k m.ents[k]) (fun i => m.ents.length - i.val) ⟨0, Nat.zero_le _⟩ ?_ (fun i => ?_)
 ·try (refine ev3 @qzp.eq_1 @qzl @Nat.zero_le ?_; try exact True.intro)
 obtain ⟨i, hi⟩ := i
 rcases Nat.lt_trichotomy i k with hik | hik | hik
 ·have hle : i ≤ k := by omega
  have hle1 : i + 1 ≤ k := by omega
  try (refine ev2 @qzp.eq_1 @hle ?_; try exact True.intro)
  (repeat (with_reducible refine ob ?_)); refine xq _ (fun h => ?_) (fun h => ?_)
  ·have hil : i < m.ents.length := by simpa using h
   have hx := hm.2 _ (List.getElem_mem hil)
   try (refine ev ?_; try exact True.intro)
   (repeat (with_reducible refine ob ?_))
   rw [qn8 hil]
   (repeat (with_reducible refine ob ?_)); first | refine cl F225 (yo m.ents[i].moved hx.1) ?_ | refine clF F225 (yo m.ents[i].moved hx.1) (fun _ => by (refine ev2 @qp.eq_1 @qx.eq_1 ?_; try exact True.intro)) ?_
   try (refine ev ?_; try exact True.intro)
   (repeat (with_reducible refine ob ?_))
   rw [qn9 hil]
   (repeat (with_reducible refine ob ?_)); first | refine cl F225 (yo m.ents[i].opened hx.2) ?_ | refine clF F225 (yo m.ents[i].opened hx.2) (fun _ => by (refine ev2 @qp.eq_1 @qx.eq_1 ?_; try exact True.intro)) ?_
   try (refine ev2 (qf6 hil) (qf7 hil) ?_; try exact True.intro)
   (repeat (with_reducible refine ob ?_))
   try (refine ev2 (qf6 hil) (qf7 hil) ?_; try exact True.intro)
   (repeat (with_reducible refine ob ?_))
   try (refine ev2 (qf6 hil) (qf7 hil) ?_; try exact True.intro)
   refine pu ?_
   try (refine ev ?_; try exact True.intro)
   refine ⟨⟨i + 1, hil⟩, ?_, by dsimp only; omega⟩
   try (refine ev3 @qzp.eq_1 @hle1 (qh (show i < 9223372036854775807 by omega)) ?_; try exact True.intro)
  ·exfalso; simp at h; omega
 ·subst hik
  have hni : ¬ (i + 1 ≤ i) := by omega
  try (refine ev2 @qzp.eq_1 @Nat.le_refl ?_; try exact True.intro)
  (repeat (with_reducible refine ob ?_)); refine xq _ (fun h => ?_) (fun h => ?_)
  ·have hil : i < m.ents.length := hk
   have hx := hm.2 _ (List.getElem_mem hil)
   try (refine ev ?_; try exact True.intro)
   (repeat (with_reducible refine ob ?_))
   rw [qn8 hil]
   refine clA xmn (qtj m.ents[i].moved hx.1) ?_
   try (refine ev ?_; try exact True.intro)
   (repeat (with_reducible refine ob ?_))
   rw [qn9 hil]
   refine clA xmn (qtj m.ents[i].opened hx.2) ?_
   try (refine ev ?_; try exact True.intro)
   (repeat (with_reducible refine ob ?_))
   try (refine ev ?_; try exact True.intro)
   (repeat (with_reducible refine ob ?_))
   try (refine ev2 @List.length_set.{0} @qea ?_; try exact True.intro)
   (repeat (with_reducible refine ob ?_))
   have hf : (jk m.ents).length = m.ents.length * 4 := qea _
   refine qp0 (.cell 2 (i * 4 + 2)) 240 1 (m.ents[i].moved.map encB) ?_ (hp := by simp only [St.slotAt, qg, List.getElem?_cons_succ, List.getElem?_cons_zero, AObj.cells, List.getD_eq_getElem?_getD]; rw [List.getElem?_set_ne (by omega), List.getElem?_set_self (by rw [hf]; omega)]; rfl)
   try (refine ev2 @List.set_comm.{0} @List.length_set.{0} ?_; try exact True.intro)
   refine qp0 (.cell 2 (i * 4 + 3)) 320 1 (m.ents[i].opened.map encB) ?_ (hp := by simp only [St.slotAt, qg, List.getElem?_cons_succ, List.getElem?_cons_zero, AObj.cells, List.getD_eq_getElem?_getD]; rw [List.getElem?_set_ne (by omega), List.getElem?_set_self (by rw [List.length_set, hf]; omega)]; rfl)
   try simp only [xs4 (show i * 4 + 2 ≠ i * 4 + 3 by omega), xh1, go_sem, Nat.reduceAdd, Nat.reduceMul, Nat.reduceSub, Nat.reduceEqDiff, Nat.reduceLT, Nat.reduceLeDiff, Nat.reduceBEq, reduceIte, reduceCtorEq, Int.reduceAdd, Int.reduceLT, Int.reduceLE, Int.reduceGT, Int.reduceGE, Int.reduceEq, Int.reduceNe, Int.reduceBEq, Int.reduceBNe, Int.reduceToNat, Int.reduceNeg]
   refine pu ?_
   try (refine ev ?_; try exact True.intro)
   refine ⟨⟨i + 1, hil⟩, ?_, by dsimp only; omega⟩
   try (refine ev3 @qzp.eq_1 @hni (qh (show i < 9223372036854775807 by omega)) ?_; try exact True.intro)
   exact qoa rfl rfl
  ·exfalso; simp at h; omega
 ·have hle : ¬ i ≤ k := by omega
  have hle1 : ¬ i + 1 ≤ k := by omega
  try (refine ev2 @qzp.eq_1 @hle ?_; try exact True.intro)
  (repeat (with_reducible refine ob ?_)); refine xq _ (fun h => ?_) (fun h => ?_)
  ·have hil : i < m.ents.length := by simpa using h
   have hx := hm.2 _ (List.getElem_mem hil)
   have hik' : i ≠ k := by omega
   try (refine ev ?_; try exact True.intro)
   (repeat (with_reducible refine ob ?_))
   rw [xmo hik' hil]
   (repeat (with_reducible refine ob ?_)); first | refine cl F225 (yo m.ents[i].moved hx.1) ?_ | refine clF F225 (yo m.ents[i].moved hx.1) (fun _ => by (refine ev2 @qp.eq_1 @qx.eq_1 ?_; try exact True.intro)) ?_
   try (refine ev ?_; try exact True.intro)
   (repeat (with_reducible refine ob ?_))
   rw [xmp hik' hil]
   (repeat (with_reducible refine ob ?_)); first | refine cl F225 (yo m.ents[i].opened hx.2) ?_ | refine clF F225 (yo m.ents[i].opened hx.2) (fun _ => by (refine ev2 @qp.eq_1 @qx.eq_1 ?_; try exact True.intro)) ?_
   try simp only [q3h hik' hil, q3i hik' hil, go_sem, Nat.reduceAdd, Nat.reduceMul, Nat.reduceSub, Nat.reduceEqDiff, Nat.reduceLT, Nat.reduceLeDiff, Nat.reduceBEq, reduceIte, reduceCtorEq, Int.reduceAdd, Int.reduceLT, Int.reduceLE, Int.reduceGT, Int.reduceGE, Int.reduceEq, Int.reduceNe, Int.reduceBEq, Int.reduceBNe, Int.reduceToNat, Int.reduceNeg]
   (repeat (with_reducible refine ob ?_))
   try simp only [q3h hik' hil, q3i hik' hil, go_sem, Nat.reduceAdd, Nat.reduceMul, Nat.reduceSub, Nat.reduceEqDiff, Nat.reduceLT, Nat.reduceLeDiff, Nat.reduceBEq, reduceIte, reduceCtorEq, Int.reduceAdd, Int.reduceLT, Int.reduceLE, Int.reduceGT, Int.reduceGE, Int.reduceEq, Int.reduceNe, Int.reduceBEq, Int.reduceBNe, Int.reduceToNat, Int.reduceNeg]
   (repeat (with_reducible refine ob ?_))
   try simp only [q3h hik' hil, q3i hik' hil, go_sem, Nat.reduceAdd, Nat.reduceMul, Nat.reduceSub, Nat.reduceEqDiff, Nat.reduceLT, Nat.reduceLeDiff, Nat.reduceBEq, reduceIte, reduceCtorEq, Int.reduceAdd, Int.reduceLT, Int.reduceLE, Int.reduceGT, Int.reduceGE, Int.reduceEq, Int.reduceNe, Int.reduceBEq, Int.reduceBNe, Int.reduceToNat, Int.reduceNeg]
   refine pu ?_
   try (refine ev ?_; try exact True.intro)
   refine ⟨⟨i + 1, hil⟩, ?_, by dsimp only; omega⟩
   try (refine ev3 @qzp.eq_1 @hle1 (qh (show i < 9223372036854775807 by omega)) ?_; try exact True.intro)
   exact qoa rfl rfl
  ·have hil : i = m.ents.length := by
    have : m.ents.length ≤ i := by simpa using h
    omega
   subst hil
   try (refine ev ?_; try exact True.intro)
   refine pu ?_
   try (refine ev ?_; try exact True.intro)
   exact qoa rfl rfl
end Go.Proofs.YtkcdbcbpbolgkaaGreatDoor
namespace Go.Proofs.YtkcdbcbpbolgkaaGreatDoor
open Go.Abs
set_option linter.unusedSimpArgs false
noncomputable section
set_option maxRecDepth 100000
set_option linter.defProp false
def d229 := cut Tryz.prog Tryz.f229 news
@[go_sem] def E229 := qj d229
def d230 := cut Tryz.prog Tryz.f230 news
@[go_sem] def E230 := qj d230
def d149 := cut Tryz.prog Tryz.f149 news
@[go_sem] def E149 := qj d149
def d81 := cut Tryz.prog Tryz.f81 news
@[go_sem] def E81 := qj d81
def d82 := cut Tryz.prog Tryz.f82 news
@[go_sem] def E82 := qj d82
def d99 := cut Tryz.prog Tryz.f99 news
@[go_sem] def E99 := qj d99
def d34 := cut Tryz.prog Tryz.f34 news
@[go_sem] def E34 := qj d34
def d23 := cut Tryz.prog Tryz.f23 news
@[go_sem] def E23 := qj d23
def d94 := cut Tryz.prog Tryz.f94 news
@[go_sem] def E94 := qj d94
end
def idB (b : Bool) : Bool := b
theorem qly (l : List Bool) : hasB false l = !l.all idB := by
 induction l with
 | nil => rfl
 | cons b l ih => cases b <;> simp_all [hasB, idB]
theorem qzr (l : List Bool) : hasB true l = l.any idB := by
 induction l with
 | nil => rfl
 | cons b l ih => cases b <;> simp_all [hasB, idB]
end Go.Proofs.YtkcdbcbpbolgkaaGreatDoor
namespace Go.Proofs.YtkcdbcbpbolgkaaGreatDoor
open Go.Abs
set_option linter.unusedSimpArgs false
noncomputable section
set_option maxRecDepth 100000
set_option linter.defProp false
def d18 := cut Tryz.prog Tryz.f18 news
@[go_sem] def E18 := qj d18
def F18 := fnC d18 follows Tryz.func18
def d200 := cut Tryz.prog Tryz.f200 news
@[go_sem] def E200 := qj d200
def d26 := cut Tryz.prog Tryz.f26 news
@[go_sem] def E26 := qj d26
def d35 := cut Tryz.prog Tryz.f35 news
@[go_sem] def E35 := qj d35
end
def qhe (s r label : Int) : Pk := ⟨3, s, 0, r, 0, 0, label, [], []⟩
def qlz (s label : Int) (marks : List Bool) (r : Nat) : List Pk := if marks.getD r true then [] else [qhe s r label]
def qqq (s label : Int) (marks : List Bool) (n : Nat) : List Pk := (List.range n).flatMap (qlz s label marks)
def x7 (x : Ue) : List Bool := if x.phase != 1 then x.opened else x.moved
def yj (x : Ue) : Int := if x.phase != 1 then 2 else 1
def qv2 (x : Ue) : List Pk := qqq x.sess (yj x) (x7 x) (x7 x).length
def yk (m : Mg) (n : Nat) : List Pk := (List.range n).flatMap fun i => qv2 (m.ents.getD i default)
def xo (m : Mg) : List Pk := if zo m then yk m m.ents.length else []
theorem qzs (m : Mg) : yk m 0 = [] := rfl
theorem xco (s label : Int) (marks : List Bool) : qqq s label marks 0 = [] := rfl
theorem qdv (s label : Int) (marks : List Bool) (n : Nat) : qqq s label marks (n + 1) = qqq s label marks n ++ qlz s label marks n := by simp [qqq, List.range_succ]
theorem qdm (m : Mg) (n : Nat) : yk m (n + 1) = yk m n ++ qv2 (m.ents.getD n default) := by simp [yk, List.range_succ]
theorem qhf (s label : Int) (marks : List Bool) : ∀ n, (qqq s label marks n).length ≤ n
 | 0 => by simp [qqq]
 | n + 1 => by
  rw [qdv, List.length_append]
  have := qhf s label marks n
  have : (qlz s label marks n).length ≤ 1 := by unfold qlz; split <;> simp
  omega
theorem qqr (x : Ue) (hx : x.Sm) : (x7 x).length ≤ 1000 := by unfold x7; split; exact hx.2; exact hx.1
theorem xcp (x : Ue) (hx : x.Sm) : (qv2 x).length ≤ 1000 := Nat.le_trans (qhf _ _ _ _) (qqr x hx)
theorem qet (m : Mg) (hm : m.Sm) : ∀ n, n ≤ m.ents.length → (yk m n).length ≤ n * 1000
 | 0, _ => by simp [yk]
 | n + 1, h => by
  have h1 : n < m.ents.length := h
  rw [qdm, List.length_append, x9 h1]
  have := qet m hm n (by omega)
  have := xcp _ (hm.2 _ (List.getElem_mem h1))
  omega
def qgt (x : Ue) : AObj := .row [.d (.int .i64 x.sess), .d (.int .i64 x.phase), .d (.sl 1 (x.moved.map encB)), .d (.sl 1 (x.opened.map encB))]
def xcq (m : Mg) (i : { i : Nat // i ≤ m.ents.length }) : St :=
 ⟨[(2, true, .d .nilsl), (3, true, .own 0 9 ((yk m i.val).map qe)), (14, true, .d (.sl 4 (m.ents.map qp))), (15, true, .d (.int .i64 m.ents.length)), (16, true, .d (.int .i64 (i.val : Nat)))], [zp m], [0], 1⟩
def qse (m : Mg) (i : Nat) (x : Ue) (r : { r : Nat // r ≤ (x7 x).length }) : St :=
 ⟨[(2, true, .d .nilsl), (3, true, .own 0 9 ((yk m i ++ qqq x.sess (yj x) (x7 x) r.val).map qe)), (5, true, .d (.ptr 1 0)), (7, true, .d (.int .i64 (yj x))), (14, true, .d (.sl 4 (m.ents.map qp))), (15, true, .d (.int .i64 m.ents.length)), (16, true, .d (.int .i64 (i : Nat))),
  (27, true, .d (.sl 1 ((x7 x).map encB))), (28, true, .d (.int .i64 (x7 x).length)), (29, true, .d (.int .i64 (r.val : Nat)))], [zp m, qgt x], [0], 1⟩
theorem xkk (m : Mg) (hm : m.Sm) (i : Nat) (hi : i < m.ents.length) (x : Ue) (hx : x.Sm) (Q : SExit → St → Prop) (st : St) (h0 : Weak 0 st (qse m i x ⟨0, Nat.zero_le _⟩))
  (hQ : ∀ b, Q .normal ⟨(30, true, .d (.bool b)) :: (qse m i x ⟨(x7 x).length, Nat.le_refl _⟩).fr, [zp m, qgt x], [0], 2⟩) : AWp Tryz.prog 0 (.block 2 (.loop (.seq (.region (d18.reg 11) 0 []) (.seq (.cond (.t 30) .skip (.exit 2)) (.seq (.block 3 (.seq (.region (d18.reg 12) 0 []) (.seq (.region (d18.reg 13) 0 []) (.cond (.t 35) (.region (d18.reg 14) 0 []) .skip)))) (.region (d18.reg 15) 0 [])))))) Q st := by
 have hml := qqr x hx
 have hol := qet m hm i (by omega)
 have hl := hm.1
 try (refine ev ?_; try exact True.intro)
 refine ql (qse m i x) (fun r => (x7 x).length - r.val) ⟨0, Nat.zero_le _⟩ h0 (fun r => ?_)
 obtain ⟨r, hr⟩ := r
 try (refine ev3 @qse.eq_1 @zp.eq_1 @qgt.eq_1 ?_; try exact True.intro)
 (repeat (with_reducible refine ob ?_)); refine xq _ (fun h => ?_) (fun h => ?_)
 ·have hil : r < (x7 x).length := by simpa using h
  (refine ev2 (qi encB (x7 x) hil) @encB.eq_1 ?_; try exact True.intro)
  (repeat (with_reducible refine ob ?_))
  refine xq _ (fun h2 => ?_) (fun h2 => ?_)
  ·have hb : (x7 x)[r] = false := by simpa using h2
   have ha : qlz x.sess (yj x) (x7 x) r = [qhe x.sess r (yj x)] := by simp [qlz, hil, hb]
   have hlt := qhf x.sess (yj x) (x7 x) r
   try (refine ev ?_; try exact True.intro)
   (repeat (with_reducible refine ob ?_))
   refine ⟨⟨r + 1, hil⟩, ?_, by dsimp only; omega⟩
   try simp only [qse, zp, qgt, qdv, ha, ← List.append_assoc, List.map_append, List.map_cons, List.map_nil, qhe, qe, qh (show r < 9223372036854775807 by omega), go_sem, Nat.reduceAdd, Nat.reduceMul, Nat.reduceSub, Nat.reduceEqDiff, Nat.reduceLT, Nat.reduceLeDiff, Nat.reduceBEq, reduceIte, reduceCtorEq, Int.reduceAdd, Int.reduceLT, Int.reduceLE, Int.reduceGT, Int.reduceGE, Int.reduceEq, Int.reduceNe, Int.reduceBEq, Int.reduceBNe, Int.reduceToNat, Int.reduceNeg]
  ·have hb : (x7 x)[r] = true := by simpa using h2
   have ha : qlz x.sess (yj x) (x7 x) r = [] := by simp [qlz, hil, hb]
   try (refine ev ?_; try exact True.intro)
   refine ⟨⟨r + 1, hil⟩, ?_, by dsimp only; omega⟩
   try (refine ev7 @qse.eq_1 @zp.eq_1 @qgt.eq_1 @qdv @ha @List.append_nil.{0} (qh (show r < 9223372036854775807 by omega)) ?_; try exact True.intro)
 ·have hil : r = (x7 x).length := by
   have : (x7 x).length ≤ r := by simpa using h
   omega
  subst hil
  try (refine ev ?_; try exact True.intro)
  exact hQ _
set_option maxRecDepth 10000 in
theorem qf9 (m : Mg) (hm : m.Sm) : qf Tryz.prog 18 [.d (.agg (qx m))] [] (.d (.sl 9 ((xo m).map qe))) [] := by
 have hl := hm.1
 refine F18.go ?_
 try (refine ev1 @qx.eq_1 ?_; try exact True.intro)
 (repeat (with_reducible refine ob ?_)); first | refine cl F69 (yu m hm) ?_ | refine clF F69 (yu m hm) (fun _ => by (refine ev3 @qp.eq_1 @qx.eq_1 @qe.eq_1 ?_; try exact True.intro)) ?_
 try (refine ev ?_; try exact True.intro)
 refine xq _ (fun hv => ?_) (fun hv => ?_)
 ·have hu : xo m = [] := by simp at hv; simp [xo, hv]
  try (refine ev2 @hu @List.map_nil.{0,0} ?_; try exact True.intro)
 have hu : xo m = yk m m.ents.length := by simp at hv; simp [xo, hv]
 rw [hu]
 try (refine ev ?_; try exact True.intro)
 refine ql (xcq m) (fun i => m.ents.length - i.val) ⟨0, Nat.zero_le _⟩ ?_ (fun i => ?_)
 ·try (refine ev4 @xcq.eq_1 @zp.eq_1 @qzs @List.map_nil.{0,0} ?_; try exact True.intro)
 obtain ⟨i, hi⟩ := i
 try (refine ev2 @xcq.eq_1 @zp.eq_1 ?_; try exact True.intro)
 (repeat (with_reducible refine ob ?_)); refine xq _ (fun h => ?_) (fun h => ?_)
 ·have hil : i < m.ents.length := by simpa using h
  have hx := hm.2 _ (List.getElem_mem hil)
  (refine ev2 (qi qp m.ents hil) @qp.eq_1 ?_; try exact True.intro)
  (repeat (with_reducible refine ob ?_))
  refine xq _ (fun h2 => ?_) (fun h2 => ?_)
  ·have e1 : x7 m.ents[i] = m.ents[i].opened := by simp only [x7, h2, if_true]
   have e2 : yj m.ents[i] = 2 := by simp only [yj, h2, if_true]
   try (refine ev ?_; try exact True.intro)
   refine xkk m hm i hil m.ents[i] hx _ _ ?_ (fun b => ?_)
   ·try (refine ev7 @qse.eq_1 @zp.eq_1 @qgt.eq_1 @e1 @e2 @xco @List.append_nil.{0} ?_; try exact True.intro)
   ·try (refine ev3 @qse.eq_1 @zp.eq_1 @qgt.eq_1 ?_; try exact True.intro)
    refine ⟨⟨i + 1, hil⟩, ?_, by dsimp only; omega⟩
    try (refine ev6 @xcq.eq_1 @zp.eq_1 @qdm (x9 hil) @qv2.eq_1 (qh (show i < 9223372036854775807 by omega)) ?_; try exact True.intro)
  ·have e1 : x7 m.ents[i] = m.ents[i].moved := by simp only [x7, h2]; rfl
   have e2 : yj m.ents[i] = 1 := by simp only [yj, h2]; rfl
   try (refine ev ?_; try exact True.intro)
   refine xkk m hm i hil m.ents[i] hx _ _ ?_ (fun b => ?_)
   ·try (refine ev7 @qse.eq_1 @zp.eq_1 @qgt.eq_1 @e1 @e2 @xco @List.append_nil.{0} ?_; try exact True.intro)
   ·try (refine ev3 @qse.eq_1 @zp.eq_1 @qgt.eq_1 ?_; try exact True.intro)
    refine ⟨⟨i + 1, hil⟩, ?_, by dsimp only; omega⟩
    try (refine ev6 @xcq.eq_1 @zp.eq_1 @qdm (x9 hil) @qv2.eq_1 (qh (show i < 9223372036854775807 by omega)) ?_; try exact True.intro)
 ·have hil : i = m.ents.length := by
   have : m.ents.length ≤ i := by simpa using h
   omega
  subst hil
  try (refine ev ?_; try exact True.intro)
end Go.Proofs.YtkcdbcbpbolgkaaGreatDoor
namespace Go.Proofs.YtkcdbcbpbolgkaaGreatDoor
open Go.Abs
set_option linter.unusedSimpArgs false
set_option linter.unusedVariables false
def Sorted (l : List En) : Prop := l.Pairwise fun a b => cmpB a.1 b.1 < 0
theorem Sorted.le {l : List En} (h : Sorted l) : l.Pairwise fun a b => cmpB a.1 b.1 ≤ 0 := h.imp fun hab => Int.le_of_lt hab
theorem xcs (k : List UInt8) : pre [] k = true := by simp [pre]
def eSet (x : En) : List En → List En
 | [] => [x]
 | y :: l => if Op.bytesLess y.1 x.1 = true then y :: eSet x l else if y.1 = x.1 then x :: l else x :: y :: l
def eDel (k : List UInt8) (l : List En) : List En := l.filter fun e => !(e.1 == k)
def eOp (l : List En) (o : OpS) : List En := if o.del then eDel o.key l else eSet (o.key, o.val) l
def qat : List En → List OpS → List En × Bool
 | l, [] => (l, true)
 | l, o :: r => if (eOp l o).length > 400 then ([], false) else qat (eOp l o) r
def jj (m : Cont) : List En := qc3 m []
theorem qkp {m : Cont} : (jj m).length = m.l.length := by
 have h1 : preL [] m.l = m.l.map enOf := by
  unfold preL
  congr 1
  exact List.filter_eq_self.2 fun x _ => xcs _
 rw [jj, qc3, (vz _).length_eq, h1, List.length_map]
end Go.Proofs.YtkcdbcbpbolgkaaGreatDoor
namespace Go.Proofs.YtkcdbcbpbolgkaaGreatDoor
open Go.Abs
set_option linter.unusedSimpArgs false
set_option linter.unusedVariables false
noncomputable section
set_option maxRecDepth 100000
set_option linter.defProp false
def d150 := cut Tryz.prog Tryz.f150 news
@[go_sem] def E150 := qj d150
def d165 := cut Tryz.prog Tryz.f165 news
@[go_sem] def E165 := qj d165
def d163 := cut Tryz.prog Tryz.f163 news
@[go_sem] def E163 := qj d163
def d164 := cut Tryz.prog Tryz.f164 news
@[go_sem] def E164 := qj d164
def d162 := cut Tryz.prog Tryz.f162 news
@[go_sem] def E162 := qj d162
def d89 := cut Tryz.prog Tryz.f89 news
@[go_sem] def E89 := qj d89
end
end Go.Proofs.YtkcdbcbpbolgkaaGreatDoor
namespace Go.Proofs.YtkcdbcbpbolgkaaGreatDoor
open Go.Abs
set_option linter.unusedSimpArgs false
set_option linter.unusedVariables false
structure Rd where
 b : List UInt8
 pos : Nat
 failed : Bool
 deriving DecidableEq, Inhabited
structure Rd.Ok (r : Rd) : Prop where
 len : r.b.length ≤ 1000000000
 pos : r.pos ≤ r.b.length
noncomputable section
set_option maxRecDepth 100000
set_option linter.defProp false
def d177 := cut Tryz.prog Tryz.f177 news
@[go_sem] def E177 := qj d177
def d288 := cut Tryz.prog Tryz.f288 news
@[go_sem] def E288 := qj d288
def d247 := cut Tryz.prog Tryz.f247 news
@[go_sem] def E247 := qj d247
def d180 := cut Tryz.prog Tryz.f180 news
@[go_sem] def E180 := qj d180
end
noncomputable section
set_option maxRecDepth 100000
set_option linter.defProp false
def d244 := cut Tryz.prog Tryz.f244 news
@[go_sem] def E244 := qj d244
end
theorem q3m (u d i : Nat) (hu : u < 2 ^ i) : u ||| d * 2 ^ i = u + d * 2 ^ i := by
 have := Nat.shiftLeft_add_eq_or_of_lt hu d
 rw [Nat.shiftLeft_eq] at this
 rw [Nat.or_comm, ← this, Nat.add_comm]
end Go.Proofs.YtkcdbcbpbolgkaaGreatDoor
namespace Go.Proofs.YtkcdbcbpbolgkaaGreatDoor
open Go.Abs
set_option linter.unusedSimpArgs false
set_option linter.unusedVariables false
attribute [go_sem] exists_eq' List.getD_nil
noncomputable section
set_option maxRecDepth 100000
set_option linter.defProp false
def d246 := cut Tryz.prog Tryz.f246 news
@[go_sem] def E246 := qj d246
def d295 := cut Tryz.prog Tryz.f295 news
@[go_sem] def E295 := qj d295
def d292 := cut Tryz.prog Tryz.f292 news
@[go_sem] def E292 := qj d292
def d245 := cut Tryz.prog Tryz.f245 news
@[go_sem] def E245 := qj d245
def d294 := cut Tryz.prog Tryz.f294 news
@[go_sem] def E294 := qj d294
def d243 := cut Tryz.prog Tryz.f243 news
@[go_sem] def E243 := qj d243
def d291 := cut Tryz.prog Tryz.f291 news
@[go_sem] def E291 := qj d291
def d293 := cut Tryz.prog Tryz.f293 news
@[go_sem] def E293 := qj d293
def d178 := cut Tryz.prog Tryz.f178 news
@[go_sem] def E178 := qj d178
def d179 := cut Tryz.prog Tryz.f179 news
@[go_sem] def E179 := qj d179
def d250 := cut Tryz.prog Tryz.f250 news
@[go_sem] def E250 := qj d250
def d251 := cut Tryz.prog Tryz.f251 news
@[go_sem] def E251 := qj d251
def d249 := cut Tryz.prog Tryz.f249 news
@[go_sem] def E249 := qj d249
end
end Go.Proofs.YtkcdbcbpbolgkaaGreatDoor
namespace Go.Proofs.YtkcdbcbpbolgkaaGreatDoor
open Go.Abs
set_option linter.unusedSimpArgs false
set_option linter.unusedVariables false
noncomputable section
set_option maxRecDepth 100000
set_option linter.defProp false
def d182 := cut Tryz.prog Tryz.f182 news
@[go_sem] def E182 := qj d182
end
end Go.Proofs.YtkcdbcbpbolgkaaGreatDoor
namespace Go.Proofs.YtkcdbcbpbolgkaaGreatDoor
open Go.Abs
set_option linter.unusedSimpArgs false
set_option linter.unusedVariables false
end Go.Proofs.YtkcdbcbpbolgkaaGreatDoor
namespace Go.Proofs.YtkcdbcbpbolgkaaGreatDoor
open Go.Abs
set_option linter.unusedSimpArgs false
set_option linter.unusedVariables false
noncomputable section
set_option maxRecDepth 100000
set_option linter.defProp false
def d96 := cut Tryz.prog Tryz.f96 news
@[go_sem] def E96 := qj d96
end
end Go.Proofs.YtkcdbcbpbolgkaaGreatDoor
namespace Go.Proofs.YtkcdbcbpbolgkaaGreatDoor
open Go.Abs
set_option linter.unusedSimpArgs false
set_option linter.unusedVariables false
noncomputable section
set_option maxRecDepth 100000
set_option linter.defProp false
def d309 := cut Tryz.prog Tryz.f309 news
@[go_sem] def E309 := qj d309
def d257 := cut Tryz.prog Tryz.f257 news
@[go_sem] def E257 := qj d257
def d259 := cut Tryz.prog Tryz.f259 news
@[go_sem] def E259 := qj d259
def d260 := cut Tryz.prog Tryz.f260 news
@[go_sem] def E260 := qj d260
def d258 := cut Tryz.prog Tryz.f258 news
@[go_sem] def E258 := qj d258
def d98 := cut Tryz.prog Tryz.f98 news
@[go_sem] def E98 := qj d98
end
noncomputable section
set_option maxRecDepth 100000
set_option linter.defProp false
def d194 := cut Tryz.prog Tryz.f194 news
@[go_sem] def E194 := qj d194
end
end Go.Proofs.YtkcdbcbpbolgkaaGreatDoor
