/- Texts Wk, Wl, Wm, Za, Zb, Zc, Wn, Zd, Ze, Zf, Yd, Ya, Yb, Yc, Vb, Vd, Cg, Ch, Ci, Cj, Vr, Ua. -/
import Derived.Test.YtinnaedmdoengaaGreatMqn
import Derived.Calls
import Derived.Orders
import Derived.Tactics
import Derived.Laws.AppendOwn
import Derived.Laws.Slices
import Derived.Laws.Closers25
import Derived.Laws.StructEq
import Derived.Laws.BytesString
import Derived.Laws.CopyRow
import Derived.MapKept
import Derived.Maps.RangeRun
import Derived.TacticsIn
import Derived.OrdersIn
import Derived.RangeFuncRecord
import Derived.RangeFuncLeaves
import Derived.IntWalk
import Derived.ProofKit
import Derived.OpenShut
import Derived.Carry
import Derived.Test.YtinnaedmdoengaaGreatProg
import Derived.KernelRfl
import Derived.OwnWalkIn
import Derived.TacticsInMore
import Derived.LoopIn
import Derived.WalkKit
import Derived.Lib.Strings
import Derived.Lib.Slices
import Derived.Lib.Walk
import Derived.Lib.Bytealg
import Derived.Shelf.SlSortCmp.WholeK
import Derived.Shelf.SlSortCmp.NoneTotal

namespace Go.Proofs.YtinnaedmdoengaaGreat
open Go.Abs Go.Shelf Go.RowKit Go.Lib Go.Sort
set_option linter.unusedSimpArgs false
set_option linter.unusedVariables false
theorem q9s (x : RowE) : (encR x).length = 2 := rfl
theorem q9t (x : RowE) : ∀ v ∈ encR x, v.oneCell' = true := by
 intro v hv
 simp [encR] at hv
 rcases hv with rfl | rfl
 ·rfl
 ·exact x.2.2
set_option maxHeartbeats 1000000 in
theorem xdh (l : List En) (hn : (l.map (·.1)).Nodup) (hl : l.length ≤ 1000000) :
  qg Tryz.prog 76 [.d (.ref 0 0 2 l.length), .d (.func (.func 77) [] [])] [.row ((qdc l).map .d)] (.tup []) [.row ((qdc (qct l)).map .d)] := by
 intro g w vs hd hlen hv ho
 match vs, hlen with
 | [v0, v1], _ =>
 have h1 := k8 (zn (hv 1 v1 _ rfl rfl))
 have hf1 : v1 = .func (.func 77) #[] #[] := by
  cases h1 with
  | func _ vf vc _ _ hf hc =>
   have e1 : vf = [] := List.eq_nil_of_length_eq_zero (by simpa using hf)
   have e2 : vc = [] := List.eq_nil_of_length_eq_zero (by simpa using hc)
   subst e1; subst e2; rfl
 subst hf1
 have h0 := k8 (zn (hv 0 v0 _ rfl rfl))
 generalize hln : l.length = n at h0
 have none_ : ∀ (p : Option Addr) (cap : Nat), n = 0 → v0 = .slice p 0 cap → Calls Tryz.prog 76 [v0, .func (.func 77) #[] #[]].toArray w fun e w' =>
   ∃ v g' live', e = .returned v ∧ G g w g' w' ∧ Dom g' w' ∧ (∀ t ∈ (ASlot.tup []).toks, t ∈ live') ∧ RS g' w' live' v (.tup []) ∧ ObjsOk g' w' live' [.row ((qdc (qct l)).map .d)] := by
  intro p cap h0 hv0
  have hl0 : l = [] := List.eq_nil_of_length_eq_zero (by omega)
  subst hl0; subst hv0
  have hcon := AnyF.slices_SortFunc_none sortE p cap (.func (.func 77) #[] #[]) w
  change Calls Tryz.prog 76 _ _ _ at hcon
  refine hcon.mono ?_
  rintro e w' ⟨rfl, rfl⟩
  have hs0 : qct [] = [] := by simp [qct]
  rw [hs0]
  exact ⟨_, g, [], rfl, .refl _ _, hd, by simp [ASlot.toks], ⟨[], rfl, rfl, fun i u s hu => by simp at hu⟩, ho⟩
 cases h0 with
 | refnil a => exact none_ a 0 rfl rfl
 | ref b _ _ _ _ cap hg hcap hmx hsz =>
 by_cases hn0 : n = 0
 ·subst hn0; exact none_ _ cap rfl rfl
 obtain ⟨b', hb', c, et, hh, hcs, hcc⟩ := (ho.objs 0 _ rfl (by simp)).resolve_right (fun h => by
  have := h.1
  simp at this
  have := congrArg List.length this
  simp [qfp] at this; omega)
 have : b' = b := ho.inj b' b 0 hb' hg
 subst this
 rw [List.length_map, qfp] at hcs
 have hcell : ∀ (i : Nat) (e : En), l[i]? = some e → c[2 * i]? = some (.string ⟨e.1.toArray⟩) ∧ ∃ v, c[2 * i + 1]? = some v ∧ v.oneCell' = true ∧ RV g w v (.sl 1 (qd e.2)) := by
  intro i e he
  obtain ⟨k1, k2⟩ := qo5 l i e he
  obtain ⟨u, u1, _, u3⟩ := hcc (2 * i) (.d (.str e.1)) (by rw [List.getElem?_map, k1]; rfl)
  obtain ⟨v, v1, v2, v3⟩ := hcc (2 * i + 1) (.d (.sl 1 (qd e.2))) (by rw [List.getElem?_map, k2]; rfl)
  have hu := qco (show RV g w u (.str e.1) from u3)
  subst hu
  exact ⟨u1, v, v1, v2, v3⟩
 let mkR : Nat → RowE := fun i => match l[i]?, c[2 * i + 1]? with
  | some e, some v => if h : v.oneCell' = true then (e.1, ⟨v, h⟩) else default
  | _, _ => default
 let P : List (RowE × En) := (List.range n).map fun i => (mkR i, l.getD i ([], []))
 have hPR : ∀ z ∈ P, z.1.1 = z.2.1 ∧ RV g w z.1.2.1 (.sl 1 (qd z.2.2)) := by
  intro z hz
  obtain ⟨i, hi, rfl⟩ := List.mem_map.1 hz
  have hil : i < l.length := by rw [hln]; exact List.mem_range.1 hi
  have he := List.getElem?_eq_getElem hil
  obtain ⟨_, v, v1, v2, v3⟩ := hcell i _ he
  have : mkR i = (l[i].1, ⟨v, v2⟩) := by simp only [mkR, he, v1, dif_pos v2]
  have e2 : l.getD i ([], []) = l[i] := by simp [List.getD, he]
  simp only [this, e2]
  exact ⟨trivial, v3⟩
 have hPs : P.map (·.2) = l := by
  apply List.ext_getElem?
  intro i
  simp only [P, List.map_map, List.getElem?_map]
  rcases Nat.lt_or_ge i n with h | h
  ·rw [List.getElem?_range h]
   have he := List.getElem?_eq_getElem (show i < l.length by omega)
   simp [he, List.getD]
  ·rw [List.getElem?_eq_none (by simpa using h), List.getElem?_eq_none (by omega)]; rfl
 obtain ⟨d, hdd⟩ : ∃ d : Array RowE, d = (P.map (·.1)).toArray := ⟨_, rfl⟩
 have hds : d.size = n := by rw [hdd]; simp [P]
 have hdi : ∀ i, i < n → d[i]! = mkR i := fun i hi => by rw [hdd]; simp [P, hi]
 have hblk : b' < w.heap.size := (Array.getElem?_eq_some_iff.1 hh).1
 have hfl : ∀ t, t < n * 2 → (flatK encR 2 d)[t]! = c.getD t default := by
  intro t ht
  rw [get_flatK encR 2 d t (by rw [hds]; exact ht), hdi _ (by omega)]
  have hil : t / 2 < l.length := by omega
  have he := List.getElem?_eq_getElem hil
  obtain ⟨k1, v, v1, v2, v3⟩ := hcell (t / 2) _ he
  have hm : mkR (t / 2) = (l[t / 2].1, ⟨v, v2⟩) := by simp only [mkR, he, v1, dif_pos v2]
  rw [hm]
  rcases Nat.mod_two_eq_zero_or_one t with hp | hp
  ·have e1 : 2 * (t / 2) = t := by omega
   rw [e1] at k1
   rw [hp, Array.getD_eq_getD_getElem?, k1]
   rfl
  ·have e1 : 2 * (t / 2) + 1 = t := by omega
   rw [e1] at v1
   rw [hp, Array.getD_eq_getD_getElem?, v1]
   rfl
 have hH : HoldsK encR 2 w b' 0 d := by
  intro j hj
  rw [size_flatK, hds] at hj
  refine ⟨?_, by simp [World.frozen?, hh]⟩
  rw [hfl j hj]
  have hjc : j < c.size := by omega
  simp [World.cell?, hh, hjc]
 have eg : ∀ args w, (callFunc 77 args).run Tryz.prog w = .ok (.enter 77 args) w := enters_of Tryz.func77 (by kernel_rfl) rfl
 have hcon := AnyQ.slices_SortFunc sortE 2 Tryz.isAgg130 Tryz.sizeOf130 encR q9s q9t cmpR xhh 77 #[] b' 0 cap d w eg (fun _ _ _ _ x y => q9r x y _) hH hblk (by omega)
 change Calls Tryz.prog 76 _ _ _ at hcon
 rw [hds] at hcon
 refine hcon.mono ?_
 rintro e w' ⟨rfl, d', m, os, hperm, hsort, hw'⟩
 obtain ⟨hps, _, hpl⟩ := hperm
 rw [hds] at hps
 have hp2 : d'.toList.Perm (P.map (·.1)) := by
  have e1 : d'.extract 0 n = d' := by rw [← hps]; simp
  have e2 : d.extract 0 n = d := by rw [← hds]; simp
  rw [e1, e2] at hpl
  rw [hdd] at hpl
  simpa using hpl
 obtain ⟨Q, q1, q2⟩ := q5b (fun z : RowE × En => z.1) hp2 rfl
 have hQl : Q.length = n := by rw [q1.length_eq]; simp [P]
 have hesl : (Q.map (·.2)).Perm l := by
  have := q1.map (fun z : RowE × En => z.2)
  rwa [hPs] at this
 have hQ : ∀ (i : Nat) (z : RowE × En), Q[i]? = some z → d'[i]! = z.1 ∧ z.1.1 = z.2.1 ∧ RV g w z.1.2.1 (.sl 1 (qd z.2.2)) := by
  intro i z hz
  have h1 := congrArg (fun l => l[i]?) q2
  simp only [List.getElem?_map, hz, Option.map_some, Array.getElem?_toList] at h1
  have hi : i < d'.size := by rw [hps, ← hQl]; exact (List.getElem?_eq_some_iff.1 hz).1
  refine ⟨?_, hPR z (q1.mem_iff.1 (List.mem_of_getElem? hz))⟩
  rw [getElem!_pos d' i hi]
  rw [Array.getElem?_eq_getElem hi] at h1
  simpa using h1.symm
 have hsorted : (Q.map (·.2)).Pairwise fun a b => cmpB a.1 b.1 ≤ 0 := by
  rw [List.pairwise_iff_getElem]
  intro i j hi hj hij
  simp only [List.length_map] at hi hj
  have zi := hQ i _ (List.getElem?_eq_getElem hi)
  have zj := hQ j _ (List.getElem?_eq_getElem hj)
  have hs := hsort i j (Nat.zero_le _) hij (by omega)
  rw [zi.1, zj.1] at hs
  have hs2 : ¬ cmpB Q[j].1.1 Q[i].1.1 < 0 := of_decide_eq_false hs
  rw [zi.2.1, zj.2.1] at hs2
  simp only [List.getElem_map]
  exact qby.1 hs2
 have hes : Q.map (·.2) = qct l := by
  have hn2 : ((Q.map (·.2)).map (·.1)).Nodup := (hesl.map (fun x : En => x.1)).nodup_iff.2 hn
  exact qfq (hesl.trans (jv l).symm) hn2 hsorted (qbr l)
 have hwh : w'.heap = (w.heap.modify b' (onCells (putCells (fun v : Value => v) 0 (flatK encR 2 d')))) ++ os := by subst hw'; rfl
 have hother : ∀ k, k ≠ b' → k < w.heap.size → w'.heap[k]? = w.heap[k]? := by
  intro k hk hkl
  rw [hwh, Array.getElem?_append, if_pos (by simpa using hkl), Array.getElem?_modify, if_neg (Ne.symm hk)]
 have hself : w'.heap[b']? = some (.cells (putCells (fun v : Value => v) 0 (flatK encR 2 d') c) et (0, 0)) := by
  rw [hwh, Array.getElem?_append, if_pos (by simpa using hblk), Array.getElem?_modify, if_pos rfl, hh]
  rfl
 have hsize : w.heap.size ≤ w'.heap.size := by
  subst hw'
  simp [sortWorldK, grow, putRowK, putRow, mapBlock, Sort.ahead]
 have htop : w'.os = w.os ∧ w'.tape = w.tape ∧ w'.output = w.output := by subst hw'; exact ⟨rfl, rfl, rfl⟩
 have hne : ∀ k r, g k = r → (∀ i, r ≠ .obj i) → k ≠ b' := fun k r h hr he => by rw [he, hg] at h; exact hr 0 h.symm
 have hG : G g w g w' := by
  refine ⟨htop.1, htop.2.1, htop.2.2, hsize, fun k hk hgk => ⟨hother k (hne k _ hgk (by simp)) hk, hgk⟩, fun k r hk hgk => ⟨hother k (hne k _ hgk (by simp)) hk, hgk⟩,
   fun k r t hk hgk => ⟨r, some t, hgk, Nat.le_refl _, fun i u _ hu => by rw [jj (hother k (hne k _ hgk (by simp)) hk)]; exact hu⟩, fun k id hk hgk => ⟨hgk, ?_⟩⟩
  by_cases hkb : k = b'
  ·subst hkb
   rw [jq hh, jq hself]
   simp [putCells]
  ·exact Nat.le_of_eq (zg (hother k hkb hk)).symm
 refine ⟨_, g, [], rfl, hG, fun k hk => hd k (by omega), by simp [ASlot.toks], ⟨[], rfl, rfl, fun i u s hu => by simp at hu⟩, ⟨fun oid o hid hno => ?_, ho.inj, fun b oid hb => ?_⟩⟩
 ·match oid, hid with
  | 0, hid =>
   simp at hid
   subst hid
   have hle := (jv l).length_eq
   refine .inl ⟨b', hg, _, et, hself, by simp [putCells, qfp, hle]; omega, fun i s hi => ?_⟩
   rw [List.getElem?_map, Option.map_eq_some_iff] at hi
   obtain ⟨x, hx, rfl⟩ := hi
   have hil : i < n * 2 := by
    have := (List.getElem?_eq_some_iff.1 hx).1
    rw [qfp, hle, hln] at this
    exact this
   have hQi : i / 2 < Q.length := by omega
   obtain ⟨z1, z2, z3⟩ := hQ (i / 2) _ (List.getElem?_eq_getElem hQi)
   have hz : (qct l)[i / 2]? = some Q[i / 2].2 := by rw [← hes, List.getElem?_map, List.getElem?_eq_getElem hQi]; rfl
   obtain ⟨k1, k2⟩ := qo5 _ _ _ hz
   have hcv : (putCells (fun v : Value => v) 0 (flatK encR 2 d') c)[i]? = some ((encR Q[i / 2].1)[i % 2]!) := by
    have hic : i < c.size := by omega
    simp only [putCells, Array.getElem?_mapIdx, Array.getElem?_eq_getElem hic, Option.map_some, size_flatK, hps, Nat.zero_le, true_and, Nat.zero_add, hil, if_true, Nat.sub_zero]
    rw [get_flatK encR 2 d' i (by rw [hps]; exact hil), z1]
   rcases Nat.mod_two_eq_zero_or_one i with hp | hp
   ·have e1 : 2 * (i / 2) = i := by omega
    rw [e1] at k1
    rw [k1] at hx; cases hx
    rw [hp] at hcv
    have hcs : (encR Q[i / 2].1)[0]! = .string ⟨Q[i / 2].2.1.toArray⟩ := by rw [← z2]; rfl
    rw [hcs] at hcv
    exact ⟨_, hcv, rfl, .str _⟩
   ·have e1 : 2 * (i / 2) + 1 = i := by omega
    rw [e1] at k2
    rw [k2] at hx; cases hx
    rw [hp] at hcv
    exact ⟨_, hcv, Q[i / 2].1.2.2, z3.mono (hG.rowsKept hd) (fun b id hb => hG.obj b id (hd.lt_obj hb) hb)⟩
  | i + 1, hid => simp at hid
 ·obtain ⟨o, h1, h2⟩ := ho.ids b oid hb
  match oid, h1 with
  | 0, h1 => exact ⟨_, rfl, by simp⟩
  | i + 1, h1 => simp at h1
end Go.Proofs.YtinnaedmdoengaaGreat
namespace Go.Proofs.YtinnaedmdoengaaGreat
open Go.Abs
set_option linter.unusedSimpArgs false
set_option linter.unusedVariables false
attribute [go_sem] wn
def pre (p k : List UInt8) : Bool := decide (p.length ≤ k.length) && k.take p.length == p
noncomputable section
set_option maxRecDepth 100000
set_option linter.defProp false
def d134 := cut Tryz.prog Tryz.f134 news
@[go_sem] def E134 := ql d134
def F134 := fnC d134 follows Tryz.func134
def d75 := cut Tryz.prog Tryz.f75 news
@[go_sem] def E75 := ql d75
def F75 := fnC d75 follows Tryz.func75
end
theorem qhw (k p : List UInt8) : qg Tryz.prog 134 [.d (.str k), .d (.str p)] [] (.d (.bool (pre p k))) [] := by
 refine F134.go ?_
 by_cases h : p.length ≤ k.length
 ·have hd : decide ((k.length : Int) ≥ (p.length : Int)) = true := by simpa using h
  have hd2 : decide (p.length ≤ k.length) = true := by simpa using h
  try (refine ev3 @pre.eq_1 @hd @hd2 ?_; try exact True.intro)
  (repeat (with_reducible refine ob ?_))
  try (refine ev2 @hd @Nat.sub_zero ?_; try exact True.intro)
 ·have hd : decide ((k.length : Int) ≥ (p.length : Int)) = false := by simpa using h
  have hd2 : decide (p.length ≤ k.length) = false := by simpa using h
  try (refine ev3 @pre.eq_1 @hd @hd2 ?_; try exact True.intro)
  (repeat (with_reducible refine ob ?_))
  try (refine ev1 @hd ?_; try exact True.intro)
theorem qj8 (k p : List UInt8) : qg Tryz.prog 75 [.d (.str k), .d (.str p)] [] (.d (.bool (pre p k))) [] := by
 refine F75.go ?_
 try (refine ev ?_; try exact True.intro)
 (repeat (with_reducible refine ob ?_)); first | refine cl F134 (qhw k p) ?_ | refine clF F134 (qhw k p) (fun _ => by (refine ev2 @qh.eq_1 @qp.eq_1 ?_; try exact True.intro)) ?_
 try (refine ev ?_; try exact True.intro)
noncomputable section
set_option maxRecDepth 100000
set_option linter.defProp false
def d33u := cut Tryz.prog Tryz.f33 news [29] [10] true
@[go_sem] def E33u := ql d33u
def F33u := fnC d33u follows Tryz.func33
def d76 := cut Tryz.prog Tryz.f76 news
@[go_sem] def E76 := ql d76
def F76 := fnC d76 follows Tryz.func76
end
theorem qxq {α β : Type} {f : α → β} : ∀ {l : List α}, (l.map f).Nodup → ∀ {x y : α}, x ∈ l → y ∈ l → f x = f y → x = y
 | [], _, x, y, hx, _, _ => by cases hx
 | a :: l, hn, x, y, hx, hy, h => by
  simp only [List.map_cons, List.nodup_cons, List.mem_map, not_exists, not_and] at hn
  rcases List.mem_cons.1 hx with rfl | hx'
  ·rcases List.mem_cons.1 hy with rfl | hy'
   ·rfl
   ·exact absurd h.symm (hn.1 y hy')
  ·rcases List.mem_cons.1 hy with rfl | hy'
   ·exact absurd h (hn.1 x hx')
   ·exact qxq hn.2 hx' hy' h
theorem yv {α β : Type} (f : α → β) : ∀ {l : List α}, (l.map f).Nodup → l.Nodup
 | [], _ => List.nodup_nil
 | a :: l, hn => by
  simp only [List.map_cons, List.nodup_cons, List.mem_map, not_exists, not_and] at hn ⊢
  exact ⟨fun h => hn.1 a h rfl, yv f hn.2⟩
theorem qzd {α : Type} (f : α → Nat) : ∀ {l : List α}, (l.map f).Nodup → ∀ {x : α}, x ∈ l → (l.find? fun y => f y == f x) = some x
 | [], _, x, hx => by cases hx
 | a :: l, hn, x, hx => by
  rw [List.find?_cons]
  by_cases h : f a = f x
  ·have := qxq hn (List.mem_cons_self ..) hx h
   subst this
   simp
  ·rw [beq_false_of_ne h]
   rcases List.mem_cons.1 hx with rfl | hx'
   ·exact absurd rfl h
   ·exact qzd f (by simp only [List.map_cons, List.nodup_cons] at hn; exact hn.2) hx'
theorem q5c {α : Type} [DecidableEq α] : ∀ {a b : List α}, a.Nodup → (∀ x ∈ a, x ∈ b) → a.length ≤ b.length
 | [], _, _, _ => Nat.zero_le _
 | x :: a, b, h, hs => by
  have hx := hs x (List.mem_cons_self ..)
  have h' := List.nodup_cons.1 h
  have := q5c (a := a) (b := b.erase x) h'.2 fun y hy => (List.mem_erase_of_ne (by rintro rfl; exact h'.1 hy)).2 (hs y (List.mem_cons_of_mem _ hy))
  rw [List.length_erase_of_mem hx] at this
  have := List.length_pos_of_mem hx
  simp only [List.length_cons]; omega
theorem q15 (l : List En) : (l.map qp).flatten = qdc l := rfl
theorem qxr (l : List En) : (qdc l).all D.isCell = true := by induction l <;> simp_all [qdc, qp, D.isCell]
attribute [go_sem] q15 qui qxr
structure Cont.Ok (m : Cont) : Prop where
 num : (m.l.map (·.1)).Nodup
 lt : ∀ x ∈ m.l, x.1 < m.c
 key : (m.l.map (·.2.1)).Nodup
def enOf (x : KV) : En := (x.2.1, x.2.2)
def preL (p : List UInt8) (l : List KV) : List En := (l.filter fun x => pre p x.2.1).map enOf
def qbe (m : Cont) (p : List UInt8) : List En := qct (preL p m.l)
theorem quj {p : List UInt8} {l : List KV} (h : (l.map (·.2.1)).Nodup) : ((preL p l).map (·.1)).Nodup := by
 unfold preL
 rw [List.map_map]
 exact List.Nodup.sublist (List.Sublist.map _ List.filter_sublist) h
theorem q5d {a b : List En} (h : a.Perm b) (hn : (a.map (·.1)).Nodup) : qct a = qct b := by
 have h1 := jv a
 have h2 := jv b
 refine qfq (h1.trans (h.trans h2.symm)) ((h1.map (fun x : En => x.1)).nodup_iff.2 hn) (qbr a) (qbr b)
def q5e (s : Sto) (p : List UInt8) (i : { i : List KV // (i.map (·.1)).Nodup ∧ ∀ x ∈ i, x ∈ s.m.l }) : St :=
 ⟨[(1, true, .d (.str p)), (5, true, .uni 0 2 ((preL p i.val).map qp)), (14, true, .d (.ptr 2 0))], [stoO s 1, mapO s.m, .iter (.d (.map 1)) s.m.c (i.val.map (·.1)) s.m.c], [0], 1⟩
set_option maxRecDepth 10000 in
theorem qxs (s : Sto) (p : List UInt8) (hm : s.m.Ok) (hl : s.m.l.length ≤ 1000) (hv : ∀ x ∈ s.m.l, x.2.2.length ≤ 1000000) :
  qg Tryz.prog 33 [.d (.ptr 0 0), .d (.str p)] [stoO s 1, mapO s.m] (.d (.sl 2 ((qbe s.m p).map qp))) [stoO s 1, mapO s.m] := by
 refine F33u.go ?_
 try (refine ev2 @stoO.eq_1 @mapO.eq_1 ?_; try exact True.intro)
 (repeat (with_reducible refine ob ?_)); refine no_ ?_
 try (refine ev ?_; try exact True.intro)
 refine qj (q5e s p) (fun i => s.m.l.length - i.val.length) ⟨[], by simp, by simp⟩ ?_ (fun i => ?_)
 ·try (refine ev6 @q5e.eq_1 @stoO.eq_1 @mapO.eq_1 @preL.eq_1 @List.filter_nil.{0} @List.map_nil.{0,0} ?_; try exact True.intro)
 obtain ⟨i, hi1, hi2⟩ := i
 try (refine ev3 @q5e.eq_1 @stoO.eq_1 @mapO.eq_1 ?_; try exact True.intro)
 have hleft : qdo (s.m.l.map qck) (i.map (·.1)) = (s.m.l.filter fun x => !(i.map (·.1)).contains x.1).map qck := by
  unfold qdo
  rw [List.filter_map]; rfl
 have hone : ∀ x ∈ s.m.l, ∀ y ∈ s.m.l, x.1 = y.1 → x = y := fun x hx y hy h => qxq hm.num hx hy h
 refine q8c (last := s.m.c) ⟨rfl, rfl, by intro e he; obtain ⟨x, hx, rfl⟩ := List.mem_map.1 he; exact hm.lt x hx, Nat.le_refl _⟩ (fun hl0 => ?_) (fun e he => ?_)
 ·
  rw [hleft, List.map_eq_nil_iff, List.filter_eq_nil_iff] at hl0
  have hall : ∀ x ∈ s.m.l, x ∈ i := by
   intro x hx
   have := hl0 x hx
   simp only [List.contains_eq_mem, decide_eq_true_eq, Bool.not_eq_true, Bool.not_eq_false', Bool.not_not] at this
   simp at this
   obtain ⟨a, b, hab⟩ := this
   have := hone x hx _ (hi2 _ hab) rfl
   rw [this]; exact hab
  have hperm : i.Perm s.m.l := by
   refine (List.perm_ext_iff_of_nodup (yv _ hi1) (yv _ hm.num)).2 fun x => ⟨hi2 x, hall x⟩
  have hpp : (preL p i).Perm (preL p s.m.l) := (hperm.filter _).map _
  have hpn : ((preL p i).map (·.1)).Nodup := by
   refine (hpp.map (fun x : En => x.1)).nodup_iff.2 ?_
   exact quj hm.key
  have hsame : qct (preL p i) = qbe s.m p := q5d hpp hpn
  have hlen : (preL p i).length ≤ 1000 := by
   have h1 := hpp.length_eq
   have h2 : (preL p s.m.l).length ≤ s.m.l.length := by simp only [preL, List.length_map]; exact List.length_filter_le _ _
   omega
  try (refine ev1 @qly.eq_1 ?_; try exact True.intro)
  (repeat (with_reducible refine ob ?_)); refine no_ ?_
  try (refine ev ?_; try exact True.intro)
  refine qy6 (.fr 5) 0 2 ((preL p i).map qp) ?_
  refine pu ?_
  try (refine ev ?_; try exact True.intro)
  refine clO [3] F76 (xdh (preL p i) hpn (by omega)) ?_
  try (refine ev ?_; try exact True.intro)
  have hsl : (preL p i).length = (qct (preL p i)).length := (jv _).length_eq.symm
  rw [hsl]
  refine xbp 3 2 ((qct (preL p i)).map qp) ?_ (hc := ?_) (hcc := ?_) (hes := ?_) (hok := D.okWR_noPtr (qcd _))
  ·refine pu ?_
   try (refine ev1 @hsame ?_; try exact True.intro)
  ·try (refine ev ?_; try exact True.intro)
  ·try (refine ev ?_; try exact True.intro)
  ·intro r hr
   obtain ⟨x, _, rfl⟩ := List.mem_map.1 hr
   rfl
 ·rw [hleft] at he
  obtain ⟨x, hx, rfl⟩ := List.mem_map.1 he
  rw [List.mem_filter] at hx
  obtain ⟨hx1, hx2⟩ := hx
  have hx3 : x.1 ∉ i.map (·.1) := by simpa using hx2
  have hnext : ((i ++ [x]).map (·.1)).Nodup ∧ ∀ y ∈ i ++ [x], y ∈ s.m.l := by
   refine ⟨by rw [List.map_append]; exact List.nodup_append.2 ⟨hi1, by simp, fun a ha b hb h => by simp at hb; subst hb; subst h; exact hx3 ha⟩, fun y hy => ?_⟩
   rcases List.mem_append.1 hy with h | h
   ·exact hi2 y h
   ·simp at h; subst h; exact hx1
  have hil : i.length < s.m.l.length := by
   have := q5c (yv _ hnext.1) hnext.2
   simp at this; omega
  have hpl : (preL p i).length ≤ i.length := by simp only [preL, List.length_map]; exact List.length_filter_le _ _
  try (refine ev1 @entV.eq_1 ?_; try exact True.intro)
  (repeat (with_reducible refine ob ?_)); refine qb9 ?_
  try (refine ev ?_; try exact True.intro)
  refine q38 (e := qck x) (mid := 1) (since := s.m.c) (seen := i.map (·.1) ++ [x.1]) (clock := s.m.c) (es := s.m.l.map qck) ⟨rfl, rfl, by simp [qck], ?_⟩ ?_
  ·rw [List.find?_map]
   have h1 : s.m.l.find? ((fun e : Nat × D × D => e.1 == (qck x).1) ∘ qck) = some x := qzd (fun y : KV => y.1) hm.num hx1
   rw [h1]; rfl
  try (refine ev1 @qck.eq_1 ?_; try exact True.intro)
  (repeat (with_reducible refine ob ?_)); first | refine cl F75 (qj8 x.2.1 p) ?_ | refine clF F75 (qj8 x.2.1 p) (fun _ => by (refine ev2 @qh.eq_1 @qp.eq_1 ?_; try exact True.intro)) ?_
  try (refine ev ?_; try exact True.intro)
  (repeat (with_reducible refine ob ?_)); refine xt _ (fun h => ?_) (fun h => ?_)
  ·try (refine ev ?_; try exact True.intro)
   (repeat (with_reducible refine ob ?_)); first | refine cl F63 (wd x.2.2 (by have := hv x hx1; omega)) ?_ | refine clF F63 (wd x.2.2 (by have := hv x hx1; omega)) (fun _ => by (refine ev2 @qh.eq_1 @qp.eq_1 ?_; try exact True.intro)) ?_
   try (refine ev ?_; try exact True.intro)
   refine ⟨by omega, ?_⟩
   have hpx : preL p (i ++ [x]) = preL p i ++ [enOf x] := by simp [preL, h]
   refine ⟨⟨i ++ [x], hnext⟩, ?_, by simp only [List.length_append, List.length_singleton]; omega⟩
   try (refine ev7 @q5e.eq_1 @stoO.eq_1 @mapO.eq_1 @hpx @List.map_append.{0,0} @qp.eq_1 @enOf.eq_1 ?_; try exact True.intro)
  ·have hpx : preL p (i ++ [x]) = preL p i := by simp [preL, h]
   try (refine ev ?_; try exact True.intro)
   refine ⟨⟨i ++ [x], hnext⟩, ?_, by simp only [List.length_append, List.length_singleton]; omega⟩
   try (refine ev7 @q5e.eq_1 @stoO.eq_1 @mapO.eq_1 @hpx @List.map_append.{0,0} @qp.eq_1 @enOf.eq_1 ?_; try exact True.intro)
end Go.Proofs.YtinnaedmdoengaaGreat
namespace Go.Proofs.YtinnaedmdoengaaGreat
open Go.Abs
set_option linter.unusedSimpArgs false
set_option linter.unusedVariables false
theorem yw {k : List UInt8} {x : KV} : x8 k x = true ↔ k = x.2.1 := by simp [x8]
theorem qmu {k v : List UInt8} : ∀ {l : List KV} {j : Nat}, l.findIdx? (x8 k) = some j → ∀ k', (l.modify j fun e => (e.1, k, v)).find? (x8 k') = if k' = k then some ((l[j]?.getD (0, [], [])).1, k, v) else l.find? (x8 k')
 | [], j, h, k' => by simp at h
 | a :: l, j, h, k' => by
  rw [List.findIdx?_cons] at h
  by_cases ha : x8 k a = true
  ·rw [if_pos ha] at h
   cases h
   simp only [List.modify_zero_cons, List.find?_cons, List.getElem?_cons_zero, Option.getD_some]
   by_cases hk : k' = k
   ·subst hk
    have : x8 k' (a.1, k', v) = true := yw.2 rfl
    rw [this, if_pos rfl]
   ·have h1 : x8 k' (a.1, k, v) = false := by simpa [x8] using hk
    have h2 : x8 k' a = false := by rw [yw] at ha; simp [x8, ← ha, hk]
    rw [h1, h2, if_neg hk]
  ·rw [if_neg (by simpa using ha)] at h
   obtain ⟨i, hi, rfl⟩ := Option.map_eq_some_iff.1 h
   simp only [List.modify_succ_cons, List.find?_cons, List.getElem?_cons_succ]
   have ih := qmu (v := v) hi k'
   by_cases hk : k' = k
   ·subst hk
    have : x8 k' a = false := by simpa using ha
    rw [this]
    exact ih
   ·cases h2 : x8 k' a with
    | true => rw [if_neg hk]
    | false => rw [ih]
theorem quk {k : List UInt8} {l : List KV} (h : l.findIdx? (x8 k) = none) : l.find? (x8 k) = none := by
 rw [List.findIdx?_eq_none_iff] at h
 exact List.find?_eq_none.2 fun x hx => by rw [h x hx]; simp
theorem qze (k v : List UInt8) (m : Cont) (k' : List UInt8) : mGet k' (mPut k v m) = if k' = k then some v else mGet k' m := by
 unfold mGet mPut
 cases h : m.l.findIdx? (x8 k) with
 | some j =>
  simp only [qmu h k']
  split <;> rfl
 | none =>
  simp only [List.find?_append]
  by_cases hk : k' = k
  ·subst hk
   rw [quk h, if_pos rfl]
   simp [x8]
  ·rw [if_neg hk]
   have : [(m.c, k, v)].find? (x8 k') = none := by simp [x8, hk]
   rw [this, Option.or_none]
theorem qo6 {k v : List UInt8} : ∀ {l : List KV} {j : Nat}, l.findIdx? (x8 k) = some j → (l.modify j fun e => (e.1, k, v)).map (·.2.1) = l.map (·.2.1) ∧ (l.modify j fun e => (e.1, k, v)).map (·.1) = l.map (·.1)
 | [], j, h => by simp at h
 | a :: l, j, h => by
  rw [List.findIdx?_cons] at h
  by_cases ha : x8 k a = true
  ·rw [if_pos ha] at h
   cases h
   rw [yw] at ha
   simp only [List.modify_zero_cons, List.map_cons, ha, and_self]
  ·rw [if_neg (by simpa using ha)] at h
   obtain ⟨i, hi, rfl⟩ := Option.map_eq_some_iff.1 h
   obtain ⟨h1, h2⟩ := qo6 (v := v) hi
   simp only [List.modify_succ_cons, List.map_cons, h1, h2, and_self]
theorem qo7 {α : Type} {l : List α} {x : α} (h : l.Nodup) (hx : x ∉ l) : (l ++ [x]).Nodup :=
 List.nodup_append.2 ⟨h, by simp, fun a ha b hb e => by simp at hb; subst hb; subst e; exact hx ha⟩
theorem qmv {m : Cont} (h : m.Ok) (k v : List UInt8) : (mPut k v m).Ok := by
 unfold mPut
 cases hf : m.l.findIdx? (x8 k) with
 | some j =>
  obtain ⟨h1, h2⟩ := qo6 (v := v) hf
  refine ⟨by simpa only [h2] using h.num, fun x hx => ?_, by simpa only [h1] using h.key⟩
  have : x.1 ∈ (m.l.modify j fun e => (e.1, k, v)).map (·.1) := List.mem_map_of_mem hx
  rw [h2] at this
  obtain ⟨y, hy, he⟩ := List.mem_map.1 this
  rw [← he]; exact h.lt y hy
 | none =>
  rw [List.findIdx?_eq_none_iff] at hf
  refine ⟨?_, fun x hx => ?_, ?_⟩
  ·rw [List.map_append]
   refine qo7 h.num fun hm => ?_
   obtain ⟨y, hy, he⟩ := List.mem_map.1 hm
   have := h.lt y hy
   simp only at he
   omega
  ·simp only
   rcases List.mem_append.1 hx with hx | hx
   ·have := h.lt x hx; omega
   ·simp at hx; subst hx; simp
  ·rw [List.map_append]
   refine qo7 h.key fun hm => ?_
   obtain ⟨y, hy, he⟩ := List.mem_map.1 hm
   have := hf y hy
   simp [x8, he] at this
theorem qhx (k : List UInt8) (m : Cont) : (mDel k m).l.Sublist m.l := by
 unfold mDel
 split
 ·exact List.eraseIdx_sublist ..
 ·exact List.Sublist.refl _
theorem qmw {m : Cont} (h : m.Ok) (k : List UInt8) : (mDel k m).Ok :=
 ⟨List.Nodup.sublist ((qhx k m).map _) h.num, fun x hx => by rw [xbu]; exact h.lt x ((qhx k m).subset hx), List.Nodup.sublist ((qhx k m).map _) h.key⟩
theorem qo8 {k : List UInt8} : ∀ {l : List KV} {j : Nat}, l.findIdx? (x8 k) = some j → (l.map (·.2.1)).Nodup → ∀ k', (l.eraseIdx j).find? (x8 k') = if k' = k then none else l.find? (x8 k')
 | [], j, h, _, k' => by simp at h
 | a :: l, j, h, hn, k' => by
  rw [List.findIdx?_cons] at h
  simp only [List.map_cons, List.nodup_cons] at hn
  by_cases ha : x8 k a = true
  ·rw [if_pos ha] at h
   cases h
   rw [yw] at ha
   simp only [List.eraseIdx_cons_zero, List.find?_cons]
   by_cases hk : k' = k
   ·subst hk
    rw [if_pos rfl]
    refine List.find?_eq_none.2 fun x hx hk => ?_
    rw [yw] at hk
    exact hn.1 (List.mem_map.2 ⟨x, hx, by rw [← ha, ← hk]⟩)
   ·rw [if_neg hk]
    have h2 : x8 k' a = false := by simp [x8, ← ha, hk]
    rw [h2]
  ·rw [if_neg (by simpa using ha)] at h
   obtain ⟨i, hi, rfl⟩ := Option.map_eq_some_iff.1 h
   simp only [List.eraseIdx_cons_succ, List.find?_cons]
   have ih := qo8 hi hn.2 k'
   by_cases hk : k' = k
   ·subst hk
    have : x8 k' a = false := by simpa using ha
    rw [this, if_pos rfl]
    rw [if_pos rfl] at ih
    exact ih
   ·cases h2 : x8 k' a with
    | true => rw [if_neg hk]
    | false => rw [ih]
theorem qzf {m : Cont} (h : m.Ok) (k k' : List UInt8) : mGet k' (mDel k m) = if k' = k then none else mGet k' m := by
 unfold mGet mDel
 cases hf : m.l.findIdx? (x8 k) with
 | some j =>
  simp only [qo8 hf h.key k']
  split <;> rfl
 | none =>
  simp only
  split
  ·rename_i hk; subst hk; rw [quk hf]; rfl
  ·rfl
theorem qq9 (k : List UInt8) (m : Cont) : (mDel k m).l.length ≤ m.l.length := (qhx k m).length_le
def kvOk (x : KV) : Prop := 1 ≤ x.2.1.length ∧ x.2.1.length ≤ 40 ∧ x.2.2.length ≤ 900
theorem q9v {k v : List UInt8} {m : Cont} {x : KV} (h : x ∈ (mPut k v m).l) : x ∈ m.l ∨ (x.2.1 = k ∧ x.2.2 = v) := by
 unfold mPut at h
 split at h
 ·rename_i j hj
  simp only at h
  obtain ⟨i, hi⟩ := List.getElem?_of_mem h
  rw [List.getElem?_modify] at hi
  cases hg : m.l[i]? with
  | none => rw [hg] at hi; cases hi
  | some y =>
   rw [hg] at hi
   simp only [Option.map_eq_map, Option.map_some, Option.some.injEq] at hi
   split at hi
   ·subst hi; exact .inr ⟨rfl, rfl⟩
   ·subst hi; exact .inl (List.mem_of_getElem? hg)
 ·rcases List.mem_append.1 h with h | h
  ·exact .inl h
  ·simp at h; subst h; exact .inr ⟨rfl, rfl⟩
structure Cont.Good (m : Cont) : Prop where
 ok : m.Ok
 few : m.l.length ≤ 400
 small : ∀ x ∈ m.l, kvOk x
theorem qd1 : ∀ (l : List OpS) {m : Cont}, m.Good → (∀ o ∈ l, je o = true) → (jg m l).2 = true → (jg m l).1.Good
 | [], m, h, _, _ => h
 | o :: l, m, h, hp, hy => by
  rw [jg] at hy ⊢
  have ho := jh.1 (hp o (List.mem_cons_self ..))
  have hp' := fun x hx => hp x (List.mem_cons_of_mem _ hx)
  split at hy
  ·rename_i hd
   rw [if_pos hd]
   exact qd1 l ⟨qmw h.ok _, Nat.le_trans (qq9 _ _) h.few, fun x hx => h.small x ((qhx _ _).subset hx)⟩ hp' hy
  ·rename_i hd
   rw [if_neg hd]
   split at hy
   ·cases hy
   ·rename_i h4
    rw [if_neg h4]
    refine qd1 l ⟨qmv h.ok _ _, by omega, fun x hx => ?_⟩ hp' hy
    rcases q9v hx with hx | ⟨h1, h2⟩
    ·exact h.small x hx
    ·exact ⟨by rw [h1]; exact ho.1, by rw [h1]; exact ho.2.1, by rw [h2]; exact ho.2.2.1⟩
theorem qmx (f r : List UInt8) (hr : r.length ≤ 2000) : (vd f r).length ≤ f.length + 70000 := by
 have := qmo _ r (Nat.le_refl _)
 unfold vd
 rw [qmp _ _ (fun q hq => (jt _ r (Nat.le_refl _) q hq).2)]
 simp only; omega
structure Sto.Ok (n : Nat) (s : Sto) : Prop where
 good : s.m.Good
 file : s.file.length ≤ n * 70000
theorem qi5 (n : Nat) : newS.Ok n := by
 refine ⟨⟨⟨List.nodup_nil, fun x hx => (by cases hx), List.nodup_nil⟩, ?_, fun x hx => (by cases hx)⟩, ?_⟩
 ·simp only [newS, qbk, List.length_nil, Nat.zero_le]
 ·simp only [newS, List.length_nil, Nat.zero_le]
theorem Sto.Ok.mono {n m : Nat} {s : Sto} (h : s.Ok n) (hn : n ≤ m) : s.Ok m := ⟨h.good, Nat.le_trans h.file (Nat.mul_le_mul_right _ hn)⟩
theorem qd2 (s : Sto) (l : List OpS) : ((xh s l).2 ≠ 0 ∧ (xh s l).1 = s) ∨ ((xh s l).2 = 0 ∧ (qo l).2 = 0 ∧ (jg s.m l).2 = true ∧ (xh s l).1 = ⟨vd s.file (qo l).1, s.synced, (jg s.m l).1⟩) := by
 unfold xh
 split
 ·exact .inl ⟨by assumption, rfl⟩
 ·split
  ·exact .inl ⟨by simp, rfl⟩
  ·rename_i h1 h2
   exact .inr ⟨rfl, by simpa using h1, by simpa using h2, rfl⟩
theorem qd3 {n : Nat} {s : Sto} (h : s.Ok n) (l : List OpS) : (xh s l).1.Ok (n + 1) := by
 rcases qd2 s l with ⟨_, he⟩ | ⟨_, h1, h2, he⟩
 ·rw [he]; exact h.mono (Nat.le_succ _)
 ·rw [he]
  refine ⟨qd1 l h.good (ju h1).2.1 h2, ?_⟩
  have := qmx s.file _ (ve l)
  have := h.file
  simp only; omega
theorem qbz {s : Sto} {l : List OpS} (hl : l.length ≤ 100000) (hf : s.file.length ≤ 100000000) (h : (xh s l).2 = 0) :
  qg Tryz.prog 14 [.d (.ptr 0 0), .d (.sl 3 (l.map qh))] [stoO s 1, mapO s.m] (.d (.int .i64 0)) [stoO (xh s l).1 2, mapO s.m, mapO (xh s l).1.m] := by
 have := quh s l hl hf
 rw [qht, if_pos h, h] at this
 exact this
theorem q5f {s : Sto} {l : List OpS} (hl : l.length ≤ 100000) (hf : s.file.length ≤ 100000000) (h : (xh s l).2 ≠ 0) :
  qg Tryz.prog 14 [.d (.ptr 0 0), .d (.sl 3 (l.map qh))] [stoO s 1, mapO s.m] (.d (.int .i64 (xh s l).2)) [stoO s 1, mapO s.m, .none] := by
 have := quh s l hl hf
 rw [qht, if_neg h] at this
 exact this
end Go.Proofs.YtinnaedmdoengaaGreat
namespace Go.Proofs.YtinnaedmdoengaaGreat
open Go.Abs
set_option linter.unusedSimpArgs false
set_option linter.unusedVariables false
theorem qfr : ∀ a b : List UInt8, Op.bytesLess a b = decide (cmpB a b < 0)
 | [], [] => rfl
 | [], _ :: _ => rfl
 | _ :: _, [] => rfl
 | a :: l, b :: m => by
  have ih := qfr l m
  simp only [cmpB] at ih
  simp only [Op.bytesLess, cmpB, Lib.compareBytes, ih]
  by_cases h1 : a < b
  ·simp [h1]
  ·by_cases h2 : b < a
   ·have : ¬ a = b := by rintro rfl; exact h1 h2
    simp [h1, h2, this]
   ·have : a = b := by
     apply UInt8.toNat_inj.1
     rw [UInt8.lt_iff_toNat_lt] at h1 h2
     omega
    simp [h1, h2, this]
def Sorted (l : List En) : Prop := l.Pairwise fun a b => cmpB a.1 b.1 < 0
theorem Sorted.keys {l : List En} (h : Sorted l) : (l.map (·.1)).Nodup := by
 unfold List.Nodup
 rw [List.pairwise_map]
 exact h.imp fun {a b} hab e => by rw [e, qhu] at hab; omega
theorem Sorted.le {l : List En} (h : Sorted l) : l.Pairwise fun a b => cmpB a.1 b.1 ≤ 0 := h.imp fun hab => Int.le_of_lt hab
theorem qi7 {l m : List En} (hl : Sorted l) (hm : Sorted m) (h : ∀ x, x ∈ l ↔ x ∈ m) : l = m :=
 qfq ((List.perm_ext_iff_of_nodup (yv _ hl.keys) (yv _ hm.keys)).2 h) hl.keys hl.le hm.le
theorem q5g {l : List En} (h : l.Pairwise fun a b => cmpB a.1 b.1 ≤ 0) (hn : (l.map (·.1)).Nodup) : Sorted l := by
 unfold List.Nodup at hn
 rw [List.pairwise_map] at hn
 refine (h.and hn).imp fun {a b} hab => ?_
 obtain ⟨h1, h2⟩ := hab
 rcases Int.lt_or_eq_of_le h1 with h3 | h3
 ·exact h3
 ·exact (h2 (qhv h3)).elim
theorem qj9 {m : Cont} (h : m.Ok) (p : List UInt8) : Sorted (qbe m p) := by
 refine q5g (qbr _) ?_
 exact ((jv (preL p m.l)).map (fun x : En => x.1)).nodup_iff.2 (quj h.key)
theorem qzg : ∀ {l : List KV}, (l.map (·.2.1)).Nodup → ∀ {x : KV}, x ∈ l → l.find? (x8 x.2.1) = some x
 | [], _, x, hx => by cases hx
 | a :: l, hn, x, hx => by
  rw [List.find?_cons]
  simp only [List.map_cons, List.nodup_cons] at hn
  rcases List.mem_cons.1 hx with rfl | hx'
  ·rw [yw.2 rfl]
  ·have : x8 x.2.1 a = false := by
    cases h : x8 x.2.1 a with
    | false => rfl
    | true => exact (hn.1 (List.mem_map.2 ⟨x, hx', yw.1 h⟩)).elim
   rw [this]
   exact qzg hn.2 hx'
theorem qul {m : Cont} (h : m.Ok) (p : List UInt8) (x : En) : x ∈ qbe m p ↔ mGet x.1 m = some x.2 ∧ pre p x.1 = true := by
 rw [qbe, (jv _).mem_iff, preL, List.mem_map]
 constructor
 ·rintro ⟨y, hy, rfl⟩
  obtain ⟨h1, h2⟩ := List.mem_filter.1 hy
  refine ⟨?_, h2⟩
  unfold mGet enOf
  rw [qzg h.key h1]; rfl
 ·rintro ⟨h1, h2⟩
  unfold mGet at h1
  rw [Option.map_eq_some_iff] at h1
  obtain ⟨y, hy, he⟩ := h1
  have hk := yw.1 (List.find?_some hy)
  refine ⟨y, List.mem_filter.2 ⟨List.mem_of_find?_eq_some hy, by rw [← hk]; exact h2⟩, ?_⟩
  unfold enOf
  rw [← hk, he]
theorem q5h (k : List UInt8) : pre [] k = true := by simp [pre]
def eSet (x : En) : List En → List En
 | [] => [x]
 | y :: l => if Op.bytesLess y.1 x.1 = true then y :: eSet x l else if y.1 = x.1 then x :: l else x :: y :: l
def eDel (k : List UInt8) (l : List En) : List En := l.filter fun e => !(e.1 == k)
def eOp (l : List En) (o : OpS) : List En := if o.del then eDel o.key l else eSet (o.key, o.val) l
def kx : List En → List OpS → List En × Bool
 | l, [] => (l, true)
 | l, o :: r => if (eOp l o).length > 400 then ([], false) else kx (eOp l o) r
theorem qra {x : En} : ∀ {l : List En}, Sorted l → ∀ y, y ∈ eSet x l ↔ y = x ∨ (y ∈ l ∧ y.1 ≠ x.1)
 | [], _, y => by simp [eSet]
 | a :: l, h, y => by
  have h' := List.pairwise_cons.1 h
  rw [eSet]
  split
  ·rename_i hlt
   rw [qfr, decide_eq_true_eq] at hlt
   have hne : a.1 ≠ x.1 := fun e => by rw [e, qhu] at hlt; omega
   rw [List.mem_cons, qra h'.2, List.mem_cons]
   constructor
   ·rintro (rfl | h1 | ⟨h1, h2⟩)
    ·exact .inr ⟨.inl rfl, hne⟩
    ·exact .inl h1
    ·exact .inr ⟨.inr h1, h2⟩
   ·rintro (h1 | ⟨rfl | h1, h2⟩)
    ·exact .inr (.inl h1)
    ·exact .inl rfl
    ·exact .inr (.inr ⟨h1, h2⟩)
  ·rename_i hlt
   rw [qfr, decide_eq_true_eq] at hlt
   have hge : cmpB x.1 a.1 ≤ 0 := qby.1 hlt
   have hgt : ∀ z ∈ l, z.1 ≠ x.1 := fun z hz e => by
    have h1 := h'.1 z hz
    rw [e] at h1
    have := qez a.1 x.1
    omega
   split
   ·rename_i he
    simp only [List.mem_cons]
    constructor
    ·rintro (h1 | h1)
     ·exact .inl h1
     ·exact .inr ⟨.inr h1, hgt y h1⟩
    ·rintro (h1 | ⟨rfl | h1, h2⟩)
     ·exact .inl h1
     ·exact (h2 he).elim
     ·exact .inr h1
   ·rename_i he
    simp only [List.mem_cons]
    constructor
    ·rintro (h1 | rfl | h1)
     ·exact .inl h1
     ·exact .inr ⟨.inl rfl, he⟩
     ·exact .inr ⟨.inr h1, hgt y h1⟩
    ·rintro (h1 | ⟨h1 | h1, h2⟩)
     ·exact .inl h1
     ·exact .inr (.inl h1)
     ·exact .inr (.inr h1)
theorem qmy {x : En} : ∀ {l : List En}, Sorted l → Sorted (eSet x l)
 | [], _ => List.pairwise_singleton _ _
 | a :: l, h => by
  have h' := List.pairwise_cons.1 h
  rw [eSet]
  split
  ·rename_i hlt
   rw [qfr, decide_eq_true_eq] at hlt
   refine List.pairwise_cons.2 ⟨fun y hy => ?_, qmy h'.2⟩
   rcases (qra h'.2 y).1 hy with rfl | ⟨h1, _⟩
   ·exact hlt
   ·exact h'.1 y h1
  ·rename_i hlt
   rw [qfr, decide_eq_true_eq] at hlt
   have hge : cmpB x.1 a.1 ≤ 0 := qby.1 hlt
   split
   ·rename_i he
    exact List.pairwise_cons.2 ⟨fun y hy => by rw [← he]; exact h'.1 y hy, h'.2⟩
   ·rename_i he
    have hx : cmpB x.1 a.1 < 0 := by
     rcases Int.lt_or_eq_of_le hge with h1 | h1
     ·exact h1
     ·exact (he (qhv h1).symm).elim
    refine List.pairwise_cons.2 ⟨fun y hy => ?_, h⟩
    rcases List.mem_cons.1 hy with rfl | hy
    ·exact hx
    ·exact (qdb hge (Int.le_of_lt (h'.1 y hy))).2 (.inl hx)
theorem qxt {k : List UInt8} {l : List En} (h : Sorted l) : Sorted (eDel k l) := List.Pairwise.filter _ h
def zm (m : Cont) : List En := qbe m []
theorem yc {m : Cont} (h : m.Ok) : Sorted (zm m) := qj9 h []
theorem qd4 {m : Cont} (h : m.Ok) (x : En) : x ∈ zm m ↔ mGet x.1 m = some x.2 := by
 rw [zm, qul h, q5h]; simp
theorem qcu {m : Cont} : (zm m).length = m.l.length := by
 have h1 : preL [] m.l = m.l.map enOf := by
  unfold preL
  congr 1
  exact List.filter_eq_self.2 fun x _ => q5h _
 rw [zm, qbe, (jv _).length_eq, h1, List.length_map]
theorem q9w {m : Cont} (h : m.Ok) (k v : List UInt8) : zm (mPut k v m) = eSet (k, v) (zm m) := by
 have hs := yc h
 refine qi7 (yc (qmv h k v)) (qmy hs) fun x => ?_
 rw [qd4 (qmv h k v), qra hs, qd4 h, qze]
 obtain ⟨a, b⟩ := x
 simp only [Prod.mk.injEq]
 by_cases hk : a = k
 ·subst hk; simp [eq_comm]
 ·simp [hk]
theorem q9x {m : Cont} (h : m.Ok) (k : List UInt8) : zm (mDel k m) = eDel k (zm m) := by
 have hs := yc h
 refine qi7 (yc (qmw h k)) (qxt hs) fun x => ?_
 rw [qd4 (qmw h k), eDel, List.mem_filter, qd4 h, qzf h]
 by_cases hk : x.1 = k <;> simp [hk]
theorem qdd : ∀ (l : List OpS) {m : Cont}, m.Ok → m.l.length ≤ 400 → (jg m l).2 = (kx (zm m) l).2 ∧ ((jg m l).2 = true → zm (jg m l).1 = (kx (zm m) l).1 ∧ (jg m l).1.Ok ∧ (jg m l).1.l.length ≤ 400)
 | [], m, h, hl => ⟨rfl, fun _ => ⟨rfl, h, hl⟩⟩
 | o :: l, m, h, hl => by
  rw [jg, kx, eOp]
  by_cases hd : o.del = true
  ·have hle := qq9 o.key m
   rw [if_pos hd, if_pos hd, ← q9x h, qcu, if_neg (by omega)]
   exact qdd l (qmw h _) (by omega)
  ·rw [if_neg hd, if_neg hd, ← q9w h, qcu]
   by_cases h4 : (mPut o.key o.val m).l.length > 400
   ·rw [if_pos h4, if_pos h4]
    exact ⟨rfl, fun e => by cases e⟩
   ·rw [if_neg h4, if_neg h4]
    exact qdd l (qmv h _ _) (by omega)
def eGet (k : List UInt8) (l : List En) : Option (List UInt8) := (l.find? fun e => e.1 == k).map (·.2)
theorem q9y {m : Cont} (h : m.Ok) (k : List UInt8) : eGet k (zm m) = mGet k m := by
 unfold eGet
 cases hf : (zm m).find? (fun e => e.1 == k) with
 | none =>
  cases hg : mGet k m with
  | none => rfl
  | some v =>
   have := (qd4 h (k, v)).2 hg
   have := List.find?_eq_none.1 hf _ this
   simp at this
 | some x =>
  have h1 := (qd4 h x).1 (List.mem_of_find?_eq_some hf)
  have h2 : x.1 = k := by simpa using List.find?_some hf
  rw [← h2, h1]; rfl
end Go.Proofs.YtinnaedmdoengaaGreat
namespace Go.Proofs.YtinnaedmdoengaaGreat
open Go.Abs
set_option linter.unusedSimpArgs false
set_option linter.unusedVariables false
def qu (b : List UInt8) (p : Nat) : List UInt8 := (b.drop p).take 24
structure Rds where
 pos : Nat
 seed : Nat
 now : List UInt8
 recs : List (List UInt8)
 ends : List Nat
 deriving Inhabited
def Rds.used (s : Rds) : Nat := s.ends.getLastD 0
def q16 : Nat := 14695981039346656037
structure Rds.Ok (b : List UInt8) (s : Rds) : Prop where
 pos : s.pos ≤ b.length
 seed : s.seed < 18446744073709551616
 now : s.now.length ≤ 2000
 recs : s.recs.length ≤ s.pos
 ends : s.ends.length ≤ s.pos
 used : s.used ≤ s.pos
 small : ∀ r ∈ s.recs, r.length ≤ 2000
def zp : Nat → List (Nat × List UInt8) → List UInt8
 | _, [] => []
 | h, p :: l => xu p ++ be8 (fnv h (xu p)) ++ zp (fnv h (xu p)) l
def qcl : Nat → List (Nat × List UInt8) → Nat
 | h, [] => h
 | h, p :: l => qcl (fnv h (xu p)) l
theorem q17 (x : List UInt8) (h : Nat) (l : List (Nat × List UInt8)) : js (x, h) l = (x ++ zp h l, qcl h l) := by
 induction l generalizing x h with
 | nil => simp [js, zp, qcl]
 | cons p l ih =>
  have : js (x, h) (p :: l) = js (qda (x, h) p) l := rfl
  rw [this, qda, ih, zp, qcl]
  simp only [List.append_assoc]
theorem qft {h : Nat} {l : List (Nat × List UInt8)} (hl : ∀ p ∈ l, p.2.length ≤ 22) : (zp h l).length = 32 * l.length := by
 induction l generalizing h with
 | nil => simp [zp]
 | cons p l ih =>
  rw [zp, List.length_append, List.length_append, zc, wh (hl p List.mem_cons_self), ih (fun q hq => hl q (List.mem_cons_of_mem _ hq)), List.length_cons]
  omega
end Go.Proofs.YtinnaedmdoengaaGreat
namespace Go.Proofs.YtinnaedmdoengaaGreat
open Go.Abs
set_option linter.unusedSimpArgs false
set_option linter.unusedVariables false
theorem qrd (r : List UInt8) : partsOf r ≠ [] := by
 by_cases h : r.length > 22
 ·rw [kq h]; simp
 ·rw [ku h]; simp
theorem qb0 (f r : List UInt8) : vd f r = f ++ zp (k9 f) (partsOf r) := by rw [vd, q17]
def xy (rs : List (List UInt8)) : List UInt8 := rs.foldl vd []
structure Behind (rs : List (List UInt8)) (s : Rds) : Prop where
 pos : s.pos = (xy rs).length
 seed : s.seed = k9 (xy rs)
 now : s.now = []
 recs : s.recs = rs
 used : s.used = (xy rs).length
structure ReadOf (rs : List (List UInt8)) (k j : Nat) (x : Rds × Int) : Prop where
 le : j ≤ rs.length
 recs : x.1.recs = rs.take j
 used : x.1.used = (xy (rs.take j)).length
 fit : (xy (rs.take j)).length ≤ k
 all : ∀ i, i ≤ rs.length → (xy (rs.take i)).length ≤ k → i ≤ j
end Go.Proofs.YtinnaedmdoengaaGreat
namespace Go.Proofs.YtinnaedmdoengaaGreat
open Go.Abs
set_option linter.unusedSimpArgs false
set_option linter.unusedVariables false
theorem qd7 {α β : Type} (f : α → β) (l : List α) {i : Nat} (h : i < l.length) : (l.take (i + 1)).map f = (l.take i).map f ++ [f l[i]] := by
 rw [List.take_succ_eq_append_getElem h, List.map_append]; rfl
theorem qf9 (w : List UInt8) : y4 (qd w) = w := by
 induction w with
 | nil => rfl
 | cons c w ih => simp_all [y4, qd]
theorem xdi (w : List UInt8) : (∃ l, qd w = qd l) = True := eq_true ⟨w, rfl⟩
theorem xff : (∃ l, ([] : List (List D)) = qd l) = True := eq_true ⟨[], rfl⟩
theorem qre : y4 [] = [] := rfl
attribute [go_sem] qf9 xdi xff qre
noncomputable section
set_option maxRecDepth 100000
set_option linter.defProp false
def d31 := cut Tryz.prog Tryz.f31 news
@[go_sem] def E31 := ql d31
def F31 := fnC d31 follows Tryz.func31
def d21 := cut Tryz.prog Tryz.f21 news
@[go_sem] def E21 := ql d21
def d29 := cut Tryz.prog Tryz.f29 news
@[go_sem] def E29 := ql d29
def F29 := fnC d29 follows Tryz.func29
def d23 := cut Tryz.prog Tryz.f23 news
@[go_sem] def E23 := ql d23
end
def SfTo (l : List OpS) (i : { i : Nat // i ≤ l.length }) : St :=
 ⟨[(0, true, .d (.sl 3 (l.map qh))), (3, true, .own 0 3 ((l.take i.val).map qh)), (4, true, .d (.int .i64 (i.val : Nat)))], [], [0], 1⟩
theorem xgq (l : List OpS) (hl : l.length ≤ 100000) (hv : ∀ o ∈ l, o.val.length ≤ 1000000) : qg Tryz.prog 31 [.d (.sl 3 (l.map qh))] [] (.d (.sl 3 (l.map qh))) [] := by
 refine F31.go ?_
 try (refine ev ?_; try exact True.intro)
 refine qj (SfTo l) (fun i => l.length - i.val) ⟨0, Nat.zero_le _⟩ ?_ (fun i => ?_)
 ·try (refine ev2 @SfTo.eq_1 @List.take_zero.{0} ?_; try exact True.intro)
 obtain ⟨i, hi⟩ := i
 try (refine ev1 @SfTo.eq_1 ?_; try exact True.intro)
 (repeat (with_reducible refine ob ?_)); refine xt _ (fun h => ?_) (fun h => ?_)
 ·have hil : i < l.length := by simpa using h
  have hx := hv _ (List.getElem_mem hil)
  try (refine ev2 (qq qh l hil) @qh.eq_1 ?_; try exact True.intro)
  (repeat (with_reducible refine ob ?_))
  refine ⟨⟨i + 1, hil⟩, ?_, by dsimp only; omega⟩
  try (refine ev4 @SfTo.eq_1 (qd7 qh l hil) @qh.eq_1 (qi (show i < 9223372036854775807 by omega)) ?_; try exact True.intro)
 ·have hil : i = l.length := by
   have : l.length ≤ i := by simpa using h
   omega
  subst hil
  try (refine ev1 @List.take_length.{0} ?_; try exact True.intro)
def vSum (l : List OpS) : Nat := (l.map fun o => o.val.length).sum
def sFew (l : List OpS) : Bool := l.all (fun o => decide (o.key.length ≤ 100) && decide (o.val.length ≤ 1000)) && decide (l.length ≤ 30) && decide (vSum l ≤ 3000)
theorem q5m (a b : Int) : IntKind.i64.wrap (IntKind.i64.wrap a + b) = IntKind.i64.wrap (a + b) := by
 simp only [IntKind.wrap, IntKind.bits, IntKind.signed, if_true]
 simp
 omega
theorem q5n (l : List OpS) {i : Nat} (h : i < l.length) : vSum (l.take (i + 1)) = vSum (l.take i) + l[i].val.length := by
 unfold vSum
 rw [List.take_succ_eq_append_getElem h, List.map_append, List.sum_append]; simp
theorem v9 {α : Type} {f : α → Bool} {l : List α} {i : Nat} (h : (l.take i).all f = true) (hil : i < l.length) (hf : f l[i] = true) : (l.take (i + 1)).all f = true := by
 rw [List.take_succ_eq_append_getElem hil, List.all_append, h]; simp [hf]
theorem qm2 {α : Type} {f : α → Bool} {l : List α} {i : Nat} (hil : i < l.length) (hf : f l[i] = false) : l.all f = false := by
 rw [List.all_eq_false]; exact ⟨l[i], List.getElem_mem hil, by simp [hf]⟩
theorem xdj (l : List OpS) : (l.all fun o => decide (o.key.length ≤ 100) && decide (o.val.length ≤ 1000)) = true → vSum l ≤ 1000 * l.length := by
 induction l with
 | nil => intro _; simp [vSum]
 | cons o l ih =>
  intro h
  simp only [List.all_cons, Bool.and_eq_true, decide_eq_true_eq] at h
  have := ih (by simpa using h.2)
  simp only [vSum, List.map_cons, List.sum_cons, List.length_cons] at this ⊢
  omega
def Sfew (l : List OpS) (i : { i : Nat // i ≤ l.length ∧ (l.take i).all (fun o => decide (o.key.length ≤ 100) && decide (o.val.length ≤ 1000)) = true }) : St :=
 ⟨[(0, true, .d (.sl 3 (l.map qh))), (3, true, .d (.int .i64 (IntKind.i64.wrap (vSum (l.take i.val) : Nat)))), (4, true, .d (.int .i64 (i.val : Nat)))], [], [], 1⟩
theorem qzi (l : List OpS) (hl : l.length ≤ maxLen) : qg Tryz.prog 29 [.d (.sl 3 (l.map qh))] [] (.d (.bool (sFew l))) [] := by
 have hl : l.length ≤ 9223372036854775807 := hl
 refine F29.go ?_
 try (refine ev ?_; try exact True.intro)
 refine qj (Sfew l) (fun i => l.length - i.val) ⟨0, Nat.zero_le _, rfl⟩ ?_ (fun i => ?_)
 ·have w0 : IntKind.i64.wrap 0 = 0 := rfl
  try (refine ev6 @Sfew.eq_1 @List.take_zero.{0} @vSum.eq_1 @List.sum_nil.{0} @Int.ofNat_zero @w0 ?_; try exact True.intro)
 obtain ⟨i, hi, ha⟩ := i
 try (refine ev1 @Sfew.eq_1 ?_; try exact True.intro)
 (repeat (with_reducible refine ob ?_)); refine xt _ (fun h => ?_) (fun h => ?_)
 ·have hil : i < l.length := by simpa using h
  try (refine ev2 (qq qh l hil) @qh.eq_1 ?_; try exact True.intro)
  refine ⟨by omega, fun h => ⟨h, h, by omega⟩, fun h => by rw [h]; rfl, ?_⟩
  have hd1 : decide ((l[i].key.length : Int) > 100) = !decide (l[i].key.length ≤ 100) := by rw [← decide_not]; exact decide_eq_decide.2 (by omega)
  have hd2 : decide ((l[i].val.length : Int) > 1000) = !decide (l[i].val.length ≤ 1000) := by rw [← decide_not]; exact decide_eq_decide.2 (by omega)
  have hd : (decide ((l[i].key.length : Int) > 100) || decide ((l[i].val.length : Int) > 1000)) = !(decide (l[i].key.length ≤ 100) && decide (l[i].val.length ≤ 1000)) := by rw [hd1, hd2, Bool.not_and]
  refine xt _ (fun h => ?_) (fun h => ?_)
  ·rw [hd, Bool.not_eq_true'] at h
   have : sFew l = false := by rw [sFew, qm2 hil h]; rfl
   try (refine ev1 @this ?_; try exact True.intro)
  ·rw [hd, Bool.not_eq_false'] at h
   try (refine ev2 (qq qh l hil) @qh.eq_1 ?_; try exact True.intro)
   (repeat (with_reducible refine ob ?_))
   refine ⟨⟨i + 1, hil, v9 ha hil h⟩, ?_, by dsimp only; omega⟩
   try (refine ev4 @Sfew.eq_1 (q5n l hil) @q5m (qi (show i < 9223372036854775807 by omega)) ?_; try exact True.intro)
 ·have hil : i = l.length := by
   have : l.length ≤ i := by simpa using h
   omega
  subst hil
  rw [List.take_length] at ha
  have hv := xdj l ha
  try (refine ev3 @List.take_length.{0} @sFew.eq_1 @ha ?_; try exact True.intro)
  by_cases h30 : l.length ≤ 30
  ·rw [wrap_i64 (by omega) (by omega)]
   have e1 : decide ((l.length : Int) ≤ 30) = true := by simp; omega
   have e2 : decide (((vSum l : Nat) : Int) ≤ 3000) = decide (vSum l ≤ 3000) := decide_eq_decide.2 (by omega)
   simp only [e1, e2, h30, decide_true, Bool.true_and]
  ·have : decide ((l.length : Int) ≤ 30) = false := by simp; omega
   rw [this]
   simp [h30]
structure StepS where
 kind : Int
 ops : List OpS
 deriving DecidableEq, Inhabited
def xi (x : StepS) : List D := [.int .i64 x.kind, .sl 3 (x.ops.map qh)]
theorem qh0 (o : StepS) : D.noPtrL (xi o) = true := by simp only [xi, D.noPtrL, D.noPtr, qae, Bool.and_self]
theorem qxv (l : List StepS) : D.noPtrR (l.map xi) = true := xz qh0 l
attribute [go_sem] qh0 qxv
theorem q91 {l : List OpS} (h : sFew l = true) : l.length ≤ 30 ∧ ∀ o ∈ l, o.key.length ≤ 100 ∧ o.val.length ≤ 1000 := by
 unfold sFew at h
 simp only [Bool.and_eq_true, List.all_eq_true, decide_eq_true_eq] at h
 exact ⟨h.1.2, fun o ho => h.1.1 o ho⟩
noncomputable section
set_option maxRecDepth 100000
set_option linter.defProp false
def d17 := cut Tryz.prog Tryz.f17 news
@[go_sem] def E17 := ql d17
end
def ops1 : List OpS := [⟨[97], false, [1]⟩, ⟨[98], false, [2]⟩]
def ops2 : List OpS := [⟨[97], true, []⟩]
def st1 : Sto := (xh newS ops1).1
def st2 : Sto := (xh st1 ops2).1
theorem c1 : (xh newS ops1).2 = 0 := by decide +kernel
theorem c2 : (xh st1 ops2).2 = 0 := by decide +kernel
theorem c3 : qbe st2.m [] = [([98], [2])] := by decide +kernel
theorem qrf : qg Tryz.prog 10 [] [] (.d (.ptr 1 0)) [mapO newS.m, stoO newS 0] := xe7
end Go.Proofs.YtinnaedmdoengaaGreat
namespace Go.Proofs.YtinnaedmdoengaaGreat
open Go.Abs
set_option linter.unusedSimpArgs false
set_option linter.unusedVariables false
noncomputable section
set_option maxRecDepth 100000
set_option linter.defProp false
def d214 := cut Tryz.prog Tryz.f214 news
@[go_sem] def E214 := ql d214
def d216 := cut Tryz.prog Tryz.f216 news
@[go_sem] def E216 := ql d216
def d213 := cut Tryz.prog Tryz.f213 news
@[go_sem] def E213 := ql d213
def d204 := cut Tryz.prog Tryz.f204 news
@[go_sem] def E204 := ql d204
def d57 := cut Tryz.prog Tryz.f57 news
@[go_sem] def E57 := ql d57
def d167 := cut Tryz.prog Tryz.f167 news
@[go_sem] def E167 := ql d167
end
def wk (l : List Nat) : List (List D) := l.map fun n => [.int .i64 (n : Nat)]
end Go.Proofs.YtinnaedmdoengaaGreat
namespace Go.Proofs.YtinnaedmdoengaaGreat
open Go.Abs
set_option linter.unusedSimpArgs false
set_option linter.unusedVariables false
noncomputable section
set_option maxRecDepth 100000
set_option linter.defProp false
def d166 := cut Tryz.prog Tryz.f166 news
@[go_sem] def E166 := ql d166
def d111 := cut Tryz.prog Tryz.f111 news
@[go_sem] def E111 := ql d111
def d58 := cut Tryz.prog Tryz.f58 news
@[go_sem] def E58 := ql d58
end
def wc (l : List (List UInt8)) : List (List D) := l.map fun r => [.sl 1 (qd r)]
theorem qrh (l : List (List UInt8)) : D.noPtrR (wc l) = true := xz (fun r => by simp only [D.noPtrL, D.noPtr, jo, Bool.and_self]) l
theorem qxx (l : List (List UInt8)) : (wc l).length = l.length := by simp [wc]
theorem qxy : wc [] = [] := rfl
theorem qri (l : List Nat) : D.noPtrR (wk l) = true := xz (fun _ => rfl) l
theorem qxz (l : List Nat) : (wk l).length = l.length := by simp [wk]
theorem qx0 : wk [] = [] := rfl
attribute [go_sem] qrh qxx qxy qri qxz qx0
end Go.Proofs.YtinnaedmdoengaaGreat
namespace Go.Proofs.YtinnaedmdoengaaGreat
open Go.Abs
set_option linter.unusedSimpArgs false
set_option linter.unusedVariables false
noncomputable section
set_option maxRecDepth 100000
set_option linter.defProp false
def d175 := cut Tryz.prog Tryz.f175 news
@[go_sem] def E175 := ql d175
def F175 := fnC d175 follows Tryz.func175
def xfi := cut Tryz.prog Tryz.f176 news [5] [2] true
@[go_sem] def xhi := ql xfi
def q5s := fnC xfi follows Tryz.func176
def d177 := cut Tryz.prog Tryz.f177 news
@[go_sem] def E177 := ql d177
def d116 := cut Tryz.prog Tryz.f116 news
@[go_sem] def E116 := ql d116
def d60 := cut Tryz.prog Tryz.f60 news
@[go_sem] def E60 := ql d60
end
def qzj (h : Nat) (s : List UInt8) (i : { i : Nat // i ≤ s.length }) : St :=
 ⟨[(1, true, .d (.sl 1 (qd s))), (5, true, .d (.int .u64 (fnv h (s.take i.val) : Nat))), (6, true, .d (.int .i64 (i.val : Nat)))], [], [], 1⟩
theorem qk6 (h : Nat) (s : List UInt8) (hh : h < 18446744073709551616) (hl : s.length ≤ 1000000000) : qg Tryz.prog 175 [.d (.int .u64 h), .d (.sl 1 (qd s))] [] (.d (.int .u64 (fnv h s : Nat))) [] := by
 refine F175.go ?_
 try (refine ev ?_; try exact True.intro)
 refine qj (qzj h s) (fun i => s.length - i.val) ⟨0, Nat.zero_le _⟩ ?_ (fun i => ?_)
 ·try (refine ev4 @qzj.eq_1 @List.take_zero.{0} @qqz @Int.ofNat_zero ?_; try exact True.intro)
 obtain ⟨i, hi⟩ := i
 try (refine ev1 @qzj.eq_1 ?_; try exact True.intro)
 (repeat (with_reducible refine ob ?_)); refine xt _ (fun h => ?_) (fun h => ?_)
 ·have hil : i < s.length := by simpa using h
  try (refine ev1 (xn s hil) ?_; try exact True.intro)
  (repeat (with_reducible refine ob ?_))
  try simp only [qq0 _ _ (qc9 hh (s.take i)) (qag s[i]), go_sem, Nat.reduceAdd, Nat.reduceMul, Nat.reduceSub, Nat.reduceEqDiff, Nat.reduceLT, Nat.reduceLeDiff, Nat.reduceBEq, reduceIte, reduceCtorEq, Int.reduceAdd, Int.reduceLT, Int.reduceLE, Int.reduceGT, Int.reduceGE, Int.reduceEq, Int.reduceNe, Int.reduceBEq, Int.reduceBNe, Int.reduceToNat, Int.reduceNeg]
  refine ⟨⟨i + 1, hil⟩, ?_, by dsimp only; omega⟩
  try (refine ev4 @qzj.eq_1 (qi (show i < 9223372036854775807 by omega)) (List.take_succ_eq_append_getElem hil) @qk2 ?_; try exact True.intro)
 ·have hie : i = s.length := by simp at h; omega
  subst hie
  try (refine ev1 @List.take_length.{0} ?_; try exact True.intro)
theorem q5t (h : Nat) : ∀ {k : Nat}, k < 8 → ((List.replicate (8 - k) 0 ++ (be8 h).drop (8 - k)).map zo).set (7 - k) (D.int .u8 ((UInt8.ofNat (h / 256 ^ k)).toNat : Int)) = (List.replicate (8 - (k + 1)) 0 ++ (be8 h).drop (8 - (k + 1))).map zo
 | 0, _ => rfl
 | 1, _ => rfl
 | 2, _ => rfl
 | 3, _ => rfl
 | 4, _ => rfl
 | 5, _ => rfl
 | 6, _ => rfl
 | 7, _ => rfl
def qzk (h : Nat) (k : { k : Nat // k ≤ 8 }) : St :=
 ⟨[(0, true, .d (.int .u64 (h / 256 ^ k.val : Nat))), (3, true, .d (.ref 0 0 1 8)), (4, true, .d (.int .i64 (7 - (k.val : Int))))], [.row (((List.replicate (8 - k.val) 0 ++ (be8 h).drop (8 - k.val)).map zo).map .d)], [], 1⟩
theorem qh1 (h : Nat) (hh : h < 18446744073709551616) : qg Tryz.prog 176 [.d (.int .u64 h)] [] (.d (.sl 1 (qd (be8 h)))) [] := by
 refine q5s.go ?_
 try (refine ev ?_; try exact True.intro)
 refine ⟨by decide, ?_⟩
 refine qy6 (.fr 3) 32 1 (List.replicate 8 [D.int .u8 0]) ?_
 refine pu ?_
 try (refine ev ?_; try exact True.intro)
 refine qj (qzk h) (fun k => 8 - k.val) ⟨0, by simp⟩ ?_ (fun k => ?_)
 ·try (refine ev8 @qzk.eq_1 @Nat.pow_zero @Nat.div_one @Nat.sub_zero @Int.ofNat_zero @Int.sub_zero @be8.eq_1 @zo.eq_1 ?_; try exact True.intro)
  rfl
 obtain ⟨k, hk⟩ := k
 try (refine ev1 @qzk.eq_1 ?_; try exact True.intro)
 refine xt _ (fun hc => ?_) (fun hc => ?_)
 ·have hkl : k < 8 := by simp at hc; omega
  have e1 : (7 - (k : Int)).toNat = 7 - k := by omega
  have e2 : IntKind.u8.wrap (((h / 256 ^ k : Nat) : Int).tmod 256) = ((UInt8.ofNat (h / 256 ^ k)).toNat : Int) := by
   generalize h / 256 ^ k = x
   rw [Int.tmod_eq_emod_of_nonneg (by omega), qew, UInt8.toNat_ofNat']
   omega
  have e3 : IntKind.u64.wrap (((h / 256 ^ k : Nat) : Int).tdiv 256) = ((h / 256 ^ (k + 1) : Nat) : Int) := by
   have h1 : h / 256 ^ k ≤ h := Nat.div_le_self _ _
   have h2 : h / 256 ^ (k + 1) = h / 256 ^ k / 256 := by rw [Nat.pow_succ, Nat.div_div_eq_div_mul]
   rw [h2]
   generalize h / 256 ^ k = x at h1
   rw [Int.tdiv_eq_ediv_of_nonneg (by omega), show ((x : Int) / 256) = ((x / 256 : Nat) : Int) by omega, f2 _ (by omega)]
  have e4 : IntKind.i64.wrap (7 - (k : Int) - 1) = 7 - ((k + 1 : Nat) : Int) := by rw [xk (by unfold I64; omega)]; omega
  try (refine ev6 @Nat.mul_one @e1 @e2 @e3 @qai (q5t h hkl) ?_; try exact True.intro)
  refine ⟨by omega, by simp only [List.length_replicate, List.length_drop, zc]; omega, ⟨k + 1, hkl⟩, ?_, by dsimp only; omega⟩
  try (refine ev2 @qzk.eq_1 @e4 ?_; try exact True.intro)
 ·have : k = 8 := by simp at hc; omega
  subst this
  try (refine ev ?_; try exact True.intro)
  refine xbp 0 1 (qd (be8 h)) ?_ (hc := ?_) (hcc := ?_) (hes := ?_) (hok := D.okWR_noPtr (jo _))
  ·refine pu ?_
   try (refine ev1 @zc ?_; try exact True.intro)
  ·try (refine ev ?_; try exact True.intro)
   rw [qah]
  ·try (refine ev ?_; try exact True.intro)
  ·intro r hr
   obtain ⟨x, _, rfl⟩ := List.mem_map.1 hr
   rfl
end Go.Proofs.YtinnaedmdoengaaGreat
namespace Go.Proofs.YtinnaedmdoengaaGreat
open Go.Abs
set_option linter.unusedSimpArgs false
set_option linter.unusedVariables false
noncomputable section
set_option maxRecDepth 100000
set_option linter.defProp false
def d125 := cut Tryz.prog Tryz.f125 news
@[go_sem] def E125 := ql d125
def F125 := fnC d125 follows Tryz.func125
def d130 := cut Tryz.prog Tryz.f130 news
@[go_sem] def E130 := ql d130
def F130 := fnC d130 follows Tryz.func130
def d128 := cut Tryz.prog Tryz.f128 news
@[go_sem] def E128 := ql d128
def F128 := fnC d128 follows Tryz.func128
def d129 := cut Tryz.prog Tryz.f129 news
@[go_sem] def E129 := ql d129
def F129 := fnC d129 follows Tryz.func129
def d127 := cut Tryz.prog Tryz.f127 news
@[go_sem] def E127 := ql d127
def F127 := fnC d127 follows Tryz.func127
def d73 := cut Tryz.prog Tryz.f73 news
@[go_sem] def E73 := ql d73
def F73 := fnC d73 follows Tryz.func73
end
def qe2 (n : Int) (i : { x : List UInt8 × Nat // x.1 ++ qbj x.2 = wInt n ∧ x.2 < 18446744073709551616 }) : St :=
 ⟨[(3, true, .d (.int .u64 (i.val.2 : Nat))), (4, true, .own 0 1 (qd i.val.1))], [], [0], 1⟩
theorem yl (n : Int) (hn : I64 n) : qg Tryz.prog 125 [.d (.int .i64 n)] [] (.own 0 1 (qd (wInt n))) [] := by
 have hz := q9d hn
 obtain ⟨hn1, hn2⟩ := hn
 have hrest : ∀ Q : SExit → St → Prop, True := fun _ => trivial
 refine F125.go ?_
 try (refine ev ?_; try exact True.intro)
 have b128 : ∀ u : Nat, u < 18446744073709551616 → IntKind.u8.wrap (IntKind.u8.wrap ((u : Int).tmod 128) + 128) = ((UInt8.ofNat (u % 128 + 128)).toNat : Int) := by
  intro u hu
  rw [Int.tmod_eq_emod_of_nonneg (by omega), qew, qew, show ((u : Int) % 128 % 256 + 128) % 256 = ((u % 128 + 128 : Nat) : Int) by omega]
  simp [UInt8.toNat_ofNat]; omega
 have q128 : ∀ u : Nat, u < 18446744073709551616 → IntKind.u64.wrap ((u : Int).tdiv 128) = ((u / 128 : Nat) : Int) := by
  intro u hu
  rw [Int.tdiv_eq_ediv_of_nonneg (by omega), show ((u : Int) / 128) = ((u / 128 : Nat) : Int) by omega, f2 _ (by omega)]
 refine xt _ (fun h => ?_) (fun h => ?_)
 ·have e : IntKind.u64.wrap (IntKind.u64.wrap (IntKind.u64.wrap (IntKind.i64.wrap (0 - IntKind.i64.wrap (n + 1))) * 2) + 1) = ((zz n : Nat) : Int) := by
   simp at h
   rw [xk (n := n + 1) (by unfold I64; omega), xk (by unfold I64; omega)]
   simp only [qgn]
   unfold zz; rw [if_neg (by omega)]; omega
  try (refine ev1 @e ?_; try exact True.intro)
  refine qj (qe2 n) (fun i => i.val.2) ⟨([], zz n), by simp [wInt], hz⟩ ?_ (fun i => ?_)
  ·try (refine ev2 @qe2.eq_1 @qm ?_; try exact True.intro)
  obtain ⟨⟨p, u⟩, hi, hu⟩ := i
  simp only at hi hu
  have hl : p.length ≤ 10 := by
   have h1 := congrArg List.length hi
   have h2 := xj (n := n) ⟨hn1, hn2⟩
   simp at h1; omega
  try (refine ev1 @qe2.eq_1 ?_; try exact True.intro)
  refine xt _ (fun hc => ?_) (fun hc => ?_)
  ·have hc2 : ¬ u < 128 := by simp at hc; omega
   try (refine ev4 (b128 u hu) (q128 u hu) @yu @qt ?_; try exact True.intro)
   (repeat (with_reducible refine ob ?_))
   refine ⟨⟨(p ++ [UInt8.ofNat (u % 128 + 128)], u / 128), ?_, by omega⟩, ?_, by simp only; omega⟩
   ·simp only at hi ⊢; rw [qca hc2] at hi; rw [← hi]; simp
   ·try (refine ev1 @qe2.eq_1 ?_; try exact True.intro)
  ·have hc2 : u < 128 := by simp at hc; omega
   try (refine ev3 @qqy @yu @qt ?_; try exact True.intro)
   (repeat (with_reducible refine ob ?_))
   simp only [qau hc2] at hi
   try (refine ev1 @hi ?_; try exact True.intro)
 ·have e : IntKind.u64.wrap (IntKind.u64.wrap n * 2) = ((zz n : Nat) : Int) := by
   simp at h
   simp only [qgn]
   unfold zz; rw [if_pos (by omega)]; omega
  try (refine ev1 @e ?_; try exact True.intro)
  refine qj (qe2 n) (fun i => i.val.2) ⟨([], zz n), by simp [wInt], hz⟩ ?_ (fun i => ?_)
  ·try (refine ev2 @qe2.eq_1 @qm ?_; try exact True.intro)
  obtain ⟨⟨p, u⟩, hi, hu⟩ := i
  simp only at hi hu
  have hl : p.length ≤ 10 := by
   have h1 := congrArg List.length hi
   have h2 := xj (n := n) ⟨hn1, hn2⟩
   simp at h1; omega
  try (refine ev1 @qe2.eq_1 ?_; try exact True.intro)
  refine xt _ (fun hc => ?_) (fun hc => ?_)
  ·have hc2 : ¬ u < 128 := by simp at hc; omega
   try (refine ev4 (b128 u hu) (q128 u hu) @yu @qt ?_; try exact True.intro)
   (repeat (with_reducible refine ob ?_))
   refine ⟨⟨(p ++ [UInt8.ofNat (u % 128 + 128)], u / 128), ?_, by omega⟩, ?_, by simp only; omega⟩
   ·simp only at hi ⊢; rw [qca hc2] at hi; rw [← hi]; simp
   ·try (refine ev1 @qe2.eq_1 ?_; try exact True.intro)
  ·have hc2 : u < 128 := by simp at hc; omega
   try (refine ev3 @qqy @yu @qt ?_; try exact True.intro)
   (repeat (with_reducible refine ob ?_))
   simp only [qau hc2] at hi
   try (refine ev1 @hi ?_; try exact True.intro)
theorem qm4 (s : List UInt8) (hs : s.length ≤ 100000000) : qg Tryz.prog 130 [.d (.sl 1 (qd s))] [] (.own 0 1 (qd (yh s))) [] := by
 have hw := xj (xp (n := s.length) (by omega))
 refine F130.go ?_
 try (refine ev ?_; try exact True.intro)
 refine clA F125 (yl s.length (xp (by omega))) ?_
 try (refine ev2 @qt @yh.eq_1 ?_; try exact True.intro)
 omega
theorem qpd (s : List UInt8) (hs : s.length ≤ 100000000) : qg Tryz.prog 128 [.d (.str s)] [] (.own 0 1 (qd (yh s))) [] := by
 refine F128.go ?_
 try (refine ev ?_; try exact True.intro)
 refine clA F130 (qm4 s hs) ?_
 try (refine ev ?_; try exact True.intro)
theorem qpe (v : Bool) : qg Tryz.prog 129 [.d (.bool v)] [] (.full 1 (qd [if v then 1 else 0])) [] := by
 refine F129.go ?_
 try (refine ev ?_; try exact True.intro)
 have e1 : [[D.int .u8 1]] = qd [1] := rfl
 have e0 : [[D.int .u8 0]] = qd [0] := rfl
 cases v with
 | true =>
  (repeat (with_reducible refine ob ?_)); refine qb9 ?_
  try (refine ev1 @e1 ?_; try exact True.intro)
 | false =>
  (repeat (with_reducible refine ob ?_)); refine no_ ?_
  try (refine ev1 @e0 ?_; try exact True.intro)
def qx1 (o : OpS) : Bool := decide ((o.key.length : Int) ≥ 1) && decide ((o.key.length : Int) ≤ 40) && decide ((o.val.length : Int) ≤ 900) && (!o.del || (o.val.length : Int) == 0)
theorem q2e (o : OpS) : qx1 o = je o := by
 unfold qx1 je
 congr 1
 cases o.del
 ·rfl
 ·rw [Bool.eq_iff_iff]; simp
theorem q2f (o : OpS) : qg Tryz.prog 127 [.d (.agg (qh o))] [] (.d (.bool (je o))) [] := by
 rw [← q2e]
 refine F127.go ?_
 try (refine ev2 @qh.eq_1 @qx1.eq_1 ?_; try exact True.intro)
 intro h
 exact ⟨h, fun h2 => by rw [h]; simpa using h2⟩
def q95 (l : List OpS) (i : { i : Nat // i ≤ l.length ∧ ∀ o ∈ l.take i, je o = true }) : St :=
 ⟨[(0, true, .d (.sl 3 (l.map qh))), (4, true, .own 0 1 (qd (wInt l.length ++ (l.take i.val).flatMap wOp))), (5, true, .d (.int .i64 (i.val : Nat)))], [], [0], 1⟩
set_option maxRecDepth 10000 in
theorem qcv (l : List OpS) (hl : l.length ≤ 100000) : qg Tryz.prog 73 [.d (.sl 3 (l.map qh))] [] (.tup [.d (.sl 1 (qd (qo l).1)), .d (.int .i64 (qo l).2)]) [] := by
 refine F73.goT ?_
 try (refine ev ?_; try exact True.intro)
 (repeat (with_reducible refine ob ?_)); refine xt _ (fun h => ?_) (fun h => ?_)
 ·have hb : qo l = ([], 1) := by
   unfold qo
   rw [if_pos]
   simp at h ⊢
   exact .inl h
  try (refine ev2 @hb @qm ?_; try exact True.intro)
 have hw := xj (xp (n := l.length) (by omega))
 try (refine ev ?_; try exact True.intro)
 refine clA F125 (yl l.length (xp (by omega))) ?_
 try (refine ev ?_; try exact True.intro)
 refine qj (q95 l) (fun i => l.length - i.val) ⟨0, Nat.zero_le _, by simp⟩ ?_ (fun i => ?_)
 ·try (refine ev4 @q95.eq_1 @List.take_zero.{0} @List.flatMap_nil.{0,0} @List.append_nil.{0} ?_; try exact True.intro)
 obtain ⟨i, hi, hp⟩ := i
 try (refine ev1 @q95.eq_1 ?_; try exact True.intro)
 refine xt _ (fun hc => ?_) (fun hc => ?_)
 ·have hil : i < l.length := by simpa using hc
  have hwl := qfj hp
  have hwt : (l.take i).length ≤ i := by rw [List.length_take]; omega
  try (refine ev2 (qq qh l hil) @qh.eq_1 ?_; try exact True.intro)
  (repeat (with_reducible refine ob ?_))
  have hpo := q2f l[i]
  simp only [qh] at hpo
  (repeat (with_reducible refine ob ?_)); first | refine cl F127 (hpo) ?_ | refine clF F127 (hpo) (fun _ => by (refine ev3 @qh.eq_1 @qp.eq_1 @xi.eq_1 ?_; try exact True.intro)) ?_
  try (refine ev ?_; try exact True.intro)
  refine xt _ (fun hc => ?_) (fun hc => ?_)
  ·have hb : qo l = ([], 1) := by
    unfold qo
    rw [if_pos]
    simp only [Bool.or_eq_true, List.any_eq_true]
    exact .inr ⟨l[i], List.getElem_mem hil, hc⟩
   try (refine ev2 @hb @qm ?_; try exact True.intro)
  have hpi : je l[i] = true := by simpa using hc
  obtain ⟨q1, q2, q3, _⟩ := jh.1 hpi
  try (refine ev2 (qq qh l hil) @qh.eq_1 ?_; try exact True.intro)
  (repeat (with_reducible refine ob ?_))
  have hw2 := qxj hpi
  have hk := qa3 l[i].key (by omega)
  have hv := qa3 l[i].val (by omega)
  refine clA F128 (qpd l[i].key (by omega)) ?_
  try (refine ev1 @qt ?_; try exact True.intro)
  (repeat (with_reducible refine ob ?_))
  try (refine ev2 (qq qh l hil) @qh.eq_1 ?_; try exact True.intro)
  (repeat (with_reducible refine ob ?_))
  (repeat (with_reducible refine ob ?_)); first | refine cl F129 (qpe l[i].del) ?_ | refine clF F129 (qpe l[i].del) (fun _ => by (refine ev3 @qh.eq_1 @qp.eq_1 @xi.eq_1 ?_; try exact True.intro)) ?_
  try (refine ev1 @qt ?_; try exact True.intro)
  (repeat (with_reducible refine ob ?_))
  try (refine ev2 (qq qh l hil) @qh.eq_1 ?_; try exact True.intro)
  (repeat (with_reducible refine ob ?_))
  refine clA F130 (qm4 l[i].val (by omega)) ?_
  try (refine ev1 @qt ?_; try exact True.intro)
  (repeat (with_reducible refine ob ?_))
  have h1 : wInt l.length ++ (l.take (i + 1)).flatMap wOp = wInt l.length ++ List.flatMap wOp (List.take i l) ++ yh l[i].key ++ [if l[i].del = true then 1 else 0] ++ yh l[i].val := by
   rw [qaf wOp l hil]; simp [wOp]
  refine ⟨⟨i + 1, hil, fun o ho => ?_⟩, ?_, by dsimp only; omega⟩
  ·rw [List.take_succ_eq_append_getElem hil] at ho
   rcases List.mem_append.1 ho with ho | ho
   ·exact hp o ho
   ·simp at ho; subst ho; exact hpi
  try (refine ev3 @q95.eq_1 @h1 (qi (show i < 9223372036854775807 by omega)) ?_; try exact True.intro)
 ·have hil : i = l.length := by simp at hc; omega
  subst hil
  rw [List.take_length] at hp
  have hwl := qfj hp
  have hne : ¬ (decide (l.length = 0) || l.any (fun o => !je o)) = true := by
   simp only [Bool.or_eq_true, decide_eq_true_eq, not_or, List.any_eq_true, not_exists, not_and]
   exact ⟨by simp at h; simpa using h, fun o ho => by simp [hp o ho]⟩
  have hx : wInt l.length ++ l.flatMap wOp = wOps l := rfl
  try (refine ev2 @List.take_length.{0} @hx ?_; try exact True.intro)
  refine ⟨fun h => by rw [h]; rfl, ?_⟩
  refine xt _ (fun hc => ?_) (fun hc => ?_)
  ·have hb : qo l = ([], 6) := by
    unfold qo
    rw [if_neg hne, if_pos]
    simp only [Bool.or_eq_true, decide_eq_true_eq] at hc ⊢
    omega
   try (refine ev2 @hb @qm ?_; try exact True.intro)
  ·have hb : qo l = (wOps l, 0) := by
    unfold qo
    rw [if_neg hne, if_neg]
    simp only [Bool.or_eq_true, Bool.or_eq_false_iff, decide_eq_true_eq, decide_eq_false_iff_not] at hc ⊢
    omega
   try (refine ev1 @hb ?_; try exact True.intro)
end Go.Proofs.YtinnaedmdoengaaGreat
namespace Go.Proofs.YtinnaedmdoengaaGreat
open Go.Abs
set_option linter.unusedSimpArgs false
set_option linter.unusedVariables false
structure Rd where
 b : List UInt8
 pos : Nat
 failed : Bool
 deriving DecidableEq, Inhabited
def rdO (r : Rd) : AObj := .row [.d (.sl 1 (qd r.b)), .d (.int .i64 (r.pos : Nat)), .d (.bool r.failed)]
structure Rd.Ok (r : Rd) : Prop where
 len : r.b.length ≤ 1000000000
 pos : r.pos ≤ r.b.length
def vj (n : Nat) (r : Rd) : List UInt8 × Rd := if r.failed || decide (r.b.length - r.pos < n) then ([], { r with failed := true }) else ((r.b.drop r.pos).take n, { r with pos := r.pos + n })
noncomputable section
set_option maxRecDepth 100000
set_option linter.defProp false
def d54 := cut Tryz.prog Tryz.f54 news
@[go_sem] def E54 := ql d54
def F54 := fnC d54 follows Tryz.func54
def d152 := cut Tryz.prog Tryz.f152 news
@[go_sem] def E152 := ql d152
def F152 := fnC d152 follows Tryz.func152
def d162 := cut Tryz.prog Tryz.f162 news
@[go_sem] def E162 := ql d162
def F162 := fnC d162 follows Tryz.func162
def d109 := cut Tryz.prog Tryz.f109 news
@[go_sem] def E109 := ql d109
def F109 := fnC d109 follows Tryz.func109
end
theorem qrl (b : List UInt8) (hb : b.length ≤ 1000000000) : qg Tryz.prog 54 [.d (.sl 1 (qd b))] [] (.d (.ptr 0 0)) [rdO ⟨b, 0, false⟩] := by
 refine F54.go ?_
 try (refine ev ?_; try exact True.intro)
 (repeat (with_reducible refine ob ?_))
 try (refine ev2 @rdO.eq_1 @Int.ofNat_zero ?_; try exact True.intro)
theorem qrm (r : Rd) (n : Nat) (hr : r.Ok) (hn : n ≤ 1000000000) : qg Tryz.prog 152 [.d (.ptr 0 0), .d (.int .i64 n)] [rdO r] (.d (.sl 1 (qd (vj n r).1))) [rdO (vj n r).2] := by
 have h1 := hr.len
 have h2 := hr.pos
 have e1 : IntKind.i64.wrap ((r.b.length : Int) - (r.pos : Int)) = ((r.b.length - r.pos : Nat) : Int) := by rw [xk (by unfold I64; omega)]; omega
 have e2 : IntKind.i64.wrap ((r.pos : Int) + (n : Int)) = ((r.pos + n : Nat) : Int) := by rw [xk (by unfold I64; omega)]; omega
 have e3 : IntKind.i64.wrap ((r.pos : Int) + (n : Int) - (n : Int)) = ((r.pos : Nat) : Int) := by rw [xk (by unfold I64; omega)]; omega
 have e5 : ((r.pos : Int) + (n : Int)).toNat = r.pos + n := by omega
 refine F152.go ?_
 try (refine ev2 @rdO.eq_1 @e1 ?_; try exact True.intro)
 refine ⟨fun h => by rw [h]; rfl, ?_⟩
 have hd : (r.failed || decide ((n : Int) > ((r.b.length - r.pos : Nat) : Int))) = (r.failed || decide (r.b.length - r.pos < n)) := by
  congr 1; exact decide_eq_decide.2 (by omega)
 refine xt _ (fun h => ?_) (fun h => ?_)
 ·rw [hd] at h
  have hx : vj n r = ([], { r with failed := true }) := by unfold vj; rw [if_pos h]
  try (refine ev2 @hx @qm ?_; try exact True.intro)
 ·rw [hd] at h
  have hx : vj n r = ((r.b.drop r.pos).take n, { r with pos := r.pos + n }) := by unfold vj; rw [if_neg (by rw [h]; simp)]
  simp only [Bool.or_eq_false_iff, decide_eq_false_iff_not] at h
  have e4 : r.pos + n - r.pos = n := by omega
  try (refine ev2 @hx @e2 ?_; try exact True.intro)
  try (refine ev1 @e3 ?_; try exact True.intro)
  (repeat (with_reducible refine ob ?_))
  try (refine ev6 @xq @xf @e4 @e3 @e5 @Int.toNat_natCast ?_; try exact True.intro)
theorem qe3 {r : Rd} (hr : r.Ok) (n : Nat) : (vj n r).2.Ok ∧ (vj n r).2.b = r.b := by
 unfold vj
 split
 ·exact ⟨⟨hr.len, hr.pos⟩, rfl⟩
 ·rename_i h
  simp only [Bool.or_eq_true, decide_eq_true_eq, not_or] at h
  have := hr.pos
  exact ⟨⟨hr.len, by simp only; omega⟩, rfl⟩
theorem q96 (r : Rd) (hr : r.Ok) : qg Tryz.prog 162 [.d (.ptr 0 0)] [rdO r] (.d (.int .i64 (r.b.length - r.pos : Nat))) [rdO r] := by
 have h1 := hr.len
 have h2 := hr.pos
 have e1 : IntKind.i64.wrap ((r.b.length : Int) - (r.pos : Int)) = ((r.b.length - r.pos : Nat) : Int) := by rw [xk (by unfold I64; omega)]; omega
 refine F162.go ?_
 try (refine ev1 @rdO.eq_1 ?_; try exact True.intro)
 (repeat (with_reducible refine ob ?_)); refine no_ ?_
 try (refine ev1 @e1 ?_; try exact True.intro)
def rEnd (r : Rd) : Int := if r.failed || decide (r.pos < r.b.length) then 4 else 0
theorem q5u (r : Rd) (hr : r.Ok) : qg Tryz.prog 109 [.d (.ptr 0 0)] [rdO r] (.d (.int .i64 (rEnd r))) [rdO r] := by
 have h2 := hr.pos
 have hl := q96 r hr
 simp only [rdO] at hl
 obtain ⟨b, p, f⟩ := r
 refine F109.go ?_
 try (refine ev1 @rdO.eq_1 ?_; try exact True.intro)
 (repeat (with_reducible refine ob ?_)); refine no_ ?_
 cases f
 ·try (refine ev ?_; try exact True.intro)
  (repeat (with_reducible refine ob ?_)); refine clO [0] F162 (hl) ?_
  try (refine ev ?_; try exact True.intro)
  refine xt _ (fun h => ?_) (fun h => ?_)
  ·have hx : rEnd ⟨b, p, false⟩ = 4 := by unfold rEnd; rw [if_pos]; simp at h ⊢; omega
   try (refine ev1 @hx ?_; try exact True.intro)
  ·have hx : rEnd ⟨b, p, false⟩ = 0 := by unfold rEnd; rw [if_neg]; simp at h ⊢; omega
   try (refine ev1 @hx ?_; try exact True.intro)
 ·try (refine ev ?_; try exact True.intro)
  refine qac (.int .i64 0) rfl ?_
  try (refine ev1 @rEnd.eq_1 ?_; try exact True.intro)
  (repeat (with_reducible refine ob ?_)); refine qb9 ?_
  try (refine ev ?_; try exact True.intro)
def unz (u : Nat) : Int := if u % 2 = 0 then (u / 2 : Nat) else -((u / 2 : Nat) : Int) - 1
def qh2 : Nat → Nat → Nat → Rd → Int × Rd
 | 0, _, _, r => (0, { r with failed := true })
 | k + 1, i, u, r =>
  if (vj 1 r).2.failed then (0, (vj 1 r).2) else
   if ((vj 1 r).1.headD 0).toNat < 128 then (unz ((u + ((vj 1 r).1.headD 0).toNat % 128 * 128 ^ i) % 18446744073709551616), { (vj 1 r).2 with failed := (((vj 1 r).1.headD 0).toNat == 0 && decide (0 < i)) || (decide (i = 9) && decide (((vj 1 r).1.headD 0).toNat > 1)) })
   else qh2 k (i + 1) ((u + ((vj 1 r).1.headD 0).toNat % 128 * 128 ^ i) % 18446744073709551616) (vj 1 r).2
def rInt (r : Rd) : Int × Rd := qh2 10 0 0 r
noncomputable section
set_option maxRecDepth 100000
set_option linter.defProp false
def d105 := cut Tryz.prog Tryz.f105 news
@[go_sem] def E105 := ql d105
def F105 := fnC d105 follows Tryz.func105
end
theorem quy {r : Rd} (h : (vj 1 r).2.failed = false) : ∃ c, (vj 1 r).1 = [c] := by
 unfold vj at h ⊢
 split at h
 ·cases h
 ·rename_i hn
  rw [if_neg hn]
  simp only [Bool.or_eq_true, decide_eq_true_eq, not_or] at hn
  have : r.pos < r.b.length := by omega
  exact ⟨r.b[r.pos], by simp only; rw [List.drop_eq_getElem_cons this]; rfl⟩
theorem q5v (u d i : Nat) (hu : u < 2 ^ i) : u ||| d * 2 ^ i = u + d * 2 ^ i := by
 have := Nat.shiftLeft_add_eq_or_of_lt hu d
 rw [Nat.shiftLeft_eq] at this
 rw [Nat.or_comm, ← this, Nat.add_comm]
theorem q5w (i : Nat) : 128 ^ i = 2 ^ (7 * i) := by rw [Nat.pow_mul]
theorem quz (n a b : Nat) (ha : a < 2 ^ n) (hb : b < 2 ^ n) : qv5 n (a : Int) (b : Int) = ((a &&& b : Nat) : Int) := by
 unfold qv5
 rw [BitVec.ofInt_natCast, BitVec.ofInt_natCast, BitVec.toNat_and, BitVec.toNat_ofNat, BitVec.toNat_ofNat, Nat.mod_eq_of_lt ha, Nat.mod_eq_of_lt hb]
theorem q97 {u c i : Nat} (hi : i ≤ 9) (hu : u < 128 ^ i) (hc : c < 256) :
  IntKind.u64.wrap (bvOr 64 (u : Int) (IntKind.u64.wrap (IntKind.u64.wrap (IntKind.u8.wrap (qv5 8 (c : Int) 127)) * 2 ^ min (7 * i) 64))) = (((u + c % 128 * 128 ^ i) % 18446744073709551616 : Nat) : Int) := by
 have e1 : qv5 8 (c : Int) 127 = ((c % 128 : Nat) : Int) := by
  have := quz 8 c 127 (by omega) (by omega)
  rw [show c &&& 127 = c % 128 from Nat.and_two_pow_sub_one_eq_mod c 7] at this
  exact this
 have e2 : min (7 * i) 64 = 7 * i := by omega
 have hcm : c % 128 < 128 := Nat.mod_lt _ (by decide)
 rw [e1, e2, qew, show ((c % 128 : Nat) : Int) % 256 = ((c % 128 : Nat) : Int) by omega, f2 _ (by omega)]
 generalize c % 128 = d at hcm
 have e3 : ((d : Nat) : Int) * 2 ^ (7 * i) = ((d * 2 ^ (7 * i) : Nat) : Int) := by simp
 rw [e3]
 have hp : 128 ^ i ≤ 128 ^ 9 := Nat.pow_le_pow_right (by decide) hi
 have hp9 : (128 : Nat) ^ 9 = 9223372036854775808 := by decide
 have e4 : IntKind.u64.wrap ((d * 2 ^ (7 * i) : Nat) : Int) = ((d * 2 ^ (7 * i) % 18446744073709551616 : Nat) : Int) := by rw [qgn]; omega
 rw [e4, qy9 _ _ (by omega) (Nat.mod_lt _ (by decide)), q5w]
 rw [q5w] at hu
 rcases Nat.lt_or_ge i 9 with h9 | h9
 ·have hp8 : 128 ^ i ≤ 128 ^ 8 := Nat.pow_le_pow_right (by decide) (by omega)
  have e8 : (128 : Nat) ^ 8 = 72057594037927936 := by decide
  rw [q5w] at hp8
  have hd : d * 2 ^ (7 * i) ≤ 127 * 72057594037927936 := Nat.mul_le_mul (by omega) (by omega)
  rw [Nat.mod_eq_of_lt (by omega), q5v _ _ _ hu, f2 _ (by omega), Nat.mod_eq_of_lt (by omega)]
 ·have : i = 9 := by omega
  subst this
  have e9 : (2 : Nat) ^ (7 * 9) = 9223372036854775808 := by decide
  rw [e9] at hu ⊢
  have h1 : d * 9223372036854775808 % 18446744073709551616 = d % 2 * 2 ^ 63 := by
   have : (2 : Nat) ^ 63 = 9223372036854775808 := by decide
   rw [this]; omega
  rw [h1, q5v u (d % 2) 63 (by
   have : (2 : Nat) ^ 63 = 9223372036854775808 := by decide
   omega)]
  have : (2 : Nat) ^ 63 = 9223372036854775808 := by decide
  rw [this, f2 _ (by omega)]
  congr 1
  omega
theorem q98 {u : Nat} (h : u < 18446744073709551616) :
  IntKind.i64.wrap (qsd 64 (IntKind.i64.wrap ((u : Int).fdiv (2 ^ min 1 64))) (IntKind.i64.wrap (0 - IntKind.i64.wrap (IntKind.u64.wrap (qv5 64 (u : Int) 1))))) = unz u := by
 have e1 : (u : Int).fdiv (2 ^ min 1 64) = ((u / 2 : Nat) : Int) := by
  show (u : Int).fdiv 2 = _
  rw [Int.fdiv_eq_ediv_of_nonneg _ (by decide)]; omega
 have e2 : qv5 64 (u : Int) 1 = ((u % 2 : Nat) : Int) := by
  have := quz 64 u 1 (by omega) (by omega)
  rw [show u &&& 1 = u % 2 from Nat.and_two_pow_sub_one_eq_mod u 1] at this
  exact this
 rw [e1, e2, f2 _ (by omega), xk (n := ((u / 2 : Nat) : Int)) (by unfold I64; omega), xk (n := ((u % 2 : Nat) : Int)) (by unfold I64; omega), xk (n := 0 - ((u % 2 : Nat) : Int)) (by unfold I64; omega)]
 unfold qsd unz
 rcases Nat.mod_two_eq_zero_or_one u with hp | hp
 ·rw [hp, if_pos rfl]
  have : BitVec.ofInt 64 (0 - ((0 : Nat) : Int)) = 0#64 := by decide
  rw [this, BitVec.xor_zero, BitVec.ofInt_natCast, BitVec.toNat_ofNat, Nat.mod_eq_of_lt (by omega), xk (by unfold I64; omega)]
 ·rw [hp, if_neg (by decide)]
  have e3 : BitVec.ofInt 64 (0 - ((1 : Nat) : Int)) = BitVec.ofInt 64 18446744073709551615 := by decide
  rw [e3, qf8 _ (by omega)]
  simp only [IntKind.wrap, IntKind.bits, IntKind.signed]
  simp
  omega
def q99 (i u : Nat) (r : Rd) : St := ⟨[(0, true, .d (.ptr 0 0)), (3, true, .d (.int .u64 (u : Nat))), (6, true, .d (.int .i64 (i : Nat)))], [rdO r], [], 1⟩
set_option maxRecDepth 10000 in
theorem qrn (r : Rd) (hr : r.Ok) : qg Tryz.prog 105 [.d (.ptr 0 0)] [rdO r] (.d (.int .i64 (rInt r).1)) [rdO (rInt r).2] := by
 refine F105.go ?_
 try (refine ev ?_; try exact True.intro)
 refine qj (fun i : { x : Nat × Nat × Rd // x.1 ≤ 10 ∧ x.2.1 < 18446744073709551616 ∧ (x.1 ≤ 9 → x.2.1 < 128 ^ x.1) ∧ x.2.2.Ok ∧ qh2 (10 - x.1) x.1 x.2.1 x.2.2 = rInt r } => q99 i.val.1 i.val.2.1 i.val.2.2) (fun i => 10 - i.val.1) ⟨(0, 0, r), by simp, by simp, by simp, hr, rfl⟩ ?_ (fun i => ?_)
 ·try (refine ev3 @q99.eq_1 @Int.ofNat_zero @rdO.eq_1 ?_; try exact True.intro)
 obtain ⟨⟨i, u, rd⟩, hi, hu, hu2, hrd, hx⟩ := i
 simp only at hi hu hu2 hrd hx
 try (refine ev2 @q99.eq_1 @rdO.eq_1 ?_; try exact True.intro)
 (repeat (with_reducible refine ob ?_)); refine xt _ (fun h => ?_) (fun h => ?_)
 ·have hil : i < 10 := by simp at h; omega
  have hn := qrm rd 1 hrd (by decide)
  obtain ⟨hn1, hn2⟩ := qe3 hrd 1
  have hk : 10 - i = (10 - (i + 1)) + 1 := by omega
  rw [hk, qh2] at hx
  try (refine ev ?_; try exact True.intro)
  simp only [rdO] at hn
  (repeat (with_reducible refine ob ?_)); refine clO [0] F152 (hn) ?_
  try (refine ev ?_; try exact True.intro)
  cases hf : (vj 1 rd).2.failed with
  | true =>
   rw [if_pos hf] at hx
   (repeat (with_reducible refine ob ?_)); refine qb9 ?_
   try (refine ev2 hx.symm @hf ?_; try exact True.intro)
  | false =>
   rw [if_neg (by rw [hf]; simp)] at hx
   obtain ⟨c, hc⟩ := quy hf
   rw [hc] at hx ⊢
   simp only [List.headD_cons] at hx
   (repeat (with_reducible refine ob ?_)); refine no_ ?_
   have hcb : qd [c] = [[.int .u8 (c.toNat : Nat)]] := rfl
   have hlt := qag c
   have hi9 : i ≤ 9 := by omega
   have hu' : (u + c.toNat % 128 * 128 ^ i) % 18446744073709551616 < 18446744073709551616 := Nat.mod_lt _ (by decide)
   have hu2' : i ≤ 8 → (u + c.toNat % 128 * 128 ^ i) % 18446744073709551616 < 128 ^ (i + 1) := fun h8 => by
    have h1 := hu2 (by omega)
    have h2 : c.toNat % 128 < 128 := Nat.mod_lt _ (by decide)
    have h3 : c.toNat % 128 * 128 ^ i ≤ 127 * 128 ^ i := Nat.mul_le_mul_right _ (by omega)
    have h4 := Nat.mod_le (u + c.toNat % 128 * 128 ^ i) 18446744073709551616
    rw [Nat.pow_succ]
    omega
   have a1 : IntKind.i64.wrap (7 * (i : Int)) = ((7 * i : Nat) : Int) := by rw [xk (by unfold I64; omega)]; omega
   try (refine ev3 @hcb @a1 (q97 hi9 (hu2 hi9) hlt) ?_; try exact True.intro)
   refine ⟨by omega, ?_⟩
   generalize (u + c.toNat % 128 * 128 ^ i) % 18446744073709551616 = u' at hx hu' hu2'
   refine xt _ (fun hc => ?_) (fun hc => ?_)
   ·have h128 : c.toNat < 128 := by simp at hc; omega
    simp only [h128, if_true] at hx
    try (refine ev ?_; try exact True.intro)
    have hb : (((c.toNat : Nat) : Int) == 0 && decide ((i : Int) > 0) || ((i : Int) == 9) && decide (((c.toNat : Nat) : Int) > 1)) = (c.toNat == 0 && decide (0 < i) || decide (i = 9) && decide (c.toNat > 1)) := by
     have b1 : (((c.toNat : Nat) : Int) == 0) = (c.toNat == 0) := by rw [Bool.eq_iff_iff]; simp
     have b2 : decide ((i : Int) > 0) = decide (0 < i) := decide_eq_decide.2 (by omega)
     have b3 : ((i : Int) == 9) = decide (i = 9) := by rw [Bool.eq_iff_iff]; simp; omega
     have b4 : decide (((c.toNat : Nat) : Int) > 1) = decide (c.toNat > 1) := decide_eq_decide.2 (by omega)
     rw [b1, b2, b3, b4]
    rw [q98 hu', hb, ← hx]
    exact ⟨fun h => ⟨h, fun h2 => by rw [h, h2]; rfl⟩, fun h => by rw [h]; rfl, rfl, (by simp only [go_sem]), rfl, rfl⟩
   ·have h128 : ¬ c.toNat < 128 := by simp at hc; omega
    simp only [h128, if_false] at hx
    try (refine ev ?_; try exact True.intro)
    refine ⟨⟨(i + 1, u', (vj 1 rd).2), hil, hu', fun h => hu2' (by omega), hn1, hx⟩, ?_, by dsimp only; omega⟩
    try (refine ev4 @q99.eq_1 @rdO.eq_1 @hf (qi (show i < 9223372036854775807 by omega)) ?_; try exact True.intro)
 ·have hil : i = 10 := by simp at h; omega
  subst hil
  have : rInt r = (0, { rd with failed := true }) := hx.symm
  try (refine ev2 @this @rdO.eq_1 ?_; try exact True.intro)
end Go.Proofs.YtinnaedmdoengaaGreat
namespace Go.Proofs.YtinnaedmdoengaaGreat
open Go.Abs
set_option linter.unusedSimpArgs false
set_option linter.unusedVariables false
attribute [go_sem] exists_eq' List.getD_nil
theorem qu0 : ∀ (k i u : Nat) {r : Rd}, r.Ok → (qh2 k i u r).2.Ok ∧ (qh2 k i u r).2.b = r.b
 | 0, i, u, r, h => ⟨⟨h.len, h.pos⟩, rfl⟩
 | k + 1, i, u, r, h => by
  have hn := qe3 h 1
  rw [qh2]
  split
  ·exact hn
  ·split
   ·exact ⟨⟨hn.1.len, hn.1.pos⟩, hn.2⟩
   ·have := qu0 k (i + 1) ((u + ((vj 1 r).1.headD 0).toNat % 128 * 128 ^ i) % 18446744073709551616) hn.1
    exact ⟨this.1, this.2.trans hn.2⟩
theorem qcw {r : Rd} (h : r.Ok) : (rInt r).2.Ok ∧ (rInt r).2.b = r.b := qu0 10 0 0 h
def Rd.fail (r : Rd) (f : Bool) : Rd := ⟨r.b, r.pos, f⟩
theorem Rd.Ok.fail {r : Rd} (h : r.Ok) (f : Bool) : (r.fail f).Ok := ⟨h.len, h.pos⟩
def xg (lo hi : Int) (r : Rd) : Int × Rd := ((rInt r).1, (rInt r).2.fail ((rInt r).2.failed || decide ((rInt r).1 < lo) || decide ((rInt r).1 > hi)))
def vr (most : Int) (r : Rd) : List UInt8 × Rd := if (xg 0 most r).2.failed then ([], (xg 0 most r).2) else vj (xg 0 most r).1.toNat (xg 0 most r).2
def qbs {α : Type} (z : α) (f : Rd → α × Rd) (r : Rd) : α × Rd := if r.failed then (z, r) else if (f r).2.failed then (z, ⟨(f r).2.b, r.pos, (f r).2.failed⟩) else f r
theorem jp {r : Rd} (h : r.Ok) (lo hi : Int) : (xg lo hi r).2.Ok ∧ (xg lo hi r).2.b = r.b := ⟨(qcw h).1.fail _, (qcw h).2⟩
theorem qav {r : Rd} {lo hi : Int} (h : (xg lo hi r).2.failed = false) : lo ≤ (xg lo hi r).1 ∧ (xg lo hi r).1 ≤ hi := by
 simp only [xg, Rd.fail, Bool.or_eq_false_iff, decide_eq_false_iff_not] at h ⊢
 omega
theorem qgr {r : Rd} (h : r.Ok) (most : Int) : (vr most r).2.Ok ∧ (vr most r).2.b = r.b := by
 have h1 := jp h 0 most
 unfold vr
 split
 ·exact h1
 ·have h2 := qe3 h1.1 (xg 0 most r).1.toNat
  exact ⟨h2.1, h2.2.trans h1.2⟩
theorem qcf {α : Type} {z : α} {f : Rd → α × Rd} {r : Rd} (h : r.Ok) (hf : (f r).2.Ok ∧ (f r).2.b = r.b) : (qbs z f r).2.Ok ∧ (qbs z f r).2.b = r.b := by
 unfold qbs
 split
 ·exact ⟨h, rfl⟩
 ·split
  ·exact ⟨⟨hf.1.len, by simp only [hf.2]; exact h.pos⟩, hf.2⟩
  ·exact hf
noncomputable section
set_option maxRecDepth 100000
set_option linter.defProp false
def d169 := cut Tryz.prog Tryz.f169 news
@[go_sem] def E169 := ql d169
def F169 := fnC d169 follows Tryz.func169
def d174 := cut Tryz.prog Tryz.f174 news
@[go_sem] def E174 := ql d174
def F174 := fnC d174 follows Tryz.func174
def d171 := cut Tryz.prog Tryz.f171 news
@[go_sem] def E171 := ql d171
def d168 := cut Tryz.prog Tryz.f168 news
@[go_sem] def E168 := ql d168
def d173 := cut Tryz.prog Tryz.f173 news
@[go_sem] def E173 := ql d173
def d104 := cut Tryz.prog Tryz.f104 news
@[go_sem] def E104 := ql d104
def F104 := fnC d104 follows Tryz.func104
def d170 := cut Tryz.prog Tryz.f170 news
@[go_sem] def E170 := ql d170
def d172 := cut Tryz.prog Tryz.f172 news
@[go_sem] def E172 := ql d172
def d55 := cut Tryz.prog Tryz.f55 news
@[go_sem] def E55 := ql d55
def F55 := fnC d55 follows Tryz.func55
def d112 := cut Tryz.prog Tryz.f112 news
@[go_sem] def E112 := ql d112
def d114 := cut Tryz.prog Tryz.f114 news
@[go_sem] def E114 := ql d114
def d115 := cut Tryz.prog Tryz.f115 news
@[go_sem] def E115 := ql d115
def d113 := cut Tryz.prog Tryz.f113 news
@[go_sem] def E113 := ql d113
end
theorem qcg (r : Rd) (lo hi : Int) (hr : r.Ok) : qg Tryz.prog 169 [.d (.ptr 0 0), .d (.int .i64 lo), .d (.int .i64 hi)] [rdO r] (.d (.int .i64 (xg lo hi r).1)) [rdO (xg lo hi r).2] := by
 have hc := qrn r hr
 simp only [rdO] at hc
 refine F169.go ?_
 try (refine ev3 @rdO.eq_1 @xg.eq_1 @Rd.fail.eq_1 ?_; try exact True.intro)
 generalize rInt r = x at hc ⊢
 obtain ⟨n, b, p, f⟩ := x
 (repeat (with_reducible refine ob ?_)); refine clO [0] F105 (hc) ?_
 try (refine ev ?_; try exact True.intro)
 cases f <;> simp
theorem qpg (r : Rd) (most : Nat) (hr : r.Ok) (hm : most ≤ 1000000000) : qg Tryz.prog 174 [.d (.ptr 0 0), .d (.int .i64 most)] [rdO r] (.d (.sl 1 (qd (vr most r).1))) [rdO (vr most r).2] := by
 have hc := qcg r 0 most hr
 have hin := qav (r := r) (lo := 0) (hi := most)
 have hinv := (jp hr 0 most).1
 refine F174.go ?_
 try (refine ev1 @vr.eq_1 ?_; try exact True.intro)
 generalize xg 0 most r = x at hc hin hinv ⊢
 obtain ⟨n, r1⟩ := x
 simp only [rdO] at hc
 try (refine ev1 @rdO.eq_1 ?_; try exact True.intro)
 (repeat (with_reducible refine ob ?_)); refine clO [0] F169 (hc) ?_
 try (refine ev ?_; try exact True.intro)
 cases hf : r1.failed
 ·obtain ⟨h1, h2⟩ := hin hf
  simp only at h1 h2
  have hn := qrm r1 n.toNat hinv (by omega)
  rw [Int.toNat_of_nonneg h1] at hn
  simp only [rdO, hf] at hn
  (repeat (with_reducible refine ob ?_)); refine no_ ?_
  try (refine ev ?_; try exact True.intro)
  (repeat (with_reducible refine ob ?_)); refine clO [0] F152 (hn) ?_
  try (refine ev ?_; try exact True.intro)
 ·(repeat (with_reducible refine ob ?_)); refine qb9 ?_
  try (refine ev2 @hf @qm ?_; try exact True.intro)
def ky := qbs (0 : Int) rInt
def za (lo hi : Int) := qbs (0 : Int) (xg lo hi)
def vt (most : Int) := qbs ([] : List UInt8) (vr most)
theorem q2h (r : Rd) (hr : r.Ok) : qg Tryz.prog 104 [.d (.ptr 0 0), .d (.func (.func 105) [.ptr 0 0] [])] [rdO r] (.d (.int .i64 (ky r).1)) [rdO (ky r).2] := by
 have hc := qrn r hr
 unfold ky
 unfold qbs
 obtain ⟨b, p, f⟩ := r
 simp only [rdO] at hc
 refine F104.go ?_
 try (refine ev1 @rdO.eq_1 ?_; try exact True.intro)
 cases f
 ·try (refine ev ?_; try exact True.intro)
  (repeat (with_reducible refine ob ?_)); refine no_ ?_
  try (refine ev ?_; try exact True.intro)
  (repeat (with_reducible refine ob ?_)); refine clO [0] F105 (hc) ?_
  try (refine ev ?_; try exact True.intro)
  cases hf : (rInt ⟨b, p, false⟩).2.failed
  ·try (refine ev ?_; try exact True.intro)
   (repeat (with_reducible refine ob ?_)); refine no_ ?_
   try simp only [hf, if_false, go_sem, Nat.reduceAdd, Nat.reduceMul, Nat.reduceSub, Nat.reduceEqDiff, Nat.reduceLT, Nat.reduceLeDiff, Nat.reduceBEq, reduceIte, reduceCtorEq, Int.reduceAdd, Int.reduceLT, Int.reduceLE, Int.reduceGT, Int.reduceGE, Int.reduceEq, Int.reduceNe, Int.reduceBEq, Int.reduceBNe, Int.reduceToNat, Int.reduceNeg]
  ·try (refine ev ?_; try exact True.intro)
   (repeat (with_reducible refine ob ?_)); refine qb9 ?_
   try (refine ev1 @hf ?_; try exact True.intro)
 ·try (refine ev ?_; try exact True.intro)
  (repeat (with_reducible refine ob ?_)); refine qb9 ?_
  try (refine ev ?_; try exact True.intro)
theorem qro (r : Rd) (hr : r.Ok) : qg Tryz.prog 55 [.d (.ptr 0 0)] [rdO r] (.d (.int .i64 (ky r).1)) [rdO (ky r).2] := by
 have hc := q2h r hr
 simp only [rdO] at hc
 refine F55.go ?_
 try (refine ev1 @rdO.eq_1 ?_; try exact True.intro)
 (repeat (with_reducible refine ob ?_)); refine clO [0] F104 (hc) ?_
 try (refine ev ?_; try exact True.intro)
end Go.Proofs.YtinnaedmdoengaaGreat
namespace Go.Proofs.YtinnaedmdoengaaGreat
open Go.Abs
set_option linter.unusedSimpArgs false
set_option linter.unusedVariables false
theorem vu {r : Rd} (h : r.Ok) : (ky r).2.Ok ∧ (ky r).2.b = r.b := qcf h (qcw h)
theorem qd8 {r : Rd} (h : r.Ok) (lo hi : Int) : (za lo hi r).2.Ok ∧ (za lo hi r).2.b = r.b := qcf h (jp h lo hi)
noncomputable section
set_option maxRecDepth 100000
set_option linter.defProp false
def d59 := cut Tryz.prog Tryz.f59 news
@[go_sem] def E59 := ql d59
end
end Go.Proofs.YtinnaedmdoengaaGreat
namespace Go.Proofs.YtinnaedmdoengaaGreat
open Go.Abs
set_option linter.unusedSimpArgs false
set_option linter.unusedVariables false
def yz {α : Type} (f : Rd → α × Rd) : Nat → Rd → List α × Rd
 | 0, r => ([], r)
 | n + 1, r => if r.failed = true then ([], r) else ((f r).1 :: (yz f n (f r).2).1, (yz f n (f r).2).2)
def qdg {α : Type} (most : Int) (f : Rd → α × Rd) (r : Rd) : List α × Rd := yz f (xg 0 most r).1.toNat (xg 0 most r).2
def rAV (r : Rd) : AV × Rd :=
 if (xg 1 2 r).2.failed = true then (⟨(xg 1 2 r).1, 0, []⟩, (xg 1 2 r).2) else
 if (xg 1 2 r).1 = 1 then (⟨(xg 1 2 r).1, (rInt (xg 1 2 r).2).1, []⟩, (rInt (xg 1 2 r).2).2) else
 (⟨(xg 1 2 r).1, 0, (vr 40 (xg 1 2 r).2).1⟩, (vr 40 (xg 1 2 r).2).2)
def qap (most : Int) := qbs ([] : List Int) (qdg most rInt)
def qbg (most : Int) := qbs ([] : List AV) (qdg most rAV)
theorem qu3 {α : Type} {f : Rd → α × Rd} (hf : ∀ r : Rd, r.Ok → (f r).2.Ok ∧ (f r).2.b = r.b) : ∀ (n : Nat) {r : Rd}, r.Ok → (yz f n r).2.Ok ∧ (yz f n r).2.b = r.b
 | 0, r, h => ⟨h, rfl⟩
 | n + 1, r, h => by
  rw [yz]
  split
  ·exact ⟨h, rfl⟩
  ·have h1 := hf r h
   have h2 := qu3 hf n h1.1
   exact ⟨h2.1, h2.2.trans h1.2⟩
theorem qh4 {α : Type} {f : Rd → α × Rd} (hf : ∀ r : Rd, r.Ok → (f r).2.Ok ∧ (f r).2.b = r.b) {r : Rd} (h : r.Ok) (most : Int) : (qdg most f r).2.Ok ∧ (qdg most f r).2.b = r.b := by
 have h1 := jp h 0 most
 have h2 := qu3 hf (xg 0 most r).1.toNat h1.1
 exact ⟨h2.1, h2.2.trans h1.2⟩
theorem qm5 {r : Rd} (h : r.Ok) : (rAV r).2.Ok ∧ (rAV r).2.b = r.b := by
 have h1 := jp h 1 2
 unfold rAV
 split
 ·exact h1
 ·split
  ·have h2 := qcw h1.1
   exact ⟨h2.1, h2.2.trans h1.2⟩
  ·have h2 := qgr h1.1 40
   exact ⟨h2.1, h2.2.trans h1.2⟩
theorem qu4 {α : Type} {f : Rd → α × Rd} : ∀ (n : Nat) {r : Rd}, (yz f n r).1.length ≤ n
 | 0, r => Nat.le_refl _
 | n + 1, r => by
  rw [yz]
  split
  ·exact Nat.zero_le _
  ·exact Nat.succ_le_succ (qu4 n)
theorem qdh {α : Type} {f : Rd → α × Rd} {most : Nat} {r : Rd} : (qdg most f r).1.length ≤ most := by
 unfold qdg
 cases hf : (xg 0 most r).2.failed with
 | true =>
  generalize xg 0 most r = x at hf
  cases x.1.toNat with
  | zero => exact Nat.zero_le _
  | succ n => rw [yz, if_pos hf]; exact Nat.zero_le _
 | false =>
  have h1 := qav hf
  have h2 := qu4 (f := f) (xg 0 most r).1.toNat (r := (xg 0 most r).2)
  omega
noncomputable section
set_option maxRecDepth 100000
set_option linter.defProp false
def d158 := cut Tryz.prog Tryz.f158 news
@[go_sem] def E158 := ql d158
def F158 := fnC d158 follows Tryz.func158
def d161 := cut Tryz.prog Tryz.f161 news
@[go_sem] def E161 := ql d161
def F161 := fnC d161 follows Tryz.func161
def d157 := cut Tryz.prog Tryz.f157 news
@[go_sem] def E157 := ql d157
def F157 := fnC d157 follows Tryz.func157
def d160 := cut Tryz.prog Tryz.f160 news
@[go_sem] def E160 := ql d160
def F160 := fnC d160 follows Tryz.func160
def d156 := cut Tryz.prog Tryz.f156 news
@[go_sem] def E156 := ql d156
def F156 := fnC d156 follows Tryz.func156
def d159 := cut Tryz.prog Tryz.f159 news
@[go_sem] def E159 := ql d159
def F159 := fnC d159 follows Tryz.func159
def d155 := cut Tryz.prog Tryz.f155 news
@[go_sem] def E155 := ql d155
def F155 := fnC d155 follows Tryz.func155
def d108 := cut Tryz.prog Tryz.f108 news
@[go_sem] def E108 := ql d108
def F108 := fnC d108 follows Tryz.func108
def d107 := cut Tryz.prog Tryz.f107 news
@[go_sem] def E107 := ql d107
def F107 := fnC d107 follows Tryz.func107
end
theorem xfj (r : Rd) (hr : r.Ok) : qg Tryz.prog 158 [.d (.ptr 0 0)] [rdO r] (.d (.agg (qx (rAV r).1))) [rdO (rAV r).2] := by
 have hb := qcg r 1 2 hr
 have hi := (jp hr 1 2).1
 unfold rAV
 generalize xg 1 2 r = x at hb hi ⊢
 obtain ⟨k, r1⟩ := x
 simp only at hi
 simp only [rdO] at hb
 refine F158.go ?_
 try (refine ev1 @rdO.eq_1 ?_; try exact True.intro)
 (repeat (with_reducible refine ob ?_)); refine clO [0] F169 (hb) ?_ (hfit := by first | exact ⟨qc, trivial⟩ | exact ⟨qc, qc, trivial⟩ | (refine ev2 @qx.eq_1 @encI.eq_1 ?_; try exact True.intro))
 try (refine ev ?_; try exact True.intro)
 cases hf : r1.failed
 ·(repeat (with_reducible refine ob ?_)); refine no_ ?_
  try (refine ev ?_; try exact True.intro)
  refine xt _ (fun h => ?_) (fun h => ?_)
  ·have hk : k = 1 := by simpa using h
   have hI := qrn r1 hi
   simp only [rdO, hf] at hI
   try (refine ev ?_; try exact True.intro)
   (repeat (with_reducible refine ob ?_)); refine clO [0] F105 (hI) ?_ (hfit := by first | exact ⟨qc, trivial⟩ | exact ⟨qc, qc, trivial⟩ | (refine ev2 @qx.eq_1 @encI.eq_1 ?_; try exact True.intro))
   subst hk
   simp only [if_true, Bool.false_eq_true, if_false, qx]
   try (refine ev ?_; try exact True.intro)
  ·have hk : k ≠ 1 := by simpa using h
   have hB := qpg r1 40 hi (by decide)
   simp only [rdO, hf] at hB
   try (refine ev ?_; try exact True.intro)
   (repeat (with_reducible refine ob ?_)); refine clO [0] F174 (hB) ?_ (hfit := by first | exact ⟨qc, trivial⟩ | exact ⟨qc, qc, trivial⟩ | (refine ev2 @qx.eq_1 @encI.eq_1 ?_; try exact True.intro))
   simp only [hk, Bool.false_eq_true, if_false, qx]
   try (refine ev ?_; try exact True.intro)
 ·(repeat (with_reducible refine ob ?_)); refine qb9 ?_
  simp only [if_true, hf, qx]
  try (refine ev ?_; try exact True.intro)
def Sli {α : Type} (es : Nat) (enc : α → List D) (k : FuncId) (n : Int) (x : Nat × List α × Rd) : St :=
 ⟨[(0, true, .d (.ptr 0 0)), (2, true, .d (.func (.func k) [.ptr 0 0] [])), (7, true, .d (.int .i64 n)), (8, true, .own 0 es (x.2.1.map enc)), (9, true, .d (.int .i64 (x.1 : Nat)))], [rdO x.2.2], [0], 1⟩
set_option maxRecDepth 10000 in
theorem xaa (r : Rd) (most : Nat) (hr : r.Ok) (hm : most ≤ 1000) : qg Tryz.prog 161 [.d (.ptr 0 0), .d (.int .i64 most), .d (.func (.func 105) [.ptr 0 0] [])] [rdO r] (.d (.sl 1 ((qdg most rInt r).1.map encI))) [rdO (qdg most rInt r).2] := by
 have hb := qcg r 0 most hr
 have hi := (jp hr 0 most).1
 have hin := qav (r := r) (lo := 0) (hi := most)
 unfold qdg
 generalize xg 0 most r = x at hb hi hin ⊢
 obtain ⟨n, r1⟩ := x
 simp only at hi hin
 simp only [rdO] at hb
 refine F161.go ?_
 try (refine ev1 @rdO.eq_1 ?_; try exact True.intro)
 (repeat (with_reducible refine ob ?_)); refine clO [0] F169 (hb) ?_ (hfit := by first | exact ⟨qc, trivial⟩ | exact ⟨qc, qc, trivial⟩ | (refine ev2 @qx.eq_1 @encI.eq_1 ?_; try exact True.intro))
 try (refine ev ?_; try exact True.intro)
 refine qj (fun x : { x : Nat × List Int × Rd // x.1 ≤ most ∧ x.2.1.length = x.1 ∧ x.2.2.Ok ∧ (x.2.1 ++ (yz rInt (n.toNat - x.1) x.2.2).1, (yz rInt (n.toNat - x.1) x.2.2).2) = yz rInt n.toNat r1 ∧ (x.2.2.failed = false → n ≤ most) } => Sli 1 encI 105 n x.val) (fun x => most + 1 - x.val.1) ⟨(0, [], r1), Nat.zero_le _, rfl, hi, by simp, fun h => (hin h).2⟩ ?_ (fun x => ?_)
 ·try (refine ev4 @Sli.eq_1 @rdO.eq_1 @List.map_nil.{0,0} @Int.ofNat_zero ?_; try exact True.intro)
 obtain ⟨⟨i, l, b, p, f⟩, h1, h2, h3, h4, h5⟩ := x
 simp only at h1 h2 h3 h4 h5
 cases f
 ·have hn := h5 rfl
  try (refine ev2 @Sli.eq_1 @rdO.eq_1 ?_; try exact True.intro)
  refine xt _ (fun h => ?_) (fun h => ?_)
  ·have hlt : i < n.toNat := by simp at h; omega
   have hv := qrn ⟨b, p, false⟩ h3
   obtain ⟨v1, v2⟩ := qcw h3
   have hsn : n.toNat - i = (n.toNat - (i + 1)) + 1 := by omega
   rw [hsn, yz, if_neg (by simp)] at h4
   simp only [rdO, encI] at hv
   try (refine ev ?_; try exact True.intro)
   (repeat (with_reducible refine ob ?_)); refine clO [0] F105 (hv) ?_ (hfit := by first | exact ⟨qc, trivial⟩ | exact ⟨qc, qc, trivial⟩ | (refine ev2 @qx.eq_1 @encI.eq_1 ?_; try exact True.intro))
   try (refine ev ?_; try exact True.intro)
   (repeat (with_reducible refine ob ?_))
   refine ⟨⟨(i + 1, l ++ [(rInt ⟨b, p, false⟩).1], (rInt ⟨b, p, false⟩).2), by simp only; omega, by simp [h2], v1, by simpa using h4, fun _ => hn⟩, ?_, by simp only; omega⟩
   try (refine ev7 @Sli.eq_1 @rdO.eq_1 @List.map_append.{0,0} @List.map_cons.{0,0} @List.map_nil.{0,0} @encI.eq_1 (qi (show i < 9223372036854775807 by omega)) ?_; try exact True.intro)
  ·have hge : n.toNat - i = 0 := by simp at h; omega
   rw [hge, yz, List.append_nil] at h4
   try (refine ev1 h4.symm ?_; try exact True.intro)
 ·have hx : yz rInt (n.toNat - i) ⟨b, p, true⟩ = ([], ⟨b, p, true⟩) := by
   cases n.toNat - i with
   | zero => rfl
   | succ k => rw [yz, if_pos rfl]
  rw [hx, List.append_nil] at h4
  try (refine ev2 @Sli.eq_1 @rdO.eq_1 ?_; try exact True.intro)
  refine xt _ (fun h => ?_) (fun h => ?_)
  ·simp at h
  ·try (refine ev1 h4.symm ?_; try exact True.intro)
set_option maxRecDepth 10000 in
theorem xab (r : Rd) (most : Nat) (hr : r.Ok) (hm : most ≤ 1000) : qg Tryz.prog 157 [.d (.ptr 0 0), .d (.int .i64 most), .d (.func (.func 158) [.ptr 0 0] [])] [rdO r] (.d (.sl 3 ((qdg most rAV r).1.map qx))) [rdO (qdg most rAV r).2] := by
 have hb := qcg r 0 most hr
 have hi := (jp hr 0 most).1
 have hin := qav (r := r) (lo := 0) (hi := most)
 unfold qdg
 generalize xg 0 most r = x at hb hi hin ⊢
 obtain ⟨n, r1⟩ := x
 simp only at hi hin
 simp only [rdO] at hb
 refine F157.go ?_
 try (refine ev1 @rdO.eq_1 ?_; try exact True.intro)
 (repeat (with_reducible refine ob ?_)); refine clO [0] F169 (hb) ?_ (hfit := by first | exact ⟨qc, trivial⟩ | exact ⟨qc, qc, trivial⟩ | (refine ev2 @qx.eq_1 @encI.eq_1 ?_; try exact True.intro))
 try (refine ev ?_; try exact True.intro)
 refine qj (fun x : { x : Nat × List AV × Rd // x.1 ≤ most ∧ x.2.1.length = x.1 ∧ x.2.2.Ok ∧ (x.2.1 ++ (yz rAV (n.toNat - x.1) x.2.2).1, (yz rAV (n.toNat - x.1) x.2.2).2) = yz rAV n.toNat r1 ∧ (x.2.2.failed = false → n ≤ most) } => Sli 3 qx 158 n x.val) (fun x => most + 1 - x.val.1) ⟨(0, [], r1), Nat.zero_le _, rfl, hi, by simp, fun h => (hin h).2⟩ ?_ (fun x => ?_)
 ·try (refine ev4 @Sli.eq_1 @rdO.eq_1 @List.map_nil.{0,0} @Int.ofNat_zero ?_; try exact True.intro)
 obtain ⟨⟨i, l, b, p, f⟩, h1, h2, h3, h4, h5⟩ := x
 simp only at h1 h2 h3 h4 h5
 cases f
 ·have hn := h5 rfl
  try (refine ev2 @Sli.eq_1 @rdO.eq_1 ?_; try exact True.intro)
  refine xt _ (fun h => ?_) (fun h => ?_)
  ·have hlt : i < n.toNat := by simp at h; omega
   have hv := xfj ⟨b, p, false⟩ h3
   obtain ⟨v1, v2⟩ := qm5 h3
   have hsn : n.toNat - i = (n.toNat - (i + 1)) + 1 := by omega
   rw [hsn, yz, if_neg (by simp)] at h4
   simp only [rdO, qx] at hv
   try (refine ev ?_; try exact True.intro)
   (repeat (with_reducible refine ob ?_)); refine clO [0] F158 (hv) ?_ (hfit := by first | exact ⟨qc, trivial⟩ | exact ⟨qc, qc, trivial⟩ | (refine ev2 @qx.eq_1 @encI.eq_1 ?_; try exact True.intro))
   try (refine ev ?_; try exact True.intro)
   (repeat (with_reducible refine ob ?_))
   refine ⟨⟨(i + 1, l ++ [(rAV ⟨b, p, false⟩).1], (rAV ⟨b, p, false⟩).2), by simp only; omega, by simp [h2], v1, by simpa using h4, fun _ => hn⟩, ?_, by simp only; omega⟩
   try (refine ev7 @Sli.eq_1 @rdO.eq_1 @List.map_append.{0,0} @List.map_cons.{0,0} @List.map_nil.{0,0} @qx.eq_1 (qi (show i < 9223372036854775807 by omega)) ?_; try exact True.intro)
  ·have hge : n.toNat - i = 0 := by simp at h; omega
   rw [hge, yz, List.append_nil] at h4
   try (refine ev1 h4.symm ?_; try exact True.intro)
 ·have hx : yz rAV (n.toNat - i) ⟨b, p, true⟩ = ([], ⟨b, p, true⟩) := by
   cases n.toNat - i with
   | zero => rfl
   | succ k => rw [yz, if_pos rfl]
  rw [hx, List.append_nil] at h4
  try (refine ev2 @Sli.eq_1 @rdO.eq_1 ?_; try exact True.intro)
  refine xt _ (fun h => ?_) (fun h => ?_)
  ·simp at h
  ·try (refine ev1 h4.symm ?_; try exact True.intro)
theorem xac (r : Rd) (most : Nat) (hr : r.Ok) (hm : most ≤ 1000) : qg Tryz.prog 160 [.d (.ptr 1 0), .d (.ptr 2 0)] [rdO r, .row [.d (.ptr 0 0)], .row [.d (.int .i64 most)]] (.d (.sl 1 ((qdg most rInt r).1.map encI))) [rdO (qdg most rInt r).2, .row [.d (.ptr 0 0)], .row [.d (.int .i64 most)]] := by
 have hc := xaa r most hr hm
 simp only [rdO] at hc
 refine F160.go ?_
 try (refine ev1 @rdO.eq_1 ?_; try exact True.intro)
 (repeat (with_reducible refine ob ?_)); refine clO [0] F161 (hc) ?_ (hfit := by first | exact ⟨qc, trivial⟩ | exact ⟨qc, qc, trivial⟩ | (refine ev2 @qx.eq_1 @encI.eq_1 ?_; try exact True.intro))
 try (refine ev ?_; try exact True.intro)
theorem q2j (r : Rd) (most : Nat) (hr : r.Ok) (hm : most ≤ 1000) : qg Tryz.prog 156 [.d (.ptr 1 0), .d (.ptr 2 0)] [rdO r, .row [.d (.ptr 0 0)], .row [.d (.int .i64 most)]] (.d (.sl 3 ((qdg most rAV r).1.map qx))) [rdO (qdg most rAV r).2, .row [.d (.ptr 0 0)], .row [.d (.int .i64 most)]] := by
 have hc := xab r most hr hm
 simp only [rdO] at hc
 refine F156.go ?_
 try (refine ev1 @rdO.eq_1 ?_; try exact True.intro)
 (repeat (with_reducible refine ob ?_)); refine clO [0] F157 (hc) ?_ (hfit := by first | exact ⟨qc, trivial⟩ | exact ⟨qc, qc, trivial⟩ | (refine ev2 @qx.eq_1 @encI.eq_1 ?_; try exact True.intro))
 try (refine ev ?_; try exact True.intro)
theorem qx5 (r : Rd) (most : Nat) (hr : r.Ok) (hm : most ≤ 1000) : qg Tryz.prog 159 [.d (.ptr 0 0), .d (.func (.func 160) [] [.ptr 1 0, .ptr 2 0])] [rdO r, .row [.d (.ptr 0 0)], .row [.d (.int .i64 most)]] (.d (.sl 1 ((qap most r).1.map encI))) [rdO (qap most r).2, .row [.d (.ptr 0 0)], .row [.d (.int .i64 most)]] := by
 have hc := xac r most hr hm
 unfold qap
 unfold qbs
 obtain ⟨b, p, f⟩ := r
 simp only [rdO] at hc
 refine F159.go ?_
 try (refine ev1 @rdO.eq_1 ?_; try exact True.intro)
 cases f
 ·try (refine ev ?_; try exact True.intro)
  (repeat (with_reducible refine ob ?_)); refine no_ ?_
  try (refine ev ?_; try exact True.intro)
  (repeat (with_reducible refine ob ?_)); refine clO [0, 1, 2] F160 (hc) ?_ (hfit := by first | exact ⟨qc, trivial⟩ | exact ⟨qc, qc, trivial⟩ | (refine ev2 @qx.eq_1 @encI.eq_1 ?_; try exact True.intro))
  try (refine ev ?_; try exact True.intro)
  cases hf : (qdg most rInt ⟨b, p, false⟩).2.failed
  ·try (refine ev ?_; try exact True.intro)
   (repeat (with_reducible refine ob ?_)); refine no_ ?_
   try simp only [hf, if_false, go_sem, Nat.reduceAdd, Nat.reduceMul, Nat.reduceSub, Nat.reduceEqDiff, Nat.reduceLT, Nat.reduceLeDiff, Nat.reduceBEq, reduceIte, reduceCtorEq, Int.reduceAdd, Int.reduceLT, Int.reduceLE, Int.reduceGT, Int.reduceGE, Int.reduceEq, Int.reduceNe, Int.reduceBEq, Int.reduceBNe, Int.reduceToNat, Int.reduceNeg]
  ·try (refine ev ?_; try exact True.intro)
   (repeat (with_reducible refine ob ?_)); refine qb9 ?_
   try (refine ev2 @hf @List.map_nil.{0,0} ?_; try exact True.intro)
 ·try (refine ev ?_; try exact True.intro)
  (repeat (with_reducible refine ob ?_)); refine qb9 ?_
  try (refine ev1 @List.map_nil.{0,0} ?_; try exact True.intro)
theorem qrp (r : Rd) (most : Nat) (hr : r.Ok) (hm : most ≤ 1000) : qg Tryz.prog 155 [.d (.ptr 0 0), .d (.func (.func 156) [] [.ptr 1 0, .ptr 2 0])] [rdO r, .row [.d (.ptr 0 0)], .row [.d (.int .i64 most)]] (.d (.sl 3 ((qbg most r).1.map qx))) [rdO (qbg most r).2, .row [.d (.ptr 0 0)], .row [.d (.int .i64 most)]] := by
 have hc := q2j r most hr hm
 unfold qbg
 unfold qbs
 obtain ⟨b, p, f⟩ := r
 simp only [rdO] at hc
 refine F155.go ?_
 try (refine ev1 @rdO.eq_1 ?_; try exact True.intro)
 cases f
 ·try (refine ev ?_; try exact True.intro)
  (repeat (with_reducible refine ob ?_)); refine no_ ?_
  try (refine ev ?_; try exact True.intro)
  (repeat (with_reducible refine ob ?_)); refine clO [0, 1, 2] F156 (hc) ?_ (hfit := by first | exact ⟨qc, trivial⟩ | exact ⟨qc, qc, trivial⟩ | (refine ev2 @qx.eq_1 @encI.eq_1 ?_; try exact True.intro))
  try (refine ev ?_; try exact True.intro)
  cases hf : (qdg most rAV ⟨b, p, false⟩).2.failed
  ·try (refine ev ?_; try exact True.intro)
   (repeat (with_reducible refine ob ?_)); refine no_ ?_
   try simp only [hf, if_false, go_sem, Nat.reduceAdd, Nat.reduceMul, Nat.reduceSub, Nat.reduceEqDiff, Nat.reduceLT, Nat.reduceLeDiff, Nat.reduceBEq, reduceIte, reduceCtorEq, Int.reduceAdd, Int.reduceLT, Int.reduceLE, Int.reduceGT, Int.reduceGE, Int.reduceEq, Int.reduceNe, Int.reduceBEq, Int.reduceBNe, Int.reduceToNat, Int.reduceNeg]
  ·try (refine ev ?_; try exact True.intro)
   (repeat (with_reducible refine ob ?_)); refine qb9 ?_
   try (refine ev2 @hf @List.map_nil.{0,0} ?_; try exact True.intro)
 ·try (refine ev ?_; try exact True.intro)
  (repeat (with_reducible refine ob ?_)); refine qb9 ?_
  try (refine ev1 @List.map_nil.{0,0} ?_; try exact True.intro)
theorem q52 (r : Rd) (most : Nat) (hr : r.Ok) (hm : most ≤ 1000) : qg Tryz.prog 108 [.d (.ptr 0 0), .d (.int .i64 most)] [rdO r] (.d (.sl 1 ((qap most r).1.map encI))) [rdO (qap most r).2] := by
 have hc := qx5 r most hr hm
 simp only [rdO] at hc
 refine F108.go ?_
 try (refine ev1 @rdO.eq_1 ?_; try exact True.intro)
 refine clO [0, 1, 2] F159 hc ?_
 try (refine ev ?_; try exact True.intro)
theorem xad (r : Rd) (most : Nat) (hr : r.Ok) (hm : most ≤ 1000) : qg Tryz.prog 107 [.d (.ptr 0 0), .d (.int .i64 most)] [rdO r] (.d (.sl 3 ((qbg most r).1.map qx))) [rdO (qbg most r).2] := by
 have hc := qrp r most hr hm
 simp only [rdO] at hc
 refine F107.go ?_
 try (refine ev1 @rdO.eq_1 ?_; try exact True.intro)
 refine clO [0, 1, 2] F155 hc ?_
 try (refine ev ?_; try exact True.intro)
theorem qpj {r : Rd} (h : r.Ok) (most : Int) : (qap most r).2.Ok ∧ (qap most r).2.b = r.b := qcf h (qh4 (fun _ h => qcw h) h most)
theorem qm6 {r : Rd} (h : r.Ok) (most : Int) : (qbg most r).2.Ok ∧ (qbg most r).2.b = r.b := qcf h (qh4 (fun _ h => qm5 h) h most)
theorem qdi {α : Type} {f : Rd → List α × Rd} {k : Nat} (h : ∀ r, (f r).1.length ≤ k) (r : Rd) : (qbs [] f r).1.length ≤ k := by
 unfold qbs
 split
 ·exact Nat.zero_le _
 ·split
  ·exact Nat.zero_le _
  ·exact h r
end Go.Proofs.YtinnaedmdoengaaGreat
namespace Go.Proofs.YtinnaedmdoengaaGreat
open Go.Abs
set_option linter.unusedSimpArgs false
set_option linter.unusedVariables false
noncomputable section
set_option maxRecDepth 100000
set_option linter.defProp false
def d106 := cut Tryz.prog Tryz.f106 news
@[go_sem] def E106 := ql d106
def F106 := fnC d106 follows Tryz.func106
def d56 := cut Tryz.prog Tryz.f56 news
@[go_sem] def E56 := ql d56
def F56 := fnC d56 follows Tryz.func56
end
def jy (b : List UInt8) : List UInt8 × Int :=
 if b.length < 8 then ([], 4) else if be8 (fnv 14695981039346656037 (b.take (b.length - 8))) = b.drop (b.length - 8) then (b.take (b.length - 8), 0) else ([], 5)
theorem qpk : ∀ (s t : List UInt8), s.length = t.length → eqOk (List.replicate s.length .int) (s.map zo) (t.map zo) = true
 | [], [], _ => rfl
 | [], _ :: _, h => by simp at h
 | _ :: _, [], h => by simp at h
 | a :: s, b :: t, h => by
  have := qpk s t (by simpa using h)
  simpa [List.replicate_succ, eqOk, zo] using this
theorem qh5 : ∀ (s t : List UInt8), vl (s.map zo) (t.map zo) = (s == t)
 | [], [] => rfl
 | [], _ :: _ => rfl
 | _ :: _, [] => rfl
 | a :: s, b :: t => by
  have h := qh5 s t
  have e : qlf (zo a) (zo b) = (a == b) := by
   rw [Bool.eq_iff_iff]
   simp only [qlf, zo, beq_iff_eq]
   exact ⟨fun h => UInt8.toNat_inj.1 (by omega), fun h => by rw [h]⟩
  simp only [List.map_cons, vl, h, e]
  rfl
theorem xfk (s t : List UInt8) (hs : s.length = 8) (ht : t.length = 8) : eqOk [.int, .int, .int, .int, .int, .int, .int, .int] (s.map zo) (t.map zo) = true := by
 have := qpk s t (hs.trans ht.symm)
 rw [hs] at this; exact this
theorem q53 (b : List UInt8) (hb : b.length ≤ 1000000000) : qg Tryz.prog 106 [.d (.sl 1 (qd b))] [] (.tup [.d (.sl 1 (qd (jy b).1)), .d (.int .i64 (jy b).2)]) [] := by
 have hw : IntKind.i64.wrap ((b.length : Int) - 8) = (b.length : Int) - 8 := xk (by unfold I64; omega)
 refine F106.goT ?_
 try (refine ev1 @hw ?_; try exact True.intro)
 refine xt _ (fun h => ?_) (fun h => ?_)
 ·have hx : jy b = ([], 4) := by unfold jy; rw [if_pos (by simp at h; omega)]
  try (refine ev2 @hx @qm ?_; try exact True.intro)
 have h8 : 8 ≤ b.length := by simp at h; omega
 have hn : (b.length : Int) - 8 = ((b.length - 8 : Nat) : Int) := by omega
 generalize hm : b.length - 8 = m at hn
 have hlt := qc9 (h := 14695981039346656037) (by decide) (b.take m)
 have e2 : (b.drop m).take (b.length - m) = b.drop m := List.take_of_length_le (by rw [List.length_drop]; omega)
 have htl : (b.take m).length ≤ 1000000000 := by rw [List.length_take]; omega
 try (refine ev4 @hn @xf @xq @e2 ?_; try exact True.intro)
 have e1 : b.take (m - 0) = b.take m := rfl
 (repeat (with_reducible refine ob ?_)); first | refine cl F154 (qk4 (b.take m) htl) ?_ | refine clF F154 (qk4 (b.take m) htl) (fun _ => by (refine ev1 @qe.eq_1 ?_; try exact True.intro)) ?_
 try (refine ev ?_; try exact True.intro)
 (repeat (with_reducible refine ob ?_)); first | refine cl F153 (qk5 _ hlt) ?_ | refine clF F153 (qk5 _ hlt) (fun _ => by (refine ev1 @qe.eq_1 ?_; try exact True.intro)) ?_
 have hx1 : jy b = if be8 (fnv 14695981039346656037 (b.take m)) = b.drop m then (b.take m, 0) else ([], 5) := by unfold jy; rw [if_neg (by omega), hm]
 have ht : (b.drop m).length = 8 := by rw [List.length_drop]; omega
 have hA : List.take (b.length - m) (List.drop m (qd b)) = qd (b.drop m) := by rw [xq, xf, e2]
 have hF : List.take (m - 0) (qd b) = qd (b.take m) := by rw [xf, Nat.sub_zero]
 have h8' := zc (fnv 14695981039346656037 (b.take m))
 generalize b.drop m = t at hx1 ht hA
 generalize fnv 14695981039346656037 (b.take m) = f at hx1 hlt h8'
 have hB : List.take 8 (qd t) = qd t := List.take_of_length_le (by rw [zu]; omega)
 have hC : List.take 8 (t.map zo) = t.map zo := List.take_of_length_le (by rw [List.length_map]; omega)
 have hD := xfk (be8 f) t h8' ht
 have hG := qah t
 have hE := qh5 (be8 f) t
 try (refine ev7 @hA @hB @hG @hC @hD @hE @List.length_map.{0,0} ?_; try exact True.intro)
 (repeat (with_reducible refine ob ?_))
 refine xt _ (fun h => ?_) (fun h => ?_)
 ·have hx : jy b = ([], 5) := by rw [hx1, if_neg (by simpa using h)]
  try (refine ev2 @hx @qm ?_; try exact True.intro)
 ·have hx : jy b = (b.take m, 0) := by rw [hx1, if_pos (by simpa using h)]
  try (refine ev2 @hx @hF ?_; try exact True.intro)
  omega
def yd : Nat → Rd → List Int × Rd
 | 0, r => ([], r)
 | n + 1, r => ((yd n r).1 ++ [(ky (yd n r).2).1], (ky (yd n r).2).2)
theorem qh6 {r : Rd} (h : r.Ok) : ∀ n, (yd n r).2.Ok ∧ (yd n r).2.b = r.b ∧ (yd n r).1.length = n
 | 0 => ⟨h, rfl, rfl⟩
 | n + 1 => by
  have ih := qh6 h n
  have := vu ih.1
  exact ⟨this.1, this.2.trans ih.2.1, by simp only [yd, List.length_append, ih.2.2, List.length_singleton]⟩
def pkOf (l : List Int) (v : List AV) (c : List Int) : Pk := ⟨l.getD 0 0, l.getD 1 0, l.getD 2 0, l.getD 3 0, l.getD 4 0, l.getD 5 0, l.getD 6 0, v, c⟩
def qks (s : List UInt8) : Pk × Rd :=
 (pkOf (yd 7 ⟨s, 0, false⟩).1 (qbg 4 (yd 7 ⟨s, 0, false⟩).2).1 (qap 6 (qbg 4 (yd 7 ⟨s, 0, false⟩).2).2).1, (qap 6 (qbg 4 (yd 7 ⟨s, 0, false⟩).2).2).2)
def kf (b : List UInt8) : Pk × Int :=
 if (jy b).2 ≠ 0 then (default, (jy b).2) else if (rEnd (qks (jy b).1).2 != 0 || !xe (qks (jy b).1).1) = true then (default, 4) else ((qks (jy b).1).1, 0)
def xae (r : Rd) (i : Nat) : St :=
 ⟨[(2, true, .d (.ptr 0 0)), (6, true, .d (.ptr 1 0)), (7, true, .d (.ptr 2 0)), (28, true, .d (.sl 1 [[.ptr 2 0], [.ptr 2 1], [.ptr 2 2], [.ptr 2 3], [.ptr 2 4], [.ptr 2 5], [.ptr 2 6]])), (29, true, .d (.int .i64 7)), (30, true, .d (.int .i64 (i : Nat)))],
  [.row ((qe default).map .d), rdO (yd i r).2, .row (((((yd i r).1 ++ List.replicate (7 - i) 0).map (D.int .i64)) ++ [.nilsl, .nilsl]).map .d)], [], 1⟩
theorem xaf (f : Int → D) (A : List Int) (t : List D) (n : Int) {i : Nat} (hA : A.length = i) (hi : i < 7) :
  ((A ++ List.replicate (7 - i) 0).map f ++ t).set i (f n) = ((A ++ [n]) ++ List.replicate (7 - (i + 1)) 0).map f ++ t := by
 have e : 7 - i = (7 - (i + 1)) + 1 := by omega
 rw [List.set_append_left _ _ (by simp; omega), ← List.map_set, List.set_append_right _ _ (by omega), hA, Nat.sub_self, e, List.replicate_succ, List.set_cons_zero, List.append_assoc, List.singleton_append]
theorem q2k (A : List Int) : D.noPtrL (A.map (D.int .i64) ++ [.nilsl, .nilsl]) = true := by
 rw [D.noPtrL_iff]
 intro d hd
 simp only [List.mem_append, List.mem_map, List.mem_cons, List.not_mem_nil, or_false] at hd
 rcases hd with ⟨n, _, rfl⟩ | rfl | rfl <;> rfl
theorem xfl {A : List Int} (h : A.length = 7) : ∃ a0 a1 a2 a3 a4 a5 a6, A = [a0, a1, a2, a3, a4, a5, a6] := by
 match A, h with
 | [a0, a1, a2, a3, a4, a5, a6], _ => exact ⟨a0, a1, a2, a3, a4, a5, a6, rfl⟩
theorem qja (b : List UInt8) : (jy b).1.length ≤ b.length := by
 unfold jy
 split
 ·exact Nat.zero_le _
 ·split
  ·simp only [List.length_take]; omega
  ·exact Nat.zero_le _
set_option maxRecDepth 10000 in
theorem q2l (b : List UInt8) (hb : b.length ≤ 1000000000) : qg Tryz.prog 56 [.d (.sl 1 (qd b))] [] (.tup [.d (.agg (qe (kf b).1)), .d (.int .i64 (kf b).2)]) [] := by
 have hop := q53 b hb
 have hln := qja b
 unfold kf
 generalize jy b = x at hop hln ⊢
 obtain ⟨s, e⟩ := x
 simp only at hln
 refine F56.goT ?_
 try (refine ev ?_; try exact True.intro)
 (repeat (with_reducible refine ob ?_)); first | refine cl F106 (hop) ?_ | refine clF F106 (hop) (fun _ => by (refine ev1 @qe.eq_1 ?_; try exact True.intro)) ?_
 try (refine ev ?_; try exact True.intro)
 refine xt _ (fun h => ?_) (fun h => ?_)
 ·rw [if_pos (by simpa using h)]
  try (refine ev1 @qe.eq_1 ?_; try exact True.intro)
  exact ⟨rfl, rfl, rfl, rfl, rfl, rfl, rfl, rfl, rfl⟩
 have he : e = 0 := by simpa using h
 rw [if_neg (by simp [he])]
 have hnew := qrl s (by omega)
 simp only [rdO] at hnew
 try (refine ev ?_; try exact True.intro)
 refine clO [1] F54 hnew ?_
 try (refine ev ?_; try exact True.intro)
 have hr0 : (⟨s, 0, false⟩ : Rd).Ok := ⟨by simp only; omega, Nat.zero_le _⟩
 refine qj (fun i : { i : Nat // i ≤ 7 } => xae ⟨s, 0, false⟩ i.val) (fun i => 7 - i.val) ⟨0, Nat.zero_le _⟩ ?_ (fun i => ?_)
 ·try simp only [xae, yd, rdO, Int.ofNat_zero, qe, go_sem, Nat.reduceAdd, Nat.reduceMul, Nat.reduceSub, Nat.reduceEqDiff, Nat.reduceLT, Nat.reduceLeDiff, Nat.reduceBEq, reduceIte, reduceCtorEq, Int.reduceAdd, Int.reduceLT, Int.reduceLE, Int.reduceGT, Int.reduceGE, Int.reduceEq, Int.reduceNe, Int.reduceBEq, Int.reduceBNe, Int.reduceToNat, Int.reduceNeg]
  exact ⟨rfl, rfl, rfl, rfl, rfl, rfl, rfl, rfl, rfl⟩
 obtain ⟨i, hi⟩ := i
 obtain ⟨v1, v2, v3⟩ := qh6 hr0 i
 have hI := qro _ v1
 have hsn : yd (i + 1) ⟨s, 0, false⟩ = ((yd i ⟨s, 0, false⟩).1 ++ [(ky (yd i ⟨s, 0, false⟩).2).1], (ky (yd i ⟨s, 0, false⟩).2).2) := rfl
 simp only [rdO] at hI
 try (refine ev2 @xae.eq_1 @rdO.eq_1 ?_; try exact True.intro)
 refine xt _ (fun h => ?_) (fun h => ?_)
 ·have hil : i < 7 := by simp at h; omega
  have hg : List.getD [[D.ptr 2 0], [D.ptr 2 1], [D.ptr 2 2], [D.ptr 2 3], [D.ptr 2 4], [D.ptr 2 5], [D.ptr 2 6]] i [] = [D.ptr 2 i] := by
   have : i = 0 ∨ i = 1 ∨ i = 2 ∨ i = 3 ∨ i = 4 ∨ i = 5 ∨ i = 6 := by omega
   rcases this with rfl | rfl | rfl | rfl | rfl | rfl | rfl <;> rfl
  try (refine ev1 @hg ?_; try exact True.intro)
  (repeat (with_reducible refine ob ?_))
  (repeat (with_reducible refine ob ?_)); refine clO [1] F55 (hI) ?_ (hfit := by first | exact ⟨qc, trivial⟩ | exact ⟨qc, qc, trivial⟩ | (refine ev1 @qe.eq_1 ?_; try exact True.intro))
  try (refine ev ?_; try exact True.intro)
  have hset := xaf (D.int .i64) (yd i ⟨s, 0, false⟩).1 [.nilsl, .nilsl] (ky (yd i ⟨s, 0, false⟩).2).1 v3 hil
  refine ⟨by rw [v3, List.length_replicate]; omega, ⟨i + 1, hil⟩, ?_, by dsimp only; omega⟩
  try (refine ev6 @xae.eq_1 @rdO.eq_1 @hsn @hset @qai (qi (show i < 9223372036854775807 by omega)) ?_; try exact True.intro)
  exact D.okWL_noPtr (q2k _)
 ·have hil : i = 7 := by simp at h; omega
  subst hil
  unfold qks
  generalize yd 7 ⟨s, 0, false⟩ = x at v1 v3 ⊢
  obtain ⟨A, r1⟩ := x
  simp only at v1 v3
  obtain ⟨a0, a1, a2, a3, a4, a5, a6, rfl⟩ := xfl v3
  have hV := xad r1 4 v1 (by decide)
  have iV := (qm6 v1 4).1
  have lV := qdi (fun r => qdh (f := rAV) (most := 4) (r := r)) r1
  have hC := q52 _ 6 iV (by decide)
  have iC := (qpj iV 6).1
  have lC := qdi (fun r => qdh (f := rInt) (most := 6) (r := r)) (qbg 4 r1).2
  have hE := q5u _ iC
  simp only [rdO, Int.cast_ofNat_Int] at hV hC hE lV lC
  try (refine ev ?_; try exact True.intro)
  (repeat (with_reducible refine ob ?_)); refine clO [1] F107 (hV) ?_ (hfit := by first | exact ⟨qc, trivial⟩ | exact ⟨qc, qc, trivial⟩ | (refine ev1 @qe.eq_1 ?_; try exact True.intro))
  try (refine ev ?_; try exact True.intro)
  (repeat (with_reducible refine ob ?_)); refine clO [1] F108 (hC) ?_ (hfit := by first | exact ⟨qc, trivial⟩ | exact ⟨qc, qc, trivial⟩ | (refine ev1 @qe.eq_1 ?_; try exact True.intro))
  try (refine ev ?_; try exact True.intro)
  (repeat (with_reducible refine ob ?_)); refine clO [1] F109 (hE) ?_ (hfit := by first | exact ⟨qc, trivial⟩ | exact ⟨qc, qc, trivial⟩ | (refine ev1 @qe.eq_1 ?_; try exact True.intro))
  try (refine ev ?_; try exact True.intro)
  generalize hp : pkOf [a0, a1, a2, a3, a4, a5, a6] (qbg 4 r1).1 (qap 6 (qbg 4 r1).2).1 = p
  have hpe : qe p = [.int .i64 a0, .int .i64 a1, .int .i64 a2, .int .i64 a3, .int .i64 a4, .int .i64 a5, .int .i64 a6, .sl 3 ((qbg 4 r1).1.map qx), .sl 1 ((qap 6 (qbg 4 r1).2).1.map encI)] := by rw [← hp]; rfl
  have hpm : p.Sm := by rw [← hp]; exact ⟨Nat.le_trans lV (by decide), Nat.le_trans lC (by decide)⟩
  have hv := yk p hpm.v hpm.c
  rw [hpe] at hv
  (repeat (with_reducible refine ob ?_)); first | refine cl F110 (hv) ?_ | refine clF F110 (hv) (fun _ => by (refine ev1 @qe.eq_1 ?_; try exact True.intro)) ?_
  try (refine ev ?_; try exact True.intro)
  (repeat (with_reducible refine ob ?_))
  refine xt _ (fun h => ?_) (fun h => ?_)
  ·rw [if_pos h]
   try (refine ev1 @qe.eq_1 ?_; try exact True.intro)
   exact ⟨rfl, rfl, rfl, rfl, rfl, rfl, rfl, rfl, rfl⟩
  ·rw [if_neg (by rw [h]; simp)]
   try (refine ev2 @hpe @qdz ?_; try exact True.intro)
end Go.Proofs.YtinnaedmdoengaaGreat
namespace Go.Proofs.YtinnaedmdoengaaGreat
open Go.Abs
set_option linter.unusedSimpArgs false
theorem qk7 {α : Type} {f : α → Bool} {l : List α} {i : Nat} (h : (l.take i).all f = true) (hi : l.length ≤ i) : l.all f = true := by
 rwa [List.take_of_length_le hi] at h
noncomputable section
set_option maxRecDepth 100000
set_option linter.defProp false
def d88 := cut Tryz.prog Tryz.f88 news
@[go_sem] def E88 := ql d88
def F88 := fnC d88 follows Tryz.func88
def d89 := cut Tryz.prog Tryz.f89 news
@[go_sem] def E89 := ql d89
def F89 := fnC d89 follows Tryz.func89
def d143 := cut Tryz.prog Tryz.f143 news
@[go_sem] def E143 := ql d143
def F143 := fnC d143 follows Tryz.func143
def d90 := cut Tryz.prog Tryz.f90 news
@[go_sem] def E90 := ql d90
def F90 := fnC d90 follows Tryz.func90
def d40 := cut Tryz.prog Tryz.f40 news
@[go_sem] def E40 := ql d40
def F40 := fnC d40 follows Tryz.func40
end
def in46 (n lo hi : Int) : Bool := decide (n ≥ lo) && decide (n ≤ hi)
theorem jn (n lo hi : Int) : qg Tryz.prog 88 [.d (.int .i64 n), .d (.int .i64 lo), .d (.int .i64 hi)] [] (.d (.bool (in46 n lo hi))) [] := by
 first | refine F88.go ?_ | refine F88.goT ?_
 (refine ev ?_; try exact True.intro)
 rfl
def qpl (p : Pk) : Bool := in46 p.from_ 0 5 && in46 p.to 0 5 && p.from_ != p.to
theorem qh7 (p : Pk) : qg Tryz.prog 89 [.d (.agg (qe p))] [] (.d (.bool (qpl p))) [] := by
 first | refine F89.go ?_ | refine F89.goT ?_
 (refine ev1 @qe.eq_1 ?_; try exact True.intro)
 (repeat (with_reducible refine ob ?_)); first | refine cl F88 (jn _ _ _) ?_ | refine clF F88 (jn _ _ _) (fun _ => by (refine ev3 @qe.eq_1 @qx.eq_1 @encI.eq_1 ?_; try exact True.intro)) ?_
 try (refine ev ?_; try exact True.intro)
 (repeat (with_reducible refine ob ?_)); first | refine cl F88 (jn _ _ _) ?_ | refine clF F88 (jn _ _ _) (fun _ => by (refine ev3 @qe.eq_1 @qx.eq_1 @encI.eq_1 ?_; try exact True.intro)) ?_
 try (refine ev ?_; try exact True.intro)
 rfl
def qk8 (v : AV) : Bool := v.kind == 1 && v.s == [] || v.kind == 2 && v.n == 0
theorem qm7 (v : AV) : qg Tryz.prog 143 [.d (.agg (qx v))] [] (.d (.bool (qk8 v))) [] := by
 first | refine F143.go ?_ | refine F143.goT ?_
 (refine ev1 @qx.eq_1 ?_; try exact True.intro)
 (repeat (with_reducible refine ob ?_))
 rfl
def qm8 (v : AV) : Bool := !(!qk8 v || decide ((v.s.length : Int) > 40))
def qrq (n : Int) : Bool := in46 n 0 1099511627776
def qak (p : Pk) : Bool := !(decide ((p.values.length : Int) > 4) || decide ((p.clock.length : Int) > 6)) && p.values.all qm8 && p.clock.all qrq
def qkt (p : Pk) : AObj := .row [.d (.int .i64 p.kind), .d (.int .i64 p.sess), .d (.int .i64 p.epoch), .d (.int .i64 p.from_), .d (.int .i64 p.to), .d (.int .i64 p.seq), .d (.int .i64 p.label), .d (.sl 3 (p.values.map qx)), .d (.sl 1 (p.clock.map encI))]
def qzm (p : Pk) (i : { i : Nat // (p.values.take i).all qm8 = true }) : St := ⟨[(1, true, .d (.ptr 0 0)), (3, true, .d (.int .i64 (i.val : Nat)))], [qkt p], [], 1⟩
def qzn (p : Pk) (i : { i : Nat // (p.clock.take i).all qrq = true }) : St := ⟨[(1, true, .d (.ptr 0 0)), (4, true, .d (.int .i64 (i.val : Nat)))], [qkt p], [], 1⟩
theorem qkd (p : Pk) (hp : p.Sm) : qg Tryz.prog 90 [.d (.agg (qe p))] [] (.d (.bool (qak p))) [] := by
 obtain ⟨hp1, hp2⟩ := hp
 first | refine F90.go ?_ | refine F90.goT ?_
 (refine ev1 @qe.eq_1 ?_; try exact True.intro)
 (repeat (with_reducible refine ob ?_))
 refine qs _ rfl rfl (fun h0 => ?_) (fun h0 => ?_)
 ·(refine ev2 @qak.eq_1 @h0 ?_; try exact True.intro)
 try (refine ev ?_; try exact True.intro)
 refine qj (qzm p) (fun i => p.values.length - i.val) ⟨0, rfl⟩ ?_ (fun i => ?_)
 ·try (refine ev2 @qzm.eq_1 @qkt.eq_1 ?_; try exact True.intro)
 obtain ⟨i, hi⟩ := i
 try (refine ev2 @qzm.eq_1 @qkt.eq_1 ?_; try exact True.intro)
 refine qs _ rfl rfl (fun h => ?_) (fun h => ?_)
 ·have hil : i < p.values.length := by simpa using h
  (refine ev2 (qq qx p.values hil) @qx.eq_1 ?_; try exact True.intro)
  (repeat (with_reducible refine ob ?_))
  (repeat (with_reducible refine ob ?_)); first | refine cl F143 (qm7 p.values[i]) ?_ | refine clF F143 (qm7 p.values[i]) (fun _ => by (refine ev3 @qe.eq_1 @qx.eq_1 @encI.eq_1 ?_; try exact True.intro)) ?_
  try (refine ev2 (qq qx p.values hil) @qx.eq_1 ?_; try exact True.intro)
  (repeat (with_reducible refine ob ?_))
  refine qs _ rfl rfl (fun h2 => ?_) (fun h2 => ?_)
  ·have hg : qm8 p.values[i] = false := by simp only [qm8, h2]; rfl
   (refine ev2 @qak.eq_1 (qm2 hil hg) ?_; try exact True.intro)
  ·have hg : qm8 p.values[i] = true := by simp only [qm8, h2]; rfl
   try (refine ev ?_; try exact True.intro)
   refine ⟨⟨i + 1, v9 hi hil hg⟩, ?_, by dsimp only; omega⟩
   (refine ev3 @qzm.eq_1 @qkt.eq_1 (qi (show i < 9223372036854775807 by omega)) ?_; try exact True.intro)
 ·have hall : p.values.all qm8 = true := qk7 hi (by simpa using h)
  try (refine ev ?_; try exact True.intro)
  refine qj (qzn p) (fun i => p.clock.length - i.val) ⟨0, rfl⟩ ?_ (fun i => ?_)
  ·try (refine ev2 @qzn.eq_1 @qkt.eq_1 ?_; try exact True.intro)
  obtain ⟨i, hi⟩ := i
  try (refine ev2 @qzn.eq_1 @qkt.eq_1 ?_; try exact True.intro)
  refine qs _ rfl rfl (fun h => ?_) (fun h => ?_)
  ·have hil : i < p.clock.length := by simpa using h
   (refine ev2 (qq encI p.clock hil) @encI.eq_1 ?_; try exact True.intro)
   (repeat (with_reducible refine ob ?_))
   (repeat (with_reducible refine ob ?_)); first | refine cl F88 (jn p.clock[i] _ _) ?_ | refine clF F88 (jn p.clock[i] _ _) (fun _ => by (refine ev3 @qe.eq_1 @qx.eq_1 @encI.eq_1 ?_; try exact True.intro)) ?_
   try (refine ev ?_; try exact True.intro)
   refine qs _ rfl rfl (fun h2 => ?_) (fun h2 => ?_)
   ·have hg : qrq p.clock[i] = false := by simpa [qrq] using h2
    (refine ev2 @qak.eq_1 (qm2 hil hg) ?_; try exact True.intro)
   ·have hg : qrq p.clock[i] = true := by simpa [qrq] using h2
    try (refine ev ?_; try exact True.intro)
    refine ⟨⟨i + 1, v9 hi hil hg⟩, ?_, by dsimp only; omega⟩
    (refine ev3 @qzn.eq_1 @qkt.eq_1 (qi (show i < 9223372036854775807 by omega)) ?_; try exact True.intro)
  ·have hall2 := qk7 hi (by simpa using h)
   (refine ev4 @qak.eq_1 @h0 @hall @hall2 ?_; try exact True.intro)
def qrr (p : Pk) : Bool := p.epoch == 0 && (p.values.length : Int) == 0 && (p.clock.length : Int) == 0
def qal (p : Pk) : Bool :=
 if !in46 p.sess 1 32 then false
 else if p.kind == 1 then in46 p.epoch 0 1 && qpl p && in46 p.seq 1 1099511627776 && in46 p.label 0 39 && qak p
 else if p.kind == 2 then qpl p && in46 p.seq 1 1099511627776 && p.label == 0 && qrr p
 else if p.kind == 3 || p.kind == 4 then in46 p.from_ 0 5 && p.to == 0 && p.seq == 0 && in46 p.label 1 2 && qrr p
 else false
set_option maxRecDepth 10000 in
theorem qfv (p : Pk) (hp : p.Sm) : qg Tryz.prog 40 [.d (.agg (qe p))] [] (.d (.bool (qal p))) [] := by
 first | refine F40.go ?_ | refine F40.goT ?_
 (refine ev1 @qe.eq_1 ?_; try exact True.intro)
 (repeat (with_reducible refine ob ?_)); first | refine cl F88 (jn _ _ _) ?_ | refine clF F88 (jn _ _ _) (fun _ => by (refine ev3 @qe.eq_1 @qx.eq_1 @encI.eq_1 ?_; try exact True.intro)) ?_
 try (refine ev ?_; try exact True.intro)
 have he : (p.epoch == 0 && (p.values.length : Int) == 0 && (p.clock.length : Int) == 0) = qrr p := rfl
 refine qs _ rfl rfl (fun h0 => ?_) (fun h0 => ?_)
 ·(refine ev2 @qal.eq_1 @h0 ?_; try exact True.intro)
 try (refine ev1 @he ?_; try exact True.intro)
 refine qs _ rfl rfl (fun h1 => ?_) (fun h1 => ?_)
 ·try (refine ev ?_; try exact True.intro)
  (repeat (with_reducible refine ob ?_)); first | refine cl F88 (jn _ _ _) ?_ | refine clF F88 (jn _ _ _) (fun _ => by (refine ev3 @qe.eq_1 @qx.eq_1 @encI.eq_1 ?_; try exact True.intro)) ?_
  try (refine ev ?_; try exact True.intro)
  (repeat (with_reducible refine ob ?_)); first | refine cl F89 (qh7 p) ?_ | refine clF F89 (qh7 p) (fun _ => by (refine ev3 @qe.eq_1 @qx.eq_1 @encI.eq_1 ?_; try exact True.intro)) ?_
  try (refine ev ?_; try exact True.intro)
  (repeat (with_reducible refine ob ?_)); first | refine cl F88 (jn _ _ _) ?_ | refine clF F88 (jn _ _ _) (fun _ => by (refine ev3 @qe.eq_1 @qx.eq_1 @encI.eq_1 ?_; try exact True.intro)) ?_
  try (refine ev ?_; try exact True.intro)
  (repeat (with_reducible refine ob ?_)); first | refine cl F88 (jn _ _ _) ?_ | refine clF F88 (jn _ _ _) (fun _ => by (refine ev3 @qe.eq_1 @qx.eq_1 @encI.eq_1 ?_; try exact True.intro)) ?_
  try (refine ev ?_; try exact True.intro)
  (repeat (with_reducible refine ob ?_)); first | refine cl F90 (qkd p hp) ?_ | refine clF F90 (qkd p hp) (fun _ => by (refine ev3 @qe.eq_1 @qx.eq_1 @encI.eq_1 ?_; try exact True.intro)) ?_
  (refine ev3 @qal.eq_1 @h0 @h1 ?_; try exact True.intro)
 try (refine ev ?_; try exact True.intro)
 refine qs _ rfl rfl (fun h2 => ?_) (fun h2 => ?_)
 ·try (refine ev ?_; try exact True.intro)
  (repeat (with_reducible refine ob ?_)); first | refine cl F89 (qh7 p) ?_ | refine clF F89 (qh7 p) (fun _ => by (refine ev3 @qe.eq_1 @qx.eq_1 @encI.eq_1 ?_; try exact True.intro)) ?_
  try (refine ev ?_; try exact True.intro)
  (repeat (with_reducible refine ob ?_)); first | refine cl F88 (jn _ _ _) ?_ | refine clF F88 (jn _ _ _) (fun _ => by (refine ev3 @qe.eq_1 @qx.eq_1 @encI.eq_1 ?_; try exact True.intro)) ?_
  (refine ev4 @qal.eq_1 @h0 @h1 @h2 ?_; try exact True.intro)
 try (refine ev ?_; try exact True.intro)
 refine qs _ rfl rfl (fun h3 => ?_) (fun h3 => ?_)
 ·try (refine ev ?_; try exact True.intro)
  refine qs _ rfl rfl (fun _ => ?_) (fun hx => Bool.noConfusion (h3.symm.trans hx))
  try (refine ev ?_; try exact True.intro)
  (repeat (with_reducible refine ob ?_)); first | refine cl F88 (jn _ _ _) ?_ | refine clF F88 (jn _ _ _) (fun _ => by (refine ev3 @qe.eq_1 @qx.eq_1 @encI.eq_1 ?_; try exact True.intro)) ?_
  try (refine ev ?_; try exact True.intro)
  (repeat (with_reducible refine ob ?_)); first | refine cl F88 (jn _ _ _) ?_ | refine clF F88 (jn _ _ _) (fun _ => by (refine ev3 @qe.eq_1 @qx.eq_1 @encI.eq_1 ?_; try exact True.intro)) ?_
  (refine ev5 @qal.eq_1 @h0 @h1 @h2 @h3 ?_; try exact True.intro)
 try (refine ev ?_; try exact True.intro)
 refine qs _ rfl rfl (fun h4 => ?_) (fun h4 => ?_)
 ·try (refine ev ?_; try exact True.intro)
  (repeat (with_reducible refine ob ?_)); first | refine cl F88 (jn _ _ _) ?_ | refine clF F88 (jn _ _ _) (fun _ => by (refine ev3 @qe.eq_1 @qx.eq_1 @encI.eq_1 ?_; try exact True.intro)) ?_
  try (refine ev ?_; try exact True.intro)
  (repeat (with_reducible refine ob ?_)); first | refine cl F88 (jn _ _ _) ?_ | refine clF F88 (jn _ _ _) (fun _ => by (refine ev3 @qe.eq_1 @qx.eq_1 @encI.eq_1 ?_; try exact True.intro)) ?_
  (refine ev6 @qal.eq_1 @h0 @h1 @h2 @h3 @h4 ?_; try exact True.intro)
 ·(refine ev6 @qal.eq_1 @h0 @h1 @h2 @h3 @h4 ?_; try exact True.intro)
end Go.Proofs.YtinnaedmdoengaaGreat
namespace Go.Proofs.YtinnaedmdoengaaGreat
open Go.Abs
set_option linter.unusedSimpArgs false
noncomputable section
set_option maxRecDepth 100000
set_option linter.defProp false
def d147 := cut Tryz.prog Tryz.f147 news
@[go_sem] def E147 := ql d147
def F147 := fnC d147 follows Tryz.func147
def d148 := cut Tryz.prog Tryz.f148 news
@[go_sem] def E148 := ql d148
def F148 := fnC d148 follows Tryz.func148
def d93 := cut Tryz.prog Tryz.f93 news
@[go_sem] def E93 := ql d93
def F93 := fnC d93 follows Tryz.func93
def d49 := cut Tryz.prog Tryz.f49 news
@[go_sem] def E49 := ql d49
def F49 := fnC d49 follows Tryz.func49
def d39 := cut Tryz.prog Tryz.f39 news
@[go_sem] def E39 := ql d39
def F39 := fnC d39 follows Tryz.func39
def d8 := cut Tryz.prog Tryz.f8 news
@[go_sem] def E8 := ql d8
def F8 := fnC d8 follows Tryz.func8
end
def qku {α : Type} (es : Nat) (enc : α → List D) (l m : List α) (i : { i : Nat // l.take i = m.take i }) : St :=
 ⟨[(0, true, .d (.sl es (l.map enc))), (1, true, .d (.sl es (m.map enc))), (5, true, .d (.int .i64 (i.val : Nat)))], [], [], 1⟩
theorem qe5 {α : Type} [DecidableEq α] {l m : List α} {i : Nat} (h : l.take i = m.take i) (hi : l.length ≤ i) (hlm : l.length = m.length) : decide (l = m) = true := by
 rw [List.take_of_length_le hi, List.take_of_length_le (by omega)] at h
 simp [h]
theorem qzo (l m : List AV) (hl : l.length ≤ 1000) : qg Tryz.prog 147 [.d (.sl 3 (l.map qx)), .d (.sl 3 (m.map qx))] [] (.d (.bool (decide (l = m)))) [] := by
 first | refine F147.go ?_ | refine F147.goT ?_
 (refine ev ?_; try exact True.intro)
 refine qs _ rfl rfl (fun h => ?_) (fun h => ?_)
 ·have hne : decide (l = m) = false := by rw [decide_eq_false_iff_not]; rintro rfl; simp at h
  try (refine ev1 @hne ?_; try exact True.intro)
 have hlm : l.length = m.length := by simp at h; omega
 try (refine ev ?_; try exact True.intro)
 refine qj (qku 3 qx l m) (fun i => l.length - i.val) ⟨0, rfl⟩ ?_ (fun i => ?_)
 ·try (refine ev1 @qku.eq_1 ?_; try exact True.intro)
 obtain ⟨i, hi⟩ := i
 try (refine ev1 @qku.eq_1 ?_; try exact True.intro)
 refine qs _ rfl rfl (fun h => ?_) (fun h => ?_)
 ·have hil : i < l.length := by simpa using h
  have him : i < m.length := by omega
  (refine ev4 (qq qx l hil) (qq qx m him) @qx.eq_1 @xbr ?_; try exact True.intro)
  (repeat (with_reducible refine ob ?_))
  skip
  refine qs _ rfl rfl (fun h2 => ?_) (fun h2 => ?_)
  ·have hne : l[i] ≠ m[i] := by simpa using h2
   try (refine ev1 (q43 hil him hne) ?_; try exact True.intro)
  ·have he : l[i] = m[i] := by simpa using h2
   try (refine ev ?_; try exact True.intro)
   refine ⟨⟨i + 1, qa4 hi hil him he⟩, ?_, by dsimp only; omega⟩
   (refine ev2 @qku.eq_1 (qi (show i < 9223372036854775807 by omega)) ?_; try exact True.intro)
 ·try (refine ev1 (qe5 hi (by simpa using h) hlm) ?_; try exact True.intro)
theorem qzp (l m : List Int) (hl : l.length ≤ 1000) : qg Tryz.prog 148 [.d (.sl 1 (l.map encI)), .d (.sl 1 (m.map encI))] [] (.d (.bool (decide (l = m)))) [] := by
 first | refine F148.go ?_ | refine F148.goT ?_
 (refine ev ?_; try exact True.intro)
 refine qs _ rfl rfl (fun h => ?_) (fun h => ?_)
 ·have hne : decide (l = m) = false := by rw [decide_eq_false_iff_not]; rintro rfl; simp at h
  try (refine ev1 @hne ?_; try exact True.intro)
 have hlm : l.length = m.length := by simp at h; omega
 try (refine ev ?_; try exact True.intro)
 refine qj (qku 1 encI l m) (fun i => l.length - i.val) ⟨0, rfl⟩ ?_ (fun i => ?_)
 ·try (refine ev1 @qku.eq_1 ?_; try exact True.intro)
 obtain ⟨i, hi⟩ := i
 try (refine ev1 @qku.eq_1 ?_; try exact True.intro)
 refine qs _ rfl rfl (fun h => ?_) (fun h => ?_)
 ·have hil : i < l.length := by simpa using h
  have him : i < m.length := by omega
  (refine ev4 (qq encI l hil) (qq encI m him) @encI.eq_1 @encI.eq_1 ?_; try exact True.intro)
  (repeat (with_reducible refine ob ?_))
  skip
  refine qs _ rfl rfl (fun h2 => ?_) (fun h2 => ?_)
  ·have hne : l[i] ≠ m[i] := by simpa using h2
   try (refine ev1 (q43 hil him hne) ?_; try exact True.intro)
  ·have he : l[i] = m[i] := by simpa using h2
   try (refine ev ?_; try exact True.intro)
   refine ⟨⟨i + 1, qa4 hi hil him he⟩, ?_, by dsimp only; omega⟩
   (refine ev2 @qku.eq_1 (qi (show i < 9223372036854775807 by omega)) ?_; try exact True.intro)
 ·try (refine ev1 (qe5 hi (by simpa using h) hlm) ?_; try exact True.intro)
set_option maxRecDepth 10000 in
theorem qke (p q : Pk) (hp : p.Sm) :
  qg Tryz.prog 93 [.d (.agg (qe p)), .d (.agg (qe q))] [] (.d (.bool (decide (p = q)))) [] := by
 first | refine F93.go ?_ | refine F93.goT ?_
 (refine ev1 @qe.eq_1 ?_; try exact True.intro)
 (repeat (with_reducible refine ob ?_)); first | refine cl F147 (qzo p.values q.values hp.1) ?_ | refine clF F147 (qzo p.values q.values hp.1) (fun _ => by (refine ev3 @qe.eq_1 @qx.eq_1 @encI.eq_1 ?_; try exact True.intro)) ?_
 try (refine ev ?_; try exact True.intro)
 (repeat (with_reducible refine ob ?_)); first | refine cl F148 (qzp p.clock q.clock hp.2) ?_ | refine clF F148 (qzp p.clock q.clock hp.2) (fun _ => by (refine ev3 @qe.eq_1 @qx.eq_1 @encI.eq_1 ?_; try exact True.intro)) ?_
 try (refine ev1 @xbs ?_; try exact True.intro)
theorem qzq (l m : List Pk) (hl : l.length ≤ 1000) (hp : ∀ p ∈ l, p.Sm) : qg Tryz.prog 49 [.d (.sl 9 (l.map qe)), .d (.sl 9 (m.map qe))] [] (.d (.bool (decide (l = m)))) [] := by
 first | refine F49.go ?_ | refine F49.goT ?_
 (refine ev ?_; try exact True.intro)
 refine qs _ rfl rfl (fun h => ?_) (fun h => ?_)
 ·have hne : decide (l = m) = false := by rw [decide_eq_false_iff_not]; rintro rfl; simp at h
  try (refine ev1 @hne ?_; try exact True.intro)
 have hlm : l.length = m.length := by simp at h; omega
 try (refine ev ?_; try exact True.intro)
 refine qj (qku 9 qe l m) (fun i => l.length - i.val) ⟨0, rfl⟩ ?_ (fun i => ?_)
 ·try (refine ev1 @qku.eq_1 ?_; try exact True.intro)
 obtain ⟨i, hi⟩ := i
 try (refine ev1 @qku.eq_1 ?_; try exact True.intro)
 refine qs _ rfl rfl (fun h => ?_) (fun h => ?_)
 ·have hil : i < l.length := by simpa using h
  have him : i < m.length := by omega
  (refine ev4 (qq qe l hil) (qq qe m him) @qe.eq_1 @qe.eq_1 ?_; try exact True.intro)
  (repeat (with_reducible refine ob ?_))
  ((repeat (with_reducible refine ob ?_)); first | refine cl F93 (qke l[i] m[i] (hp _ (List.getElem_mem hil))) ?_ | refine clF F93 (qke l[i] m[i] (hp _ (List.getElem_mem hil))) (fun _ => by (refine ev3 @qe.eq_1 @qx.eq_1 @encI.eq_1 ?_; try exact True.intro)) ?_); try (refine ev ?_; try exact True.intro)
  refine qs _ rfl rfl (fun h2 => ?_) (fun h2 => ?_)
  ·have hne : l[i] ≠ m[i] := by simpa using h2
   try (refine ev1 (q43 hil him hne) ?_; try exact True.intro)
  ·have he : l[i] = m[i] := by simpa using h2
   try (refine ev ?_; try exact True.intro)
   refine ⟨⟨i + 1, qa4 hi hil him he⟩, ?_, by dsimp only; omega⟩
   (refine ev2 @qku.eq_1 (qi (show i < 9223372036854775807 by omega)) ?_; try exact True.intro)
 ·try (refine ev1 (qe5 hi (by simpa using h) hlm) ?_; try exact True.intro)
def qe6 (v : AV) : Bool := !decide ((v.s.length : Int) > 100)
def qkv (p : Pk) : Bool := p.values.all qe6 && (decide ((p.values.length : Int) ≤ 10) && decide ((p.clock.length : Int) ≤ 10))
def qzr (p : Pk) (i : { i : Nat // (p.values.take i).all qe6 = true }) : St := ⟨[(1, true, .d (.ptr 0 0)), (3, true, .d (.int .i64 (i.val : Nat)))], [qkt p], [], 1⟩
theorem qzs (p : Pk) (hp : p.values.length ≤ maxLen) : qg Tryz.prog 39 [.d (.agg (qe p))] [] (.d (.bool (qkv p))) [] := by
 unfold maxLen at hp
 first | refine F39.go ?_ | refine F39.goT ?_
 (refine ev1 @qe.eq_1 ?_; try exact True.intro)
 refine qj (qzr p) (fun i => p.values.length - i.val) ⟨0, rfl⟩ ?_ (fun i => ?_)
 ·try (refine ev2 @qzr.eq_1 @qkt.eq_1 ?_; try exact True.intro)
 obtain ⟨i, hi⟩ := i
 try (refine ev2 @qzr.eq_1 @qkt.eq_1 ?_; try exact True.intro)
 refine qs _ rfl rfl (fun h => ?_) (fun h => ?_)
 ·have hil : i < p.values.length := by simpa using h
  (refine ev2 (qq qx p.values hil) @qx.eq_1 ?_; try exact True.intro)
  (repeat (with_reducible refine ob ?_))
  refine qs _ rfl rfl (fun h2 => ?_) (fun h2 => ?_)
  ·have hg : qe6 p.values[i] = false := by simp only [qe6, h2]; rfl
   (refine ev2 @qkv.eq_1 (qm2 hil hg) ?_; try exact True.intro)
  ·have hg : qe6 p.values[i] = true := by simp only [qe6, h2]; rfl
   try (refine ev ?_; try exact True.intro)
   refine ⟨⟨i + 1, v9 hi hil hg⟩, ?_, by dsimp only; omega⟩
   (refine ev3 @qzr.eq_1 @qkt.eq_1 (qi (show i < 9223372036854775807 by omega)) ?_; try exact True.intro)
 ·have hall : p.values.all qe6 = true := qk7 hi (by simpa using h)
  (refine ev2 @qkv.eq_1 @hall ?_; try exact True.intro)
def qObj (q : Qu) : AObj := .row [.d (.int .i64 q.acc), .d (.int .i64 q.cons), .d (.sl 9 (q.items.map qe))]
def fewQ (q : Qu) : Bool := q.items.all qkv && decide ((q.items.length : Int) ≤ 8)
def xag (q : Qu) (i : { i : Nat // (q.items.take i).all qkv = true }) : St := ⟨[(1, true, .d (.ptr 0 0)), (3, true, .d (.int .i64 (i.val : Nat)))], [qObj q], [], 1⟩
theorem qjb (q : Qu) (hq : q.items.length ≤ maxLen) (hv : ∀ p ∈ q.items, p.values.length ≤ maxLen) : qg Tryz.prog 8 [.d (.agg (encQ q))] [] (.d (.bool (fewQ q))) [] := by
 unfold maxLen at hq
 first | refine F8.go ?_ | refine F8.goT ?_
 (refine ev1 @encQ.eq_1 ?_; try exact True.intro)
 refine qj (xag q) (fun i => q.items.length - i.val) ⟨0, rfl⟩ ?_ (fun i => ?_)
 ·try (refine ev2 @xag.eq_1 @qObj.eq_1 ?_; try exact True.intro)
 obtain ⟨i, hi⟩ := i
 try (refine ev2 @xag.eq_1 @qObj.eq_1 ?_; try exact True.intro)
 refine qs _ rfl rfl (fun h => ?_) (fun h => ?_)
 ·have hil : i < q.items.length := by simpa using h
  (refine ev2 (qq qe q.items hil) @qe.eq_1 ?_; try exact True.intro)
  (repeat (with_reducible refine ob ?_))
  (repeat (with_reducible refine ob ?_)); first | refine cl F39 (qzs q.items[i] (hv _ (List.getElem_mem hil))) ?_ | refine clF F39 (qzs q.items[i] (hv _ (List.getElem_mem hil))) (fun _ => by (refine ev3 @qe.eq_1 @qx.eq_1 @encI.eq_1 ?_; try exact True.intro)) ?_
  try (refine ev ?_; try exact True.intro)
  refine qs _ rfl rfl (fun h2 => ?_) (fun h2 => ?_)
  ·have hg : qkv q.items[i] = false := by simpa using h2
   (refine ev2 @fewQ.eq_1 (qm2 hil hg) ?_; try exact True.intro)
  ·have hg : qkv q.items[i] = true := by simpa using h2
   try (refine ev ?_; try exact True.intro)
   refine ⟨⟨i + 1, v9 hi hil hg⟩, ?_, by dsimp only; omega⟩
   (refine ev3 @xag.eq_1 @qObj.eq_1 (qi (show i < 9223372036854775807 by omega)) ?_; try exact True.intro)
 ·have hall : q.items.all qkv = true := qk7 hi (by simpa using h)
  (refine ev2 @fewQ.eq_1 @hall ?_; try exact True.intro)
theorem xah {p : Pk} (h : qkv p = true) : p.Sm := by
 simp only [qkv, Bool.and_eq_true, decide_eq_true_eq] at h
 exact ⟨by omega, by omega⟩
theorem qrs {q : Qu} (h : fewQ q = true) : q.Sm ∧ q.items.length ≤ 8 := by
 simp only [fewQ, Bool.and_eq_true, decide_eq_true_eq, List.all_eq_true] at h
 exact ⟨⟨by omega, fun p hp => xah (h.1 p hp)⟩, by omega⟩
end Go.Proofs.YtinnaedmdoengaaGreat
namespace Go.Proofs.YtinnaedmdoengaaGreat
open Go.Abs
set_option linter.unusedSimpArgs false
noncomputable section
set_option maxRecDepth 100000
set_option linter.defProp false
def d41 := cut Tryz.prog Tryz.f41 news
@[go_sem] def E41 := ql d41
def F41 := fnC d41 follows Tryz.func41
def d9 := cut Tryz.prog Tryz.f9 news
@[go_sem] def E9 := ql d9
def F9 := fnC d9 follows Tryz.func9
def d13 := cut Tryz.prog Tryz.f13 news
@[go_sem] def E13 := ql d13
def F13 := fnC d13 follows Tryz.func13
end
theorem xfm (a b : Qu) : (a.acc == b.acc && a.cons == b.cons && decide (a.items = b.items)) = decide (a = b) := by
 obtain ⟨a1, a2, a3⟩ := a
 obtain ⟨b1, b2, b3⟩ := b
 rw [Bool.eq_iff_iff]
 simp [and_assoc]
theorem qpm (p q : Pk) : qg Tryz.prog 41 [.d (.agg (qe p)), .d (.agg (qe q))] [] (.d (.bool (qod p q))) [] := by
 first | refine F41.go ?_ | refine F41.goT ?_
 (refine ev1 @qe.eq_1 ?_; try exact True.intro)
 rfl
def qh8 (q : Qu) (i : Nat) : Bool :=
 !(!qal (q.items.getD i default) || (q.items.getD i default).kind != 1 || (q.items.getD i default).seq != IntKind.i64.wrap (IntKind.i64.wrap (q.cons + 1) + (i : Int)) || !qod (q.items.getD i default) (q.items.getD 0 default))
def xdn (q : Qu) : Bool := decide (q.cons < 0) || decide (q.acc < q.cons) || decide (q.acc > 1099511627776) || decide ((q.items.length : Int) > 4) || (q.items.length : Int) != IntKind.i64.wrap (q.acc - q.cons)
def qgs (q : Qu) : Bool := !xdn q && qef (qh8 q) q.items.length
def Sv51 (q : Qu) (i : { i : Nat // qef (qh8 q) i = true }) : St := ⟨[(1, true, .d (.ptr 0 0)), (3, true, .d (.int .i64 (i.val : Nat)))], [qObj q], [], 1⟩
set_option maxRecDepth 10000 in
theorem qdj (q : Qu) (hq : q.Sm) : qg Tryz.prog 9 [.d (.agg (encQ q))] [] (.d (.bool (qgs q))) [] := by
 have hl := hq.1
 first | refine F9.go ?_ | refine F9.goT ?_
 (refine ev1 @encQ.eq_1 ?_; try exact True.intro)
 (repeat (with_reducible refine ob ?_))
 have hb : (decide (q.cons < 0) || decide (q.acc < q.cons) || decide (q.acc > 1099511627776) || decide ((q.items.length : Int) > 4) || (q.items.length : Int) != IntKind.i64.wrap (q.acc - q.cons)) = xdn q := rfl
 try (refine ev1 @hb ?_; try exact True.intro)
 refine qs _ rfl rfl (fun h0 => ?_) (fun h0 => ?_)
 ·try (refine ev2 @qgs.eq_1 @h0 ?_; try exact True.intro)
 try (refine ev ?_; try exact True.intro)
 refine qj (Sv51 q) (fun i => q.items.length - i.val) ⟨0, rfl⟩ ?_ (fun i => ?_)
 ·try (refine ev2 @Sv51.eq_1 @qObj.eq_1 ?_; try exact True.intro)
 obtain ⟨i, hi⟩ := i
 try (refine ev2 @Sv51.eq_1 @qObj.eq_1 ?_; try exact True.intro)
 refine qs _ rfl rfl (fun h => ?_) (fun h => ?_)
 ·have hil : i < q.items.length := by simpa using h
  have h0l : 0 < q.items.length := by omega
  (refine ev3 (qq qe q.items hil) (qq qe q.items h0l) @qe.eq_1 ?_; try exact True.intro)
  (repeat (with_reducible refine ob ?_))
  (repeat (with_reducible refine ob ?_)); first | refine cl F40 (qfv q.items[i] (hq.2 _ (List.getElem_mem hil))) ?_ | refine clF F40 (qfv q.items[i] (hq.2 _ (List.getElem_mem hil))) (fun _ => by (refine ev2 @qe.eq_1 @encQ.eq_1 ?_; try exact True.intro)) ?_
  (refine ev2 (qq qe q.items h0l) @qe.eq_1 ?_; try exact True.intro)
  (repeat (with_reducible refine ob ?_))
  (repeat (with_reducible refine ob ?_)); first | refine cl F41 (qpm q.items[i] q.items[0]) ?_ | refine clF F41 (qpm q.items[i] q.items[0]) (fun _ => by (refine ev2 @qe.eq_1 @encQ.eq_1 ?_; try exact True.intro)) ?_
  try (refine ev ?_; try exact True.intro)
  (repeat (with_reducible refine ob ?_))
  have hx : (!qal q.items[i] || q.items[i].kind != 1 || q.items[i].seq != IntKind.i64.wrap (IntKind.i64.wrap (q.cons + 1) + (i : Int)) || !qod q.items[i] q.items[0]) = !qh8 q i := by
   simp only [qh8, qc2 hil, qc2 h0l, Bool.not_not]
  try (refine ev1 @hx ?_; try exact True.intro)
  refine qs _ rfl rfl (fun h2 => ?_) (fun h2 => ?_)
  ·have hg : qh8 q i = false := by simpa using h2
   (refine ev2 @qgs.eq_1 (qq3 hil hg) ?_; try exact True.intro)
  ·have hg : qh8 q i = true := by simpa using h2
   try (refine ev ?_; try exact True.intro)
   refine ⟨⟨i + 1, qi3 hi hg⟩, ?_, by dsimp only; omega⟩
   (refine ev3 @Sv51.eq_1 @qObj.eq_1 (qi (show i < 9223372036854775807 by omega)) ?_; try exact True.intro)
 ·have hil : q.items.length ≤ i := by simpa using h
  have ha : qef (qh8 q) q.items.length = true := qaj.2 fun j hj => qaj.1 hi j (by omega)
  (refine ev3 @qgs.eq_1 @h0 @ha ?_; try exact True.intro)
theorem qjc (a b : Qu) (ha : a.Sm) : qg Tryz.prog 13 [.d (.agg (encQ a)), .d (.agg (encQ b))] [] (.d (.bool (decide (a = b)))) [] := by
 first | refine F13.go ?_ | refine F13.goT ?_
 (refine ev1 @encQ.eq_1 ?_; try exact True.intro)
 (repeat (with_reducible refine ob ?_)); first | refine cl F49 (qzq a.items b.items ha.1 ha.2) ?_ | refine clF F49 (qzq a.items b.items ha.1 ha.2) (fun _ => by (refine ev2 @qe.eq_1 @encQ.eq_1 ?_; try exact True.intro)) ?_
 try (refine ev ?_; try exact True.intro)
 exact xfm a b
end Go.Proofs.YtinnaedmdoengaaGreat
namespace Go.Proofs.YtinnaedmdoengaaGreat
open Go.Abs
set_option linter.unusedSimpArgs false
noncomputable section
set_option maxRecDepth 100000
set_option linter.defProp false
def d12 := cut Tryz.prog Tryz.f12 news
@[go_sem] def E12 := ql d12
def F12 := fnC d12 follows Tryz.func12
def d16 := cut Tryz.prog Tryz.f16 news
@[go_sem] def E16 := ql d16
def F16 := fnC d16 follows Tryz.func16
end
def qu5 (q : Qu) (i : { i : Nat // i ≤ q.items.length }) : St :=
 ⟨[(1, true, .d (.ptr 0 0)), (2, true, .d (.ptr 1 0)), (3, true, .d (.ptr 2 0)), (4, true, .d (.int .i64 (i.val : Nat)))],
  [qObj q, .row [.d (.int .i64 0), .d (.int .i64 0), .d .nilsl], .row [.d (.int .i64 q.acc), .d (.int .i64 q.cons), .own 0 9 ((q.items.take i.val).map qe)]], [0], 1⟩
set_option maxRecDepth 10000 in
theorem qrt (q : Qu) (hq : q.items.length ≤ 1000) : qg Tryz.prog 12 [.d (.agg (encQ q))] [] (.d (.agg (encQ q))) [] := by
 first | refine F12.go ?_ | refine F12.goT ?_
 (refine ev1 @encQ.eq_1 ?_; try exact True.intro)
 refine qj (qu5 q) (fun i => q.items.length - i.val) ⟨0, Nat.zero_le _⟩ ?_ (fun i => ?_)
 ·try (refine ev2 @qu5.eq_1 @qObj.eq_1 ?_; try exact True.intro)
 obtain ⟨i, hi⟩ := i
 try (refine ev2 @qu5.eq_1 @qObj.eq_1 ?_; try exact True.intro)
 refine qs _ rfl rfl (fun h => ?_) (fun h => ?_)
 ·have hil : i < q.items.length := by simpa using h
  (refine ev2 (qq qe q.items hil) @qe.eq_1 ?_; try exact True.intro)
  (repeat (with_reducible refine ob ?_))
  have hlt : (q.items.take i).length ≤ 1000 := by simp; omega
  refine ⟨⟨i + 1, hil⟩, ?_, by dsimp only; omega⟩
  (refine ev5 @qu5.eq_1 @qObj.eq_1 (qdx qe q.items hil) @qe.eq_1 (qi (show i < 9223372036854775807 by omega)) ?_; try exact True.intro)
 ·have hil : i = q.items.length := by
   have : q.items.length ≤ i := by simpa using h
   omega
  subst hil
  try (refine ev1 @List.take_length.{0} ?_; try exact True.intro)
set_option maxRecDepth 10000 in
theorem ym (q : Qu) (hq : q.items.length ≤ 1000) : qg Tryz.prog 16 [.d (.agg (encQ q))] [] (.d (.agg (encQ q))) [] := by
 first | refine F16.go ?_ | refine F16.goT ?_
 (refine ev1 @encQ.eq_1 ?_; try exact True.intro)
 refine qj (qu5 q) (fun i => q.items.length - i.val) ⟨0, Nat.zero_le _⟩ ?_ (fun i => ?_)
 ·try (refine ev2 @qu5.eq_1 @qObj.eq_1 ?_; try exact True.intro)
 obtain ⟨i, hi⟩ := i
 try (refine ev2 @qu5.eq_1 @qObj.eq_1 ?_; try exact True.intro)
 refine qs _ rfl rfl (fun h => ?_) (fun h => ?_)
 ·have hil : i < q.items.length := by simpa using h
  (refine ev2 (qq qe q.items hil) @qe.eq_1 ?_; try exact True.intro)
  (repeat (with_reducible refine ob ?_))
  have hlt : (q.items.take i).length ≤ 1000 := by simp; omega
  refine ⟨⟨i + 1, hil⟩, ?_, by dsimp only; omega⟩
  (refine ev5 @qu5.eq_1 @qObj.eq_1 (qdx qe q.items hil) @qe.eq_1 (qi (show i < 9223372036854775807 by omega)) ?_; try exact True.intro)
 ·have hil : i = q.items.length := by
   have : q.items.length ≤ i := by simpa using h
   omega
  subst hil
  try (refine ev1 @List.take_length.{0} ?_; try exact True.intro)
end Go.Proofs.YtinnaedmdoengaaGreat
namespace Go.Proofs.YtinnaedmdoengaaGreat
open Go.Abs
set_option linter.unusedSimpArgs false
theorem xai (v : AV) : qm8 v = yj v := by
 rw [Bool.eq_iff_iff]
 by_cases h1 : v.kind = 1
 ·by_cases hs : v.s = [] <;> simp [qm8, qk8, yj, h1, hs]
 ·by_cases h2 : v.kind = 2 <;> simp [qm8, qk8, yj, h1, h2]
theorem xaj (n : Int) : qrq n = !(decide (n < 0) || decide (n > 1099511627776)) := by
 rw [Bool.eq_iff_iff]
 simp [qrq, in46]
theorem qu6 (p : Pk) : qak p = (decide ((p.values.length : Int) ≤ 4) && decide ((p.clock.length : Int) ≤ 6) && !(p.values.any fun v => !yj v) && !(p.clock.any fun n => decide (n < 0) || decide (n > 1099511627776))) := by
 have h1 : p.values.all qm8 = !(p.values.any fun v => !yj v) := by
  rw [List.not_any_eq_all_not]
  congr 1
  funext v
  simp [xai]
 have h2 : p.clock.all qrq = !(p.clock.any fun n => decide (n < 0) || decide (n > 1099511627776)) := by
  rw [List.not_any_eq_all_not]
  congr 1
  funext n
  rw [xaj]
 rw [qak, h1, h2]
 congr 2
 rw [Bool.eq_iff_iff]
 simp
theorem xfn (x y : Bool) : (if (!x) = true then false else y) = (x && y) := by cases x <;> rfl
theorem qpn (p : Pk) : qbc p = (qal p && p.kind == 1) := by
 by_cases hk : p.kind = 1
 ·have h46 : qal p = (in46 p.sess 1 32 && (in46 p.epoch 0 1 && qpl p && in46 p.seq 1 1099511627776 && in46 p.label 0 39 && qak p)) := by
   simp only [qal, hk, xfn, beq_self_eq_true, if_true]
  rw [h46, Bool.eq_iff_iff]
  simp only [qbc, xe, qml, data, qdy, role, qpl, in46, qu6, hk, beq_self_eq_true, Bool.true_and, Bool.and_true, if_true, Bool.and_eq_true, decide_eq_true_eq, Bool.or_eq_true, beq_iff_eq, Bool.not_eq_true', bne_iff_ne]
  generalize (p.values.any fun v => !yj v) = a
  generalize (p.clock.any fun n => decide (n < 0) || decide (n > 1099511627776)) = b
  constructor
  ·intro h; grind
  ·intro h; grind
 ·have : (p.kind == 1) = false := by simpa using hk
  simp only [qbc, this, Bool.false_and, Bool.and_false]
structure QW0 (q : Qu) : Prop where
 lo : 0 ≤ q.cons
 le : q.cons ≤ q.acc
 hi : q.acc ≤ 1099511627776
 len : (q.items.length : Int) = q.acc - q.cons
 few : q.items.length ≤ 4
 item : ∀ (i : Nat) (h : i < q.items.length), qbc q.items[i] = true ∧ qod q.items[i] (q.items[0]'(by omega)) = true ∧ q.items[i].seq = q.cons + 1 + i
theorem xbz {c : Int} {i : Nat} (h1 : 0 ≤ c) (h2 : c ≤ 1099511627776) (h3 : i ≤ 4) : IntKind.i64.wrap (IntKind.i64.wrap (c + 1) + (i : Int)) = c + 1 + i := by
 rw [wrap_i64 (n := c + 1) (by omega) (by omega), wrap_i64 (by omega) (by omega)]
theorem qu7 {q : Qu} {i : Nat} (h1 : 0 ≤ q.cons) (h2 : q.cons ≤ 1099511627776) (h3 : q.items.length ≤ 4) (hi : i < q.items.length) :
  qmm q i = true ↔ qbc q.items[i] = true ∧ qod q.items[i] (q.items[0]'(by omega)) = true ∧ q.items[i].seq = q.cons + 1 + i := by
 have h0 : 0 < q.items.length := by omega
 simp only [qmm, qc2 hi, qc2 h0, Bool.and_eq_true, beq_iff_eq, xbz h1 h2 (show i ≤ 4 by omega), and_assoc]
theorem qpo {q : Qu} {i : Nat} (h1 : 0 ≤ q.cons) (h2 : q.cons ≤ 1099511627776) (h3 : q.items.length ≤ 4) (hi : i < q.items.length) :
  qh8 q i = true ↔ qbc q.items[i] = true ∧ qod q.items[i] (q.items[0]'(by omega)) = true ∧ q.items[i].seq = q.cons + 1 + i := by
 have h0 : 0 < q.items.length := by omega
 simp only [qh8, qc2 hi, qc2 h0, xbz h1 h2 (show i ≤ 4 by omega), qpn, Bool.not_eq_true', Bool.or_eq_false_iff, Bool.not_eq_false', bne_eq_false_iff_eq, Bool.and_eq_true, beq_iff_eq]
 grind
theorem q2m (q : Qu) : jx q = true ↔ QW0 q := by
 simp only [jx, Bool.and_eq_true, decide_eq_true_eq, beq_iff_eq, qaj]
 constructor
 ·rintro ⟨h, ⟨⟨⟨h1, h2⟩, h3⟩, h4⟩, h5⟩
  rw [wrap_i64 (by omega) (by omega)] at h4
  exact ⟨h1, h2, h3, h4, by omega, fun i hi => (qu7 h1 (by omega) (by omega) hi).1 (h i hi)⟩
 ·rintro ⟨h1, h2, h3, h4, h5, h6⟩
  rw [wrap_i64 (by omega) (by omega)]
  exact ⟨fun i hi => (qu7 h1 (by omega) h5 hi).2 (h6 i hi), ⟨⟨⟨h1, h2⟩, h3⟩, h4⟩, by omega⟩
theorem qx6 (q : Qu) : qgs q = true ↔ QW0 q := by
 simp only [qgs, xdn, Bool.and_eq_true, Bool.not_eq_true', Bool.or_eq_false_iff, decide_eq_false_iff_not, bne_eq_false_iff_eq, qaj]
 constructor
 ·rintro ⟨⟨⟨⟨⟨h1, h2⟩, h3⟩, h5⟩, h4⟩, h⟩
  rw [wrap_i64 (by omega) (by omega)] at h4
  exact ⟨by omega, by omega, by omega, h4, by omega, fun i hi => (qpo (by omega) (by omega) (by omega) hi).1 (h i hi)⟩
 ·rintro ⟨h1, h2, h3, h4, h5, h6⟩
  rw [wrap_i64 (by omega) (by omega)]
  exact ⟨⟨⟨⟨⟨by omega, by omega⟩, by omega⟩, by omega⟩, h4⟩, fun i hi => (qpo h1 (by omega) h5 hi).2 (h6 i hi)⟩
theorem qjd (q : Qu) : qgs q = jx q := by rw [Bool.eq_iff_iff, qx6, q2m]
end Go.Proofs.YtinnaedmdoengaaGreat
namespace Go.Proofs.YtinnaedmdoengaaGreat
open Go.Abs
set_option linter.unusedSimpArgs false
set_option linter.unusedVariables false
noncomputable section
set_option maxRecDepth 100000
set_option linter.defProp false
def d180 := cut Tryz.prog Tryz.f180 news
@[go_sem] def E180 := ql d180
def F180 := fnC d180 follows Tryz.func180
def d205 := cut Tryz.prog Tryz.f205 news
@[go_sem] def E205 := ql d205
def F205 := fnC d205 follows Tryz.func205
def d179 := cut Tryz.prog Tryz.f179 news
@[go_sem] def E179 := ql d179
def F179 := fnC d179 follows Tryz.func179
def d193 := cut Tryz.prog Tryz.f193 news
@[go_sem] def E193 := ql d193
def F193 := fnC d193 follows Tryz.func193
def d181 := cut Tryz.prog Tryz.f181 news
@[go_sem] def E181 := ql d181
def F181 := fnC d181 follows Tryz.func181
def d138 := cut Tryz.prog Tryz.f138 news
@[go_sem] def E138 := ql d138
def F138 := fnC d138 follows Tryz.func138
def d126 := cut Tryz.prog Tryz.f126 news
@[go_sem] def E126 := ql d126
def F126 := fnC d126 follows Tryz.func126
end
theorem qpp (p : Pk) : qal p = xe p := by
 by_cases h1 : p.kind = 1
 ·have := qpn p
  simp only [qbc, h1, beq_self_eq_true, Bool.true_and, Bool.and_true] at this
  exact this.symm
 ·unfold qal xe qml ack order bare qrr qdy role qpl in46
  by_cases h2 : p.kind = 2
  ·simp only [h2]
   rw [Bool.eq_iff_iff]
   simp
   grind
  ·rw [Bool.eq_iff_iff]
   simp [h1, h2]
   grind
def qzt (l : List Int) (i : Nat) : St :=
 ⟨[(0, true, .d (.sl 1 (l.map encI))), (3, true, .own 0 1 (qd (wInt l.length ++ (l.take i).flatMap wInt))), (4, true, .d (.int .i64 (i : Nat)))], [], [0], 1⟩
theorem q2n (l : List Int) (hl : l.length ≤ 1000) (hi : ∀ x ∈ l, I64 x) : qg Tryz.prog 180 [.d (.sl 1 (l.map encI))] [] (.own 0 1 (qd (qd0 l))) [] := by
 have hw := xj (xp (n := l.length) (by omega))
 refine F180.go ?_
 try (refine ev ?_; try exact True.intro)
 refine clA F125 (yl l.length (xp (by omega))) ?_
 try (refine ev ?_; try exact True.intro)
 refine qj (fun i : { i : Nat // i ≤ l.length } => qzt l i.val) (fun i => l.length - i.val) ⟨0, Nat.zero_le _⟩ ?_ (fun i => ?_)
 ·try (refine ev5 @qzt.eq_1 @List.take_zero.{0} @List.flatMap_nil.{0,0} @List.append_nil.{0} @Int.ofNat_zero ?_; try exact True.intro)
 obtain ⟨i, hi2⟩ := i
 try (refine ev1 @qzt.eq_1 ?_; try exact True.intro)
 refine xt _ (fun hc => ?_) (fun hc => ?_)
 ·have hil : i < l.length := by simpa using hc
  have hfl := kw wInt 10 (l.take i) fun x hx => xj (hi x (List.mem_of_mem_take hx))
  have htk : (l.take i).length ≤ i := by rw [List.length_take]; omega
  have hfl2 : ((l.take i).flatMap wInt).length ≤ 60000000 := by omega
  have hsn := qaf wInt l hil
  have hx := xj (hi _ (List.getElem_mem hil))
  have hv := yl l[i] (hi _ (List.getElem_mem hil))
  try simp only [encI] at hv
  try (refine ev2 (qq encI l hil) @encI.eq_1 ?_; try exact True.intro)
  (repeat (with_reducible refine ob ?_))
  refine clA F125 hv ?_
  try (refine ev2 @qt @List.append_assoc.{0} ?_; try exact True.intro)
  (repeat (with_reducible refine ob ?_))
  refine ⟨⟨i + 1, hil⟩, ?_, by dsimp only; omega⟩
  try (refine ev4 @qzt.eq_1 @hsn @List.append_assoc.{0} (qi (show i < 9223372036854775807 by omega)) ?_; try exact True.intro)
 ·have hie : i = l.length := by
   have : l.length ≤ i := by simpa using hc
   omega
  subst hie
  try (refine ev2 @List.take_length.{0} @qd0.eq_1 ?_; try exact True.intro)
theorem xak (v : AV) (hv : v.Sm) : qg Tryz.prog 205 [.d (.agg (qx v))] [] (.own 0 1 (qd (wAV v))) [] := by
 obtain ⟨h1, h2, h3⟩ := hv
 have a1 := xj h1
 have a2 := xj h2
 have a3 := qa3 v.s (by omega)
 refine F205.go ?_
 try (refine ev1 @qx.eq_1 ?_; try exact True.intro)
 refine clA F125 (yl v.kind h1) ?_
 try (refine ev ?_; try exact True.intro)
 refine xt _ (fun hc => ?_) (fun hc => ?_)
 ·have hk : v.kind = 1 := by simpa using hc
  have e : wAV v = wInt v.kind ++ wInt v.n := by rw [wAV, if_pos hk]
  try (refine ev ?_; try exact True.intro)
  refine clA F125 (yl v.n h2) ?_
  try (refine ev2 @qt @e ?_; try exact True.intro)
  (repeat (with_reducible refine ob ?_))
  omega
 ·have hk : v.kind ≠ 1 := by simpa using hc
  try (refine ev ?_; try exact True.intro)
  refine xt _ (fun hd => ?_) (fun hd => ?_)
  ·have hk2 : v.kind = 2 := by simpa using hd
   have e : wAV v = wInt v.kind ++ yh v.s := by rw [wAV, if_neg hk, if_pos hk2]
   try (refine ev ?_; try exact True.intro)
   refine clA F128 (qpd v.s (by omega)) ?_
   try (refine ev2 @qt @e ?_; try exact True.intro)
   (repeat (with_reducible refine ob ?_))
   omega
  ·have hk2 : v.kind ≠ 2 := by simpa using hd
   have e : wAV v = wInt v.kind := by rw [wAV, if_neg hk, if_neg hk2, List.append_nil]
   try (refine ev1 @e ?_; try exact True.intro)
def xal (l : List AV) (i : Nat) : St :=
 ⟨[(0, true, .d (.sl 3 (l.map qx))), (3, true, .own 0 1 (qd (wInt l.length ++ (l.take i).flatMap wAV))), (4, true, .d (.int .i64 (i : Nat)))], [], [0], 1⟩
theorem q54 (l : List AV) (hl : l.length ≤ 50) (hi : ∀ x ∈ l, x.Sm) : qg Tryz.prog 179 [.d (.sl 3 (l.map qx))] [] (.own 0 1 (qd (wAVs l))) [] := by
 have hw := xj (xp (n := l.length) (by omega))
 refine F179.go ?_
 try (refine ev ?_; try exact True.intro)
 refine clA F125 (yl l.length (xp (by omega))) ?_
 try (refine ev ?_; try exact True.intro)
 refine qj (fun i : { i : Nat // i ≤ l.length } => xal l i.val) (fun i => l.length - i.val) ⟨0, Nat.zero_le _⟩ ?_ (fun i => ?_)
 ·try (refine ev5 @xal.eq_1 @List.take_zero.{0} @List.flatMap_nil.{0,0} @List.append_nil.{0} @Int.ofNat_zero ?_; try exact True.intro)
 obtain ⟨i, hi2⟩ := i
 try (refine ev1 @xal.eq_1 ?_; try exact True.intro)
 refine xt _ (fun hc => ?_) (fun hc => ?_)
 ·have hil : i < l.length := by simpa using hc
  have hfl := kw wAV 1000020 (l.take i) fun x hx => qms (hi x (List.mem_of_mem_take hx))
  have htk : (l.take i).length ≤ i := by rw [List.length_take]; omega
  have hfl2 : ((l.take i).flatMap wAV).length ≤ 60000000 := by omega
  have hsn := qaf wAV l hil
  have hx := qms (hi _ (List.getElem_mem hil))
  have hv := xak l[i] (hi _ (List.getElem_mem hil))
  try simp only [qx] at hv
  try (refine ev2 (qq qx l hil) @qx.eq_1 ?_; try exact True.intro)
  (repeat (with_reducible refine ob ?_))
  refine clA F205 hv ?_
  try (refine ev2 @qt @List.append_assoc.{0} ?_; try exact True.intro)
  (repeat (with_reducible refine ob ?_))
  refine ⟨⟨i + 1, hil⟩, ?_, by dsimp only; omega⟩
  try (refine ev4 @xal.eq_1 @hsn @List.append_assoc.{0} (qi (show i < 9223372036854775807 by omega)) ?_; try exact True.intro)
 ·have hie : i = l.length := by
   have : l.length ≤ i := by simpa using hc
   omega
  subst hie
  try (refine ev2 @List.take_length.{0} @wAVs.eq_1 ?_; try exact True.intro)
theorem qzu (s : List UInt8) (hl : s.length ≤ 1000000000) : qg Tryz.prog 193 [.d (.sl 1 (qd s))] [] (.d (.int .u64 (fnv 14695981039346656037 s : Nat))) [] := by
 have h0 := qk6 14695981039346656037 s (by decide) hl
 refine F193.go ?_
 try (refine ev ?_; try exact True.intro)
 (repeat (with_reducible refine ob ?_)); first | refine cl F175 (h0) ?_ | refine clF F175 (h0) (fun _ => by (refine ev3 @qx.eq_1 @encI.eq_1 @qe.eq_1 ?_; try exact True.intro)) ?_
 try (refine ev ?_; try exact True.intro)
theorem qzv (s : List UInt8) (hl : s.length ≤ 100000000) : qg Tryz.prog 181 [.d (.sl 1 (qd s))] [] (.d (.sl 1 (qd (qcj s)))) [] := by
 have hlt := qc9 (h := 14695981039346656037) (by decide) s
 refine F181.go ?_
 try (refine ev ?_; try exact True.intro)
 (repeat (with_reducible refine ob ?_)); first | refine cl F193 (qzu s (by omega)) ?_ | refine clF F193 (qzu s (by omega)) (fun _ => by (refine ev3 @qx.eq_1 @encI.eq_1 @qe.eq_1 ?_; try exact True.intro)) ?_
 try (refine ev ?_; try exact True.intro)
 refine cl q5s (qh1 _ hlt) ?_
 generalize hh : fnv 14695981039346656037 s = h
 have hs : qd s ++ qd (be8 h) = qd (qcj s) := by rw [qt, qcj, hh]
 have h8 := zc h
 try (refine ev2 @hs @h8 ?_; try exact True.intro)
 omega
theorem q2o (b : List UInt8) (hb : b.length ≤ 1000000000) : qg Tryz.prog 138 [.d (.sl 1 (qd b))] [] (.tup [.d (.sl 1 (qd (jy b).1)), .d (.int .i64 (jy b).2)]) [] := by
 refine F138.goT ?_
 try (refine ev ?_; try exact True.intro)
 refine xt _ (fun h => ?_) (fun h => ?_)
 ·have hx : jy b = ([], 4) := by unfold jy; rw [if_pos (by simp at h; omega)]
  try (refine ev2 @hx @qm ?_; try exact True.intro)
 have h8 : 8 ≤ b.length := by simp at h; omega
 have hn : IntKind.i64.wrap ((b.length : Int) - 8) = ((b.length - 8 : Nat) : Int) := by rw [xk (by unfold I64; omega)]; omega
 have hx1 : jy b = if be8 (fnv 14695981039346656037 (b.take (b.length - 8))) = b.drop (b.length - 8) then (b.take (b.length - 8), 0) else ([], 5) := by unfold jy; rw [if_neg (by omega)]
 generalize hm : b.length - 8 = m at hn hx1
 have hlt := qc9 (h := 14695981039346656037) (by decide) (b.take m)
 have htl : (b.take m).length ≤ 1000000000 := by rw [List.length_take]; omega
 have hA : List.take (b.length - m) (List.drop m (qd b)) = qd (b.drop m) := by rw [xq, xf, List.take_of_length_le (by rw [List.length_drop]; omega)]
 have hF : List.take (m - 0) (qd b) = qd (b.take m) := by rw [xf, Nat.sub_zero]
 try (refine ev2 @hn @hF ?_; try exact True.intro)
 (repeat (with_reducible refine ob ?_))
 (repeat (with_reducible refine ob ?_)); first | refine cl F193 (qzu (b.take m) htl) ?_ | refine clF F193 (qzu (b.take m) htl) (fun _ => by (refine ev3 @qx.eq_1 @encI.eq_1 @qe.eq_1 ?_; try exact True.intro)) ?_
 try (refine ev ?_; try exact True.intro)
 refine cl q5s (qh1 _ hlt) ?_
 try (refine ev2 @hn @hA ?_; try exact True.intro)
 (repeat (with_reducible refine ob ?_))
 refine xt _ (fun h => ?_) (fun h => ?_)
 ·have hx : jy b = ([], 5) := by rw [hx1, if_neg (by simpa using h)]
  try (refine ev2 @hx @qm ?_; try exact True.intro)
 ·have hx : jy b = (b.take m, 0) := by rw [hx1, if_pos (by simpa using h)]
  try (refine ev1 @hx ?_; try exact True.intro)
def xam (p : Pk) (i : Nat) : St :=
 ⟨[(1, true, .d (.ptr 0 0)), (4, true, .own 0 1 (qd (((x7 p).take i).flatMap wInt))), (5, true, .d (.sl 1 ((x7 p).map encI))), (6, true, .d (.int .i64 (i : Nat)))], [.row ((qe p).map .d)], [0], 1⟩
set_option maxRecDepth 10000 in
theorem qu8 (p : Pk) (hp : p.Sm) (hw : p.W) : qg Tryz.prog 126 [.d (.agg (qe p))] [] (.tup [.d (.sl 1 (qd (jf p).1)), .d (.int .i64 (jf p).2)]) [] := by
 have hvv := qfv p hp
 rw [qpp] at hvv
 simp only [qe] at hvv
 refine F126.goT ?_
 try (refine ev1 @qe.eq_1 ?_; try exact True.intro)
 (repeat (with_reducible refine ob ?_)); first | refine cl F40 (hvv) ?_ | refine clF F40 (hvv) (fun _ => by (refine ev3 @qx.eq_1 @encI.eq_1 @qe.eq_1 ?_; try exact True.intro)) ?_
 try (refine ev ?_; try exact True.intro)
 (repeat (with_reducible refine ob ?_)); refine xt _ (fun h => ?_) (fun h => ?_)
 ·have hb : jf p = ([], 1) := by unfold jf; rw [if_neg]; simpa using h
  try (refine ev2 @hb @qm ?_; try exact True.intro)
 have hv : xe p = true := by simpa using h
 have hb : jf p = (qcj (zx p), 0) := by unfold jf; rw [if_pos hv]
 obtain ⟨f1, f2⟩ := qhs hv
 have h7 : (x7 p).length = 7 := rfl
 try (refine ev ?_; try exact True.intro)
 refine qj (fun i : { i : Nat // i ≤ 7 } => xam p i.val) (fun i => 7 - i.val) ⟨0, Nat.zero_le _⟩ ?_ (fun i => ?_)
 ·try simp only [xam, List.take_zero, List.flatMap_nil, qm, Int.ofNat_zero, qe, x7, List.map_cons, List.map_nil, encI, go_sem, Nat.reduceAdd, Nat.reduceMul, Nat.reduceSub, Nat.reduceEqDiff, Nat.reduceLT, Nat.reduceLeDiff, Nat.reduceBEq, reduceIte, reduceCtorEq, Int.reduceAdd, Int.reduceLT, Int.reduceLE, Int.reduceGT, Int.reduceGE, Int.reduceEq, Int.reduceNe, Int.reduceBEq, Int.reduceBNe, Int.reduceToNat, Int.reduceNeg]
 obtain ⟨i, hi⟩ := i
 try (refine ev2 @xam.eq_1 @h7 ?_; try exact True.intro)
 refine xt _ (fun hc => ?_) (fun hc => ?_)
 ·have hil : i < (x7 p).length := by simp [x7] at hc ⊢; omega
  have hx := hw.h _ (List.getElem_mem hil)
  have hxl := xj hx
  have hfl := kw wInt 10 ((x7 p).take i) fun x hx => xj (hw.h x (List.mem_of_mem_take hx))
  have htk : ((x7 p).take i).length ≤ 7 := by rw [List.length_take]; omega
  have hsn := qaf wInt (x7 p) hil
  try (refine ev2 (qq encI (x7 p) hil) @encI.eq_1 ?_; try exact True.intro)
  (repeat (with_reducible refine ob ?_))
  refine clA F125 (yl (x7 p)[i] hx) ?_
  try (refine ev1 @qt ?_; try exact True.intro)
  (repeat (with_reducible refine ob ?_))
  refine ⟨⟨i + 1, hil⟩, ?_, by dsimp only; omega⟩
  try (refine ev3 @xam.eq_1 @hsn (qi (show i < 9223372036854775807 by omega)) ?_; try exact True.intro)
 ·have hie : i = 7 := by simp at hc; omega
  subst hie
  have ht : (x7 p).take 7 = x7 p := rfl
  have hfl := kw wInt 10 (x7 p) fun x hx => xj (hw.h x hx)
  have hwv : (wAVs p.values).length ≤ 5000000 := by
   have h1 := xj (xp (n := p.values.length) (by omega))
   have h2 := kw wAV 1000020 p.values fun x hx => qms (hw.v x hx)
   simp only [wAVs, List.length_append]; omega
  have hwc : (qd0 p.clock).length ≤ 5000000 := by
   have h1 := xj (xp (n := p.clock.length) (by omega))
   have h2 := kw wInt 10 p.clock fun x hx => xj (hw.c x hx)
   simp only [qd0, List.length_append]; omega
  try (refine ev2 @ht @qe.eq_1 ?_; try exact True.intro)
  refine clA F179 (q54 p.values (by omega) hw.v) ?_
  try (refine ev1 @qt ?_; try exact True.intro)
  (repeat (with_reducible refine ob ?_))
  refine clA F180 (q2n p.clock (by omega) hw.c) ?_
  have hpb : (x7 p).flatMap wInt ++ wAVs p.values ++ qd0 p.clock = zx p := rfl
  try (refine ev2 @qt @hpb ?_; try exact True.intro)
  (repeat (with_reducible refine ob ?_))
  (repeat (with_reducible refine ob ?_)); first | refine cl F181 (qzv (zx p) (by simp only [zx, List.length_append]; omega)) ?_ | refine clF F181 (qzv (zx p) (by simp only [zx, List.length_append]; omega)) (fun _ => by (refine ev3 @qx.eq_1 @encI.eq_1 @qe.eq_1 ?_; try exact True.intro)) ?_
  try (refine ev1 @hb ?_; try exact True.intro)
end Go.Proofs.YtinnaedmdoengaaGreat
