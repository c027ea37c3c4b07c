/- Texts Wk, Wl, Wm, Za, Zb, Zc, Wn, Zd, Ze, Yd, Ya, Yb, Yc, Ye. -/
import Derived.Test.YtinnaedmdoengaaMgn
import Derived.Calls
import Derived.Orders
import Derived.Tactics
import Derived.Laws.AppendOwn
import Derived.Laws.Slices
import Derived.Laws.Closers25
import Derived.Laws.StructEq
import Derived.Laws.BytesString
import Derived.Laws.CopyRow
import Derived.MapKept
import Derived.Maps.RangeRun
import Derived.TacticsIn
import Derived.OrdersIn
import Derived.RangeFuncRecord
import Derived.RangeFuncLeaves
import Derived.IntWalk
import Derived.ProofKit
import Derived.OpenShut
import Derived.Carry
import Derived.Test.YtinnaedmdoengaaProg
import Derived.KernelRfl
import Derived.OwnWalkIn
import Derived.TacticsInMore
import Derived.LoopIn
import Derived.WalkKit
import Derived.Lib.Strings
import Derived.Lib.Slices
import Derived.Lib.Walk
import Derived.Lib.Bytealg
import Derived.Shelf.SlSortCmp.WholeK
import Derived.Shelf.SlSortCmp.NoneTotal

namespace Go.Proofs.Ytinnaedmdoengaa
open Go.Abs Go.Shelf Go.RowKit Go.Lib Go.Sort
set_option linter.unusedSimpArgs false
set_option linter.unusedVariables false
theorem q06 : (Try.prog.funcs[45]?).any (fun fn => fn.body.isSome && !(fn.name == "runtime.NumGoroutine")) = true := by rw [Try.func45]; rfl
theorem qug (x : RowE) : (encR x).length = 2 := rfl
theorem quh (x : RowE) : ∀ v ∈ encR x, v.oneCell' = true := by
 intro v hv
 simp [encR] at hv
 rcases hv with rfl | rfl
 ·rfl
 ·exact x.2.2
set_option maxHeartbeats 1000000 in
theorem qwp (l : List En) (hn : (l.map (·.1)).Nodup) (hl : l.length ≤ 1000000) :
  ACall Try.prog 45 [.d (.ref 0 0 2 l.length), .d (.func (.func 46) [] [])] [.row ((flatEn l).map .d)] (.tup []) [.row ((flatEn (sortEn l)).map .d)] := by
 intro g w vs hd hlen hv ho
 match vs, hlen with
 | [v0, v1], _ =>
 have h1 := xj (qt (hv 1 v1 _ rfl rfl))
 have hf1 : v1 = .func (.func 46) #[] #[] := by
  cases h1 with
  | func _ vf vc _ _ hf hc =>
   have e1 : vf = [] := List.eq_nil_of_length_eq_zero (by simpa using hf)
   have e2 : vc = [] := List.eq_nil_of_length_eq_zero (by simpa using hc)
   subst e1; subst e2; rfl
 subst hf1
 have h0 := xj (qt (hv 0 v0 _ rfl rfl))
 generalize hln : l.length = n at h0
 have none_ : ∀ (p : Option Addr) (cap : Nat), n = 0 → v0 = .slice p 0 cap → Calls Try.prog 45 [v0, .func (.func 46) #[] #[]].toArray w fun e w' =>
   ∃ v g' live', e = .returned v ∧ G g w g' w' ∧ Dom g' w' ∧ (∀ t ∈ (ASlot.tup []).toks, t ∈ live') ∧ RS g' w' live' v (.tup []) ∧ ObjsOk g' w' live' [.row ((flatEn (sortEn l)).map .d)] := by
  intro p cap h0 hv0
  have hl0 : l = [] := List.eq_nil_of_length_eq_zero (by omega)
  subst hl0; subst hv0
  have hcon := AnyF.slices_SortFunc_none q05 p cap (.func (.func 46) #[] #[]) w
  change Calls Try.prog 45 _ _ _ at hcon
  refine hcon.mono ?_
  rintro e w' ⟨rfl, rfl⟩
  have hs0 : sortEn [] = [] := by simp [sortEn]
  rw [hs0]
  exact ⟨_, g, [], rfl, .refl _ _, hd, by simp [ASlot.toks], ⟨[], rfl, rfl, fun i u s hu => by simp at hu⟩, ho⟩
 cases h0 with
 | refnil a => exact none_ a 0 rfl rfl
 | ref b _ _ _ _ cap hg hcap hmx hsz =>
 by_cases hn0 : n = 0
 ·subst hn0; exact none_ _ cap rfl rfl
 obtain ⟨b', hb', c, et, hh, hcs, hcc⟩ := (ho.objs 0 _ rfl (by simp)).resolve_right (fun h => by
  have := h.1
  simp at this
  have := congrArg List.length this
  simp [wh] at this; omega)
 have : b' = b := ho.inj b' b 0 hb' hg
 subst this
 rw [List.length_map, wh] at hcs
 have hcell : ∀ (i : Nat) (e : En), l[i]? = some e → c[2 * i]? = some (.string ⟨e.1.toArray⟩) ∧ ∃ v, c[2 * i + 1]? = some v ∧ v.oneCell' = true ∧ RV g w v (.sl 1 (byteRows e.2)) := by
  intro i e he
  obtain ⟨k1, k2⟩ := qe9 l i e he
  obtain ⟨u, u1, _, u3⟩ := hcc (2 * i) (.d (.str e.1)) (by rw [List.getElem?_map, k1]; rfl)
  obtain ⟨v, v1, v2, v3⟩ := hcc (2 * i + 1) (.d (.sl 1 (byteRows e.2))) (by rw [List.getElem?_map, k2]; rfl)
  have hu := kc (show RV g w u (.str e.1) from u3)
  subst hu
  exact ⟨u1, v, v1, v2, v3⟩
 let mkR : Nat → RowE := fun i => match l[i]?, c[2 * i + 1]? with
  | some e, some v => if h : v.oneCell' = true then (e.1, ⟨v, h⟩) else default
  | _, _ => default
 let P : List (RowE × En) := (List.range n).map fun i => (mkR i, l.getD i ([], []))
 have hPR : ∀ z ∈ P, z.1.1 = z.2.1 ∧ RV g w z.1.2.1 (.sl 1 (byteRows z.2.2)) := by
  intro z hz
  obtain ⟨i, hi, rfl⟩ := List.mem_map.1 hz
  have hil : i < l.length := by rw [hln]; exact List.mem_range.1 hi
  have he := List.getElem?_eq_getElem hil
  obtain ⟨_, v, v1, v2, v3⟩ := hcell i _ he
  have : mkR i = (l[i].1, ⟨v, v2⟩) := by simp only [mkR, he, v1, dif_pos v2]
  have e2 : l.getD i ([], []) = l[i] := by simp [List.getD, he]
  simp only [this, e2]
  exact ⟨trivial, v3⟩
 have hPs : P.map (·.2) = l := by
  apply List.ext_getElem?
  intro i
  simp only [P, List.map_map, List.getElem?_map]
  rcases Nat.lt_or_ge i n with h | h
  ·rw [List.getElem?_range h]
   have he := List.getElem?_eq_getElem (show i < l.length by omega)
   simp [he, List.getD]
  ·rw [List.getElem?_eq_none (by simpa using h), List.getElem?_eq_none (by omega)]; rfl
 obtain ⟨d, hdd⟩ : ∃ d : Array RowE, d = (P.map (·.1)).toArray := ⟨_, rfl⟩
 have hds : d.size = n := by rw [hdd]; simp [P]
 have hdi : ∀ i, i < n → d[i]! = mkR i := fun i hi => by rw [hdd]; simp [P, hi]
 have hblk : b' < w.heap.size := (Array.getElem?_eq_some_iff.1 hh).1
 have hfl : ∀ t, t < n * 2 → (flatK encR 2 d)[t]! = c.getD t default := by
  intro t ht
  rw [get_flatK encR 2 d t (by rw [hds]; exact ht), hdi _ (by omega)]
  have hil : t / 2 < l.length := by omega
  have he := List.getElem?_eq_getElem hil
  obtain ⟨k1, v, v1, v2, v3⟩ := hcell (t / 2) _ he
  have hm : mkR (t / 2) = (l[t / 2].1, ⟨v, v2⟩) := by simp only [mkR, he, v1, dif_pos v2]
  rw [hm]
  rcases Nat.mod_two_eq_zero_or_one t with hp | hp
  ·have e1 : 2 * (t / 2) = t := by omega
   rw [e1] at k1
   rw [hp, Array.getD_eq_getD_getElem?, k1]
   rfl
  ·have e1 : 2 * (t / 2) + 1 = t := by omega
   rw [e1] at v1
   rw [hp, Array.getD_eq_getD_getElem?, v1]
   rfl
 have hH : HoldsK encR 2 w b' 0 d := by
  intro j hj
  rw [size_flatK, hds] at hj
  refine ⟨?_, by simp [World.frozen?, hh]⟩
  rw [hfl j hj]
  have hjc : j < c.size := by omega
  simp [World.cell?, hh, hjc]
 have eg : ∀ args w, (callFunc 46 args).run Try.prog w = .ok (.enter 46 args) w := enters_of Try.func46 (by kernel_rfl) rfl
 have hcon := AnyQ.slices_SortFunc q05 2 Try.isAgg99 Try.sizeOf99 encR qug quh cmpR xhz 46 #[] b' 0 cap d w eg (fun _ _ _ _ x y => quf x y _) hH hblk (by omega)
 change Calls Try.prog 45 _ _ _ at hcon
 rw [hds] at hcon
 refine hcon.mono ?_
 rintro e w' ⟨rfl, d', m, os, hperm, hsort, hw'⟩
 obtain ⟨hps, _, hpl⟩ := hperm
 rw [hds] at hps
 have hp2 : d'.toList.Perm (P.map (·.1)) := by
  have e1 : d'.extract 0 n = d' := by rw [← hps]; simp
  have e2 : d.extract 0 n = d := by rw [← hds]; simp
  rw [e1, e2] at hpl
  rw [hdd] at hpl
  simpa using hpl
 obtain ⟨Q, q1, q2⟩ := qq8 (fun z : RowE × En => z.1) hp2 rfl
 have hQl : Q.length = n := by rw [q1.length_eq]; simp [P]
 have hesl : (Q.map (·.2)).Perm l := by
  have := q1.map (fun z : RowE × En => z.2)
  rwa [hPs] at this
 have hQ : ∀ (i : Nat) (z : RowE × En), Q[i]? = some z → d'[i]! = z.1 ∧ z.1.1 = z.2.1 ∧ RV g w z.1.2.1 (.sl 1 (byteRows z.2.2)) := by
  intro i z hz
  have h1 := congrArg (fun l => l[i]?) q2
  simp only [List.getElem?_map, hz, Option.map_some, Array.getElem?_toList] at h1
  have hi : i < d'.size := by rw [hps, ← hQl]; exact (List.getElem?_eq_some_iff.1 hz).1
  refine ⟨?_, hPR z (q1.mem_iff.1 (List.mem_of_getElem? hz))⟩
  rw [getElem!_pos d' i hi]
  rw [Array.getElem?_eq_getElem hi] at h1
  simpa using h1.symm
 have hsorted : (Q.map (·.2)).Pairwise fun a b => cmpB a.1 b.1 ≤ 0 := by
  rw [List.pairwise_iff_getElem]
  intro i j hi hj hij
  simp only [List.length_map] at hi hj
  have zi := hQ i _ (List.getElem?_eq_getElem hi)
  have zj := hQ j _ (List.getElem?_eq_getElem hj)
  have hs := hsort i j (Nat.zero_le _) hij (by omega)
  rw [zi.1, zj.1] at hs
  have hs2 : ¬ cmpB Q[j].1.1 Q[i].1.1 < 0 := of_decide_eq_false hs
  rw [zi.2.1, zj.2.1] at hs2
  simp only [List.getElem_map]
  exact js.1 hs2
 have hes : Q.map (·.2) = sortEn l := by
  have hn2 : ((Q.map (·.2)).map (·.1)).Nodup := (hesl.map (fun x : En => x.1)).nodup_iff.2 hn
  exact wi (hesl.trans (xg l).symm) hn2 hsorted (jl l)
 have hwh : w'.heap = (w.heap.modify b' (onCells (putCells (fun v : Value => v) 0 (flatK encR 2 d')))) ++ os := by subst hw'; rfl
 have hother : ∀ k, k ≠ b' → k < w.heap.size → w'.heap[k]? = w.heap[k]? := by
  intro k hk hkl
  rw [hwh, Array.getElem?_append, if_pos (by simpa using hkl), Array.getElem?_modify, if_neg (Ne.symm hk)]
 have hself : w'.heap[b']? = some (.cells (putCells (fun v : Value => v) 0 (flatK encR 2 d') c) et (0, 0)) := by
  rw [hwh, Array.getElem?_append, if_pos (by simpa using hblk), Array.getElem?_modify, if_pos rfl, hh]
  rfl
 have hsize : w.heap.size ≤ w'.heap.size := by
  subst hw'
  simp [sortWorldK, grow, putRowK, putRow, mapBlock, Sort.ahead]
 have htop : w'.os = w.os ∧ w'.tape = w.tape ∧ w'.output = w.output := by subst hw'; exact ⟨rfl, rfl, rfl⟩
 have hne : ∀ k r, g k = r → (∀ i, r ≠ .obj i) → k ≠ b' := fun k r h hr he => by rw [he, hg] at h; exact hr 0 h.symm
 have hG : G g w g w' := by
  refine ⟨htop.1, htop.2.1, htop.2.2, hsize, fun k hk hgk => ⟨hother k (hne k _ hgk (by simp)) hk, hgk⟩, fun k r hk hgk => ⟨hother k (hne k _ hgk (by simp)) hk, hgk⟩,
   fun k r t hk hgk => ⟨r, some t, hgk, Nat.le_refl _, fun i u _ hu => by rw [qy (hother k (hne k _ hgk (by simp)) hk)]; exact hu⟩, fun k id hk hgk => ⟨hgk, ?_⟩⟩
  by_cases hkb : k = b'
  ·subst hkb
   rw [qv hh, qv hself]
   simp [putCells]
  ·exact Nat.le_of_eq (qs (hother k hkb hk)).symm
 refine ⟨_, g, [], rfl, hG, fun k hk => hd k (by omega), by simp [ASlot.toks], ⟨[], rfl, rfl, fun i u s hu => by simp at hu⟩, ⟨fun oid o hid hno => ?_, ho.inj, fun b oid hb => ?_⟩⟩
 ·match oid, hid with
  | 0, hid =>
   simp at hid
   subst hid
   have hle := (xg l).length_eq
   refine .inl ⟨b', hg, _, et, hself, by simp [putCells, wh, hle]; omega, fun i s hi => ?_⟩
   rw [List.getElem?_map, Option.map_eq_some_iff] at hi
   obtain ⟨x, hx, rfl⟩ := hi
   have hil : i < n * 2 := by
    have := (List.getElem?_eq_some_iff.1 hx).1
    rw [wh, hle, hln] at this
    exact this
   have hQi : i / 2 < Q.length := by omega
   obtain ⟨z1, z2, z3⟩ := hQ (i / 2) _ (List.getElem?_eq_getElem hQi)
   have hz : (sortEn l)[i / 2]? = some Q[i / 2].2 := by rw [← hes, List.getElem?_map, List.getElem?_eq_getElem hQi]; rfl
   obtain ⟨k1, k2⟩ := qe9 _ _ _ hz
   have hcv : (putCells (fun v : Value => v) 0 (flatK encR 2 d') c)[i]? = some ((encR Q[i / 2].1)[i % 2]!) := by
    have hic : i < c.size := by omega
    simp only [putCells, Array.getElem?_mapIdx, Array.getElem?_eq_getElem hic, Option.map_some, size_flatK, hps, Nat.zero_le, true_and, Nat.zero_add, hil, if_true, Nat.sub_zero]
    rw [get_flatK encR 2 d' i (by rw [hps]; exact hil), z1]
   rcases Nat.mod_two_eq_zero_or_one i with hp | hp
   ·have e1 : 2 * (i / 2) = i := by omega
    rw [e1] at k1
    rw [k1] at hx; cases hx
    rw [hp] at hcv
    have hcs : (encR Q[i / 2].1)[0]! = .string ⟨Q[i / 2].2.1.toArray⟩ := by rw [← z2]; rfl
    rw [hcs] at hcv
    exact ⟨_, hcv, rfl, .str _⟩
   ·have e1 : 2 * (i / 2) + 1 = i := by omega
    rw [e1] at k2
    rw [k2] at hx; cases hx
    rw [hp] at hcv
    exact ⟨_, hcv, Q[i / 2].1.2.2, z3.mono (hG.rowsKept hd) (fun b id hb => hG.obj b id (hd.lt_obj hb) hb)⟩
  | i + 1, hid => simp at hid
 ·obtain ⟨o, h1, h2⟩ := ho.ids b oid hb
  match oid, h1 with
  | 0, h1 => exact ⟨_, rfl, by simp⟩
  | i + 1, h1 => simp at h1
end Go.Proofs.Ytinnaedmdoengaa
namespace Go.Proofs.Ytinnaedmdoengaa
open Go.Abs
set_option linter.unusedSimpArgs false
set_option linter.unusedVariables false
attribute [go_sem] sliceSOut
def pre (p k : List UInt8) : Bool := decide (p.length ≤ k.length) && k.take p.length == p
noncomputable section
set_option maxRecDepth 100000
def s95r0 : List SOper := [
 ⟨some 4, .mov (.k (.d (.bool false))), none⟩]
def s95r1 : List SOper := [
 ⟨some 5, .mov (.t 0), none⟩,
 ⟨some 6, .lenS (.t 5), none⟩,
 ⟨some 7, .mov (.t 1), none⟩,
 ⟨some 8, .lenS (.t 7), none⟩,
 ⟨some 9, .bin .geq (.t 6) (.t 8), none⟩,
 ⟨some 10, .mov (.t 9), none⟩,
 ⟨some 11, .mov (.t 0), some (10, true)⟩,
 ⟨some 12, .mov (.t 1), some (10, true)⟩,
 ⟨some 13, .lenS (.t 12), some (10, true)⟩,
 ⟨some 14, .sliceS (.t 11) none (some (.t 13)), some (10, true)⟩,
 ⟨some 15, .mov (.t 1), some (10, true)⟩,
 ⟨some 16, .bin .eql (.t 14) (.t 15), some (10, true)⟩,
 ⟨some 17, .pick (.t 10) (.t 16) (.k (.d (.bool false))), none⟩,
 ⟨some 4, .mov (.t 17), none⟩]
def s95 : SCode := (.seq (.region s95r0 0 []) (.seq (.region s95r1 0 []) .ret))
theorem e95 : CodeIs s95.eq_1 := qc s95.eq_1
theorem xa5 : RegIs s95r0.eq_1 := qa
theorem xa6 : RegIs s95r1.eq_1 := qa
attribute [go_sem] xa5 xa6 e95
theorem F95 : FnIs Try.prog 95 Try.f95 [] news s95 [.tmp 4] 18 := xe follows Try.func95
def s44r0 : List SOper := [
 ⟨some 4, .mov (.k (.d (.bool false))), none⟩]
def s44r1 : List SOper := [
 ⟨some 5, .mov (.t 0), none⟩,
 ⟨some 6, .mov (.t 1), none⟩,
 ⟨some 7, .call (.k (.d (.func (.func 95) [] []))) [(.t 5), (.t 6)], none⟩,
 ⟨some 4, .mov (.t 7), none⟩]
def s44 : SCode := (.seq (.region s44r0 0 []) (.seq (.region s44r1 0 []) .ret))
theorem e44 : CodeIs s44.eq_1 := qc s44.eq_1
theorem xa7 : RegIs s44r0.eq_1 := qa
theorem xa8 : RegIs s44r1.eq_1 := qa
attribute [go_sem] xa7 xa8 e44
theorem F44 : FnIs Try.prog 44 Try.f44 [] news s44 [.tmp 4] 8 := xe follows Try.func44
end
theorem qal (k p : List UInt8) : ACall Try.prog 95 [.d (.str k), .d (.str p)] [] (.d (.bool (pre p k))) [] := by
 refine F95.go ?_
 by_cases h : p.length ≤ k.length
 ·have hd : decide ((k.length : Int) ≥ (p.length : Int)) = true := by simpa using h
  have hd2 : decide (p.length ≤ k.length) = true := by simpa using h
  try (refine ev3 @pre.eq_1 @hd @hd2 ?_; try exact True.intro)
  (repeat (with_reducible refine ob ?_))
  try (refine ev2 @hd @Nat.sub_zero ?_; try exact True.intro)
 ·have hd : decide ((k.length : Int) ≥ (p.length : Int)) = false := by simpa using h
  have hd2 : decide (p.length ≤ k.length) = false := by simpa using h
  try (refine ev3 @pre.eq_1 @hd @hd2 ?_; try exact True.intro)
  (repeat (with_reducible refine ob ?_))
  try (refine ev1 @hd ?_; try exact True.intro)
theorem qbu (k p : List UInt8) : ACall Try.prog 44 [.d (.str k), .d (.str p)] [] (.d (.bool (pre p k))) [] := by
 refine F44.go ?_
 try (refine ev ?_; try exact True.intro)
 (repeat (with_reducible refine ob ?_)); first | refine cl F95 (qal k p) ?_ | refine clF F95 (qal k p) (fun _ => by simp only [encOp, encEn, go_sem, Nat.reduceAdd, Nat.reduceMul, Nat.reduceSub, Nat.reduceEqDiff, Nat.reduceLT, Nat.reduceLeDiff, Nat.reduceBEq, reduceIte, reduceCtorEq, Int.reduceAdd, Int.reduceLT, Int.reduceLE, Int.reduceGT, Int.reduceGE, Int.reduceEq, Int.reduceNe, Int.reduceBEq, Int.reduceBNe, Int.reduceToNat, Int.reduceNeg]) ?_
 try (refine ev ?_; try exact True.intro)
noncomputable section
set_option maxRecDepth 100000
def s17ur0 : List SOper := [
 ⟨some 4, .mov (.k (.d .nilsl)), none⟩]
def s17ur1 : List SOper := [
 ⟨some 8, .mov (.t 0), none⟩,
 ⟨some 9, .eqnil false .ptr (.t 8), none⟩]
def s17ur2 : List SOper := [
 ⟨some 4, .mov (.k (.d .nilsl)), none⟩]
def s17ur3 : List SOper := [
 ⟨some 5, .mov (.k (.d .nilsl)), none⟩]
def s17ur4 : List SOper := [
 ⟨some 10, .mov (.t 0), none⟩,
 ⟨some 11, .nilCheck (.t 10), none⟩,
 ⟨some 12, .faddr 2 (.t 11), none⟩,
 ⟨some 13, .load none (.t 12), none⟩,
 ⟨some 14, .rangeM 1 (.t 13), none⟩]
def s17ur5 : List SOper := [
 ⟨some 15, .nextM (.t 14), none⟩,
 ⟨some 16, .extract 0 (.t 15), none⟩]
def s17ur6 : List SOper := [
 ⟨some 17, .entryM (.t 14), none⟩,
 ⟨some 18, .extract 0 (.t 17), none⟩,
 ⟨some 19, .extract 1 (.t 17), none⟩,
 ⟨some 6, .mov (.t 18), none⟩,
 ⟨some 7, .mov (.t 19), none⟩]
def s17ur7 : List SOper := [
 ⟨some 20, .mov (.t 6), none⟩,
 ⟨some 21, .mov (.t 1), none⟩,
 ⟨some 22, .call (.k (.d (.func (.func 44) [] []))) [(.t 20), (.t 21)], none⟩]
def s17ur8 : List SOper := [
 ⟨some 23, .mov (.t 5), none⟩,
 ⟨some 24, .mov (.t 6), none⟩,
 ⟨some 25, .mov (.t 7), none⟩,
 ⟨some 26, .call (.k (.d (.func (.func 43) [] []))) [(.t 25)], none⟩,
 ⟨some 27, .build [(.str []), .nilsl] [(0, 1, (.t 24)), (1, 1, (.t 26))], none⟩,
 ⟨some 28, .buildSlice false 2 1 [(.str []), .nilsl] [(0, 2, (.t 27))], none⟩,
 ⟨some 29, .append true 2 40 (.t 23) (.t 28), none⟩,
 ⟨some 5, .mov (.t 29), none⟩]
def s17ul9 : SCode := (.seq (.region s17ur5 0 []) (.seq (.cond (.t 16) .skip (.exit 0)) (.block 1 (.seq (.region s17ur6 0 []) (.seq (.region s17ur7 0 []) (.cond (.t 22) (.region s17ur8 0 []) .skip))))))
theorem q07 : CodeIs s17ul9.eq_1 := qc s17ul9.eq_1
def s17ur10 : List SOper := [
 ⟨some 30, .mov (.t 5), none⟩,
 ⟨some 31, .call (.k (.d (.func (.func 45) [] []))) [(.t 30), (.k (.d (.func (.func 46) [] [])))], none⟩]
def s17ur11 : List SOper := [
 ⟨some 32, .mov (.t 5), none⟩,
 ⟨some 4, .mov (.t 32), none⟩]
def s17u : SCode := (.seq (.region s17ur0 0 []) (.seq (.seq (.region s17ur1 0 []) (.cond (.t 9) (.seq (.region s17ur2 0 []) (.pause .ret)) .skip)) (.seq (.region s17ur3 0 []) (.seq (.seq (.region s17ur4 1 []) (.block 0 (.loop s17ul9))) (.seq (.pause (.region s17ur10 0 [])) (.seq (.region s17ur11 0 []) (.pause .ret)))))))
theorem xh0 : CodeIs s17u.eq_1 := qc s17u.eq_1
theorem q08 : RegIs s17ur0.eq_1 := qa
theorem q09 : RegIs s17ur1.eq_1 := qa
theorem q1a : RegIs s17ur2.eq_1 := qa
theorem q1b : RegIs s17ur3.eq_1 := qa
theorem q1c : RegIs s17ur4.eq_1 := qa
theorem q1d : RegIs s17ur5.eq_1 := qa
theorem q1e : RegIs s17ur6.eq_1 := qa
theorem q1f : RegIs s17ur7.eq_1 := qa
theorem q1g : RegIs s17ur8.eq_1 := qa
theorem qwq : RegIs s17ur10.eq_1 := qa
theorem qwr : RegIs s17ur11.eq_1 := qa
attribute [go_sem] q08 q09 q1a q1b q1c q1d q1e q1f q1g q07 qwq qwr xh0
theorem xa9 : FnIs Try.prog 17 Try.f17 [29] news s17u [.tmp 4] 33 := xe follows Try.func17
def s45r0 : List SOper := [
 ⟨some 5, .mov (.t 0), none⟩,
 ⟨some 6, .len (.t 5), none⟩,
 ⟨some 4, .mov (.t 6), none⟩]
def s45r1 : List SOper := [
 ⟨some 7, .mov (.t 0), none⟩,
 ⟨some 8, .mov (.t 4), none⟩,
 ⟨some 9, .mov (.t 4), none⟩,
 ⟨some 10, .conv .u64 (.t 9), none⟩,
 ⟨some 11, .call (.k (.d (.func (.func 97) [] []))) [(.t 10)], none⟩,
 ⟨some 12, .mov (.t 1), none⟩,
 ⟨some 13, .call (.k (.d (.func (.func 96) [] []))) [(.t 7), (.k (.d (.int .i64 0))), (.t 8), (.t 11), (.t 12)], none⟩]
def s45 : SCode := (.seq (.region s45r0 0 []) (.region s45r1 0 []))
theorem e45 : CodeIs s45.eq_1 := qc s45.eq_1
theorem xba : RegIs s45r0.eq_1 := qa
theorem xbb : RegIs s45r1.eq_1 := qa
attribute [go_sem] xba xbb e45
theorem F45 : FnIs Try.prog 45 Try.f45 [] news s45 [] 14 := xe follows Try.func45
end
theorem qlj {α β : Type} {f : α → β} : ∀ {l : List α}, (l.map f).Nodup → ∀ {x y : α}, x ∈ l → y ∈ l → f x = f y → x = y
 | [], _, x, y, hx, _, _ => by cases hx
 | a :: l, hn, x, y, hx, hy, h => by
  simp only [List.map_cons, List.nodup_cons, List.mem_map, not_exists, not_and] at hn
  rcases List.mem_cons.1 hx with rfl | hx'
  ·rcases List.mem_cons.1 hy with rfl | hy'
   ·rfl
   ·exact absurd h.symm (hn.1 y hy')
  ·rcases List.mem_cons.1 hy with rfl | hy'
   ·exact absurd h (hn.1 x hx')
   ·exact qlj hn.2 hx' hy' h
theorem zh {α β : Type} (f : α → β) : ∀ {l : List α}, (l.map f).Nodup → l.Nodup
 | [], _ => List.nodup_nil
 | a :: l, hn => by
  simp only [List.map_cons, List.nodup_cons, List.mem_map, not_exists, not_and] at hn ⊢
  exact ⟨fun h => hn.1 a h rfl, zh f hn.2⟩
theorem qmn {α : Type} (f : α → Nat) : ∀ {l : List α}, (l.map f).Nodup → ∀ {x : α}, x ∈ l → (l.find? fun y => f y == f x) = some x
 | [], _, x, hx => by cases hx
 | a :: l, hn, x, hx => by
  rw [List.find?_cons]
  by_cases h : f a = f x
  ·have := qlj hn (List.mem_cons_self ..) hx h
   subst this
   simp
  ·rw [beq_false_of_ne h]
   rcases List.mem_cons.1 hx with rfl | hx'
   ·exact absurd rfl h
   ·exact qmn f (by simp only [List.map_cons, List.nodup_cons] at hn; exact hn.2) hx'
theorem qq9 {α : Type} [DecidableEq α] : ∀ {a b : List α}, a.Nodup → (∀ x ∈ a, x ∈ b) → a.length ≤ b.length
 | [], _, _, _ => Nat.zero_le _
 | x :: a, b, h, hs => by
  have hx := hs x (List.mem_cons_self ..)
  have h' := List.nodup_cons.1 h
  have := qq9 (a := a) (b := b.erase x) h'.2 fun y hy => (List.mem_erase_of_ne (by rintro rfl; exact h'.1 hy)).2 (hs y (List.mem_cons_of_mem _ hy))
  rw [List.length_erase_of_mem hx] at this
  have := List.length_pos_of_mem hx
  simp only [List.length_cons]; omega
theorem qon (l : List En) : (l.map encEn).flatten = flatEn l := rfl
theorem qlk (l : List En) : (flatEn l).all D.isCell = true := by induction l <;> simp_all [flatEn, encEn, D.isCell]
attribute [go_sem] qon qi5 qlk
structure Cont.Ok (m : Cont) : Prop where
 num : (m.l.map (·.1)).Nodup
 lt : ∀ x ∈ m.l, x.1 < m.c
 key : (m.l.map (·.2.1)).Nodup
def enOf (x : KV) : En := (x.2.1, x.2.2)
def preL (p : List UInt8) (l : List KV) : List En := (l.filter fun x => pre p x.2.1).map enOf
def sList (m : Cont) (p : List UInt8) : List En := sortEn (preL p m.l)
theorem qi6 {p : List UInt8} {l : List KV} (h : (l.map (·.2.1)).Nodup) : ((preL p l).map (·.1)).Nodup := by
 unfold preL
 rw [List.map_map]
 exact List.Nodup.sublist (List.Sublist.map _ List.filter_sublist) h
theorem qra {a b : List En} (h : a.Perm b) (hn : (a.map (·.1)).Nodup) : sortEn a = sortEn b := by
 have h1 := xg a
 have h2 := xg b
 refine wi (h1.trans (h.trans h2.symm)) ((h1.map (fun x : En => x.1)).nodup_iff.2 hn) (jl a) (jl b)
def Slist (s : Sto) (p : List UInt8) (i : { i : List KV // (i.map (·.1)).Nodup ∧ ∀ x ∈ i, x ∈ s.m.l }) : St :=
 ⟨[(1, true, .d (.str p)), (5, true, .uni 0 2 ((preL p i.val).map encEn)), (14, true, .d (.ptr 2 0))], [stoO s 1, mapO s.m, .iter (.d (.map 1)) s.m.c (i.val.map (·.1)) s.m.c], [0], 1⟩
set_option maxRecDepth 10000 in
theorem qrb (s : Sto) (p : List UInt8) (hm : s.m.Ok) (hl : s.m.l.length ≤ 1000) (hv : ∀ x ∈ s.m.l, x.2.2.length ≤ 1000000) :
  ACall Try.prog 17 [.d (.ptr 0 0), .d (.str p)] [stoO s 1, mapO s.m] (.d (.sl 2 ((sList s.m p).map encEn))) [stoO s 1, mapO s.m] := by
 refine xa9.go ?_
 try (refine ev2 @stoO.eq_1 @mapO.eq_1 ?_; try exact True.intro)
 (repeat (with_reducible refine ob ?_)); refine no_ ?_
 try (refine ev ?_; try exact True.intro)
 refine ql (Slist s p) (fun i => s.m.l.length - i.val.length) ⟨[], by simp, by simp⟩ ?_ (fun i => ?_)
 ·try (refine ev6 @Slist.eq_1 @stoO.eq_1 @mapO.eq_1 @preL.eq_1 @List.filter_nil.{0} @List.map_nil.{0,0} ?_; try exact True.intro)
 obtain ⟨i, hi1, hi2⟩ := i
 try (refine ev3 @Slist.eq_1 @stoO.eq_1 @mapO.eq_1 ?_; try exact True.intro)
 have hleft : leftE (s.m.l.map encKV) (i.map (·.1)) = (s.m.l.filter fun x => !(i.map (·.1)).contains x.1).map encKV := by
  unfold leftE
  rw [List.filter_map]; rfl
 have hone : ∀ x ∈ s.m.l, ∀ y ∈ s.m.l, x.1 = y.1 → x = y := fun x hx y hy h => qlj hm.num hx hy h
 refine qtb (last := s.m.c) ⟨rfl, rfl, by intro e he; obtain ⟨x, hx, rfl⟩ := List.mem_map.1 he; exact hm.lt x hx, Nat.le_refl _⟩ (fun hl0 => ?_) (fun e he => ?_)
 ·
  rw [hleft, List.map_eq_nil_iff, List.filter_eq_nil_iff] at hl0
  have hall : ∀ x ∈ s.m.l, x ∈ i := by
   intro x hx
   have := hl0 x hx
   simp only [List.contains_eq_mem, decide_eq_true_eq, Bool.not_eq_true, Bool.not_eq_false', Bool.not_not] at this
   simp at this
   obtain ⟨a, b, hab⟩ := this
   have := hone x hx _ (hi2 _ hab) rfl
   rw [this]; exact hab
  have hperm : i.Perm s.m.l := by
   refine (List.perm_ext_iff_of_nodup (zh _ hi1) (zh _ hm.num)).2 fun x => ⟨hi2 x, hall x⟩
  have hpp : (preL p i).Perm (preL p s.m.l) := (hperm.filter _).map _
  have hpn : ((preL p i).map (·.1)).Nodup := by
   refine (hpp.map (fun x : En => x.1)).nodup_iff.2 ?_
   exact qi6 hm.key
  have hsame : sortEn (preL p i) = sList s.m p := qra hpp hpn
  have hlen : (preL p i).length ≤ 1000 := by
   have h1 := hpp.length_eq
   have h2 : (preL p s.m.l).length ≤ s.m.l.length := by simp only [preL, List.length_map]; exact List.length_filter_le _ _
   omega
  try (refine ev1 @overV.eq_1 ?_; try exact True.intro)
  (repeat (with_reducible refine ob ?_)); refine no_ ?_
  try (refine ev ?_; try exact True.intro)
  refine qqk (.fr 5) 0 2 ((preL p i).map encEn) ?_
  refine pu ?_
  try (refine ev ?_; try exact True.intro)
  refine clO [3] F45 (qwp (preL p i) hpn (by omega)) ?_
  try (refine ev ?_; try exact True.intro)
  have hsl : (preL p i).length = (sortEn (preL p i)).length := (xg _).length_eq.symm
  rw [hsl]
  refine qyi 3 2 ((sortEn (preL p i)).map encEn) ?_ (hc := ?_) (hcc := ?_) (hes := ?_) (hok := D.okWR_noPtr (qak _))
  ·refine pu ?_
   try (refine ev1 @hsame ?_; try exact True.intro)
  ·try (refine ev ?_; try exact True.intro)
  ·try (refine ev ?_; try exact True.intro)
  ·intro r hr
   obtain ⟨x, _, rfl⟩ := List.mem_map.1 hr
   rfl
 ·rw [hleft] at he
  obtain ⟨x, hx, rfl⟩ := List.mem_map.1 he
  rw [List.mem_filter] at hx
  obtain ⟨hx1, hx2⟩ := hx
  have hx3 : x.1 ∉ i.map (·.1) := by simpa using hx2
  have hnext : ((i ++ [x]).map (·.1)).Nodup ∧ ∀ y ∈ i ++ [x], y ∈ s.m.l := by
   refine ⟨by rw [List.map_append]; exact List.nodup_append.2 ⟨hi1, by simp, fun a ha b hb h => by simp at hb; subst hb; subst h; exact hx3 ha⟩, fun y hy => ?_⟩
   rcases List.mem_append.1 hy with h | h
   ·exact hi2 y h
   ·simp at h; subst h; exact hx1
  have hil : i.length < s.m.l.length := by
   have := qq9 (zh _ hnext.1) hnext.2
   simp at this; omega
  have hpl : (preL p i).length ≤ i.length := by simp only [preL, List.length_map]; exact List.length_filter_le _ _
  try (refine ev1 @entV.eq_1 ?_; try exact True.intro)
  (repeat (with_reducible refine ob ?_)); refine yo ?_
  try (refine ev ?_; try exact True.intro)
  refine qp6 (e := encKV x) (mid := 1) (since := s.m.c) (seen := i.map (·.1) ++ [x.1]) (clock := s.m.c) (es := s.m.l.map encKV) ⟨rfl, rfl, by simp [encKV], ?_⟩ ?_
  ·rw [List.find?_map]
   have h1 : s.m.l.find? ((fun e : Nat × D × D => e.1 == (encKV x).1) ∘ encKV) = some x := qmn (fun y : KV => y.1) hm.num hx1
   rw [h1]; rfl
  try (refine ev1 @encKV.eq_1 ?_; try exact True.intro)
  (repeat (with_reducible refine ob ?_)); first | refine cl F44 (qbu x.2.1 p) ?_ | refine clF F44 (qbu x.2.1 p) (fun _ => by simp only [encOp, encEn, go_sem, Nat.reduceAdd, Nat.reduceMul, Nat.reduceSub, Nat.reduceEqDiff, Nat.reduceLT, Nat.reduceLeDiff, Nat.reduceBEq, reduceIte, reduceCtorEq, Int.reduceAdd, Int.reduceLT, Int.reduceLE, Int.reduceGT, Int.reduceGE, Int.reduceEq, Int.reduceNe, Int.reduceBEq, Int.reduceBNe, Int.reduceToNat, Int.reduceNeg]) ?_
  try (refine ev ?_; try exact True.intro)
  (repeat (with_reducible refine ob ?_)); refine xk _ (fun h => ?_) (fun h => ?_)
  ·try (refine ev ?_; try exact True.intro)
   (repeat (with_reducible refine ob ?_)); first | refine cl F43 (xi x.2.2 (by have := hv x hx1; omega)) ?_ | refine clF F43 (xi x.2.2 (by have := hv x hx1; omega)) (fun _ => by simp only [encOp, encEn, go_sem, Nat.reduceAdd, Nat.reduceMul, Nat.reduceSub, Nat.reduceEqDiff, Nat.reduceLT, Nat.reduceLeDiff, Nat.reduceBEq, reduceIte, reduceCtorEq, Int.reduceAdd, Int.reduceLT, Int.reduceLE, Int.reduceGT, Int.reduceGE, Int.reduceEq, Int.reduceNe, Int.reduceBEq, Int.reduceBNe, Int.reduceToNat, Int.reduceNeg]) ?_
   try (refine ev ?_; try exact True.intro)
   refine ⟨by omega, ?_⟩
   have hpx : preL p (i ++ [x]) = preL p i ++ [enOf x] := by simp [preL, h]
   refine ⟨⟨i ++ [x], hnext⟩, ?_, by simp only [List.length_append, List.length_singleton]; omega⟩
   try (refine ev7 @Slist.eq_1 @stoO.eq_1 @mapO.eq_1 @hpx @List.map_append.{0,0} @encEn.eq_1 @enOf.eq_1 ?_; try exact True.intro)
  ·have hpx : preL p (i ++ [x]) = preL p i := by simp [preL, h]
   try (refine ev ?_; try exact True.intro)
   refine ⟨⟨i ++ [x], hnext⟩, ?_, by simp only [List.length_append, List.length_singleton]; omega⟩
   try (refine ev7 @Slist.eq_1 @stoO.eq_1 @mapO.eq_1 @hpx @List.map_append.{0,0} @encEn.eq_1 @enOf.eq_1 ?_; try exact True.intro)
end Go.Proofs.Ytinnaedmdoengaa
namespace Go.Proofs.Ytinnaedmdoengaa
open Go.Abs
set_option linter.unusedSimpArgs false
set_option linter.unusedVariables false
theorem zk {k : List UInt8} {x : KV} : hasKey k x = true ↔ k = x.2.1 := by simp [hasKey]
theorem qde {k v : List UInt8} : ∀ {l : List KV} {j : Nat}, l.findIdx? (hasKey k) = some j → ∀ k', (l.modify j fun e => (e.1, k, v)).find? (hasKey k') = if k' = k then some ((l[j]?.getD (0, [], [])).1, k, v) else l.find? (hasKey k')
 | [], j, h, k' => by simp at h
 | a :: l, j, h, k' => by
  rw [List.findIdx?_cons] at h
  by_cases ha : hasKey k a = true
  ·rw [if_pos ha] at h
   cases h
   simp only [List.modify_zero_cons, List.find?_cons, List.getElem?_cons_zero, Option.getD_some]
   by_cases hk : k' = k
   ·subst hk
    have : hasKey k' (a.1, k', v) = true := zk.2 rfl
    rw [this, if_pos rfl]
   ·have h1 : hasKey k' (a.1, k, v) = false := by simpa [hasKey] using hk
    have h2 : hasKey k' a = false := by rw [zk] at ha; simp [hasKey, ← ha, hk]
    rw [h1, h2, if_neg hk]
  ·rw [if_neg (by simpa using ha)] at h
   obtain ⟨i, hi, rfl⟩ := Option.map_eq_some_iff.1 h
   simp only [List.modify_succ_cons, List.find?_cons, List.getElem?_cons_succ]
   have ih := qde (v := v) hi k'
   by_cases hk : k' = k
   ·subst hk
    have : hasKey k' a = false := by simpa using ha
    rw [this]
    exact ih
   ·cases h2 : hasKey k' a with
    | true => rw [if_neg hk]
    | false => rw [ih]
theorem qi7 {k : List UInt8} {l : List KV} (h : l.findIdx? (hasKey k) = none) : l.find? (hasKey k) = none := by
 rw [List.findIdx?_eq_none_iff] at h
 exact List.find?_eq_none.2 fun x hx => by rw [h x hx]; simp
theorem qmo (k v : List UInt8) (m : Cont) (k' : List UInt8) : mGet k' (mPut k v m) = if k' = k then some v else mGet k' m := by
 unfold mGet mPut
 cases h : m.l.findIdx? (hasKey k) with
 | some j =>
  simp only [qde h k']
  split <;> rfl
 | none =>
  simp only [List.find?_append]
  by_cases hk : k' = k
  ·subst hk
   rw [qi7 h, if_pos rfl]
   simp [hasKey]
  ·rw [if_neg hk]
   have : [(m.c, k, v)].find? (hasKey k') = none := by simp [hasKey, hk]
   rw [this, Option.or_none]
theorem qfa {k v : List UInt8} : ∀ {l : List KV} {j : Nat}, l.findIdx? (hasKey k) = some j → (l.modify j fun e => (e.1, k, v)).map (·.2.1) = l.map (·.2.1) ∧ (l.modify j fun e => (e.1, k, v)).map (·.1) = l.map (·.1)
 | [], j, h => by simp at h
 | a :: l, j, h => by
  rw [List.findIdx?_cons] at h
  by_cases ha : hasKey k a = true
  ·rw [if_pos ha] at h
   cases h
   rw [zk] at ha
   simp only [List.modify_zero_cons, List.map_cons, ha, and_self]
  ·rw [if_neg (by simpa using ha)] at h
   obtain ⟨i, hi, rfl⟩ := Option.map_eq_some_iff.1 h
   obtain ⟨h1, h2⟩ := qfa (v := v) hi
   simp only [List.modify_succ_cons, List.map_cons, h1, h2, and_self]
theorem qfb {α : Type} {l : List α} {x : α} (h : l.Nodup) (hx : x ∉ l) : (l ++ [x]).Nodup :=
 List.nodup_append.2 ⟨h, by simp, fun a ha b hb e => by simp at hb; subst hb; subst e; exact hx ha⟩
theorem qdf {m : Cont} (h : m.Ok) (k v : List UInt8) : (mPut k v m).Ok := by
 unfold mPut
 cases hf : m.l.findIdx? (hasKey k) with
 | some j =>
  obtain ⟨h1, h2⟩ := qfa (v := v) hf
  refine ⟨by simpa only [h2] using h.num, fun x hx => ?_, by simpa only [h1] using h.key⟩
  have : x.1 ∈ (m.l.modify j fun e => (e.1, k, v)).map (·.1) := List.mem_map_of_mem hx
  rw [h2] at this
  obtain ⟨y, hy, he⟩ := List.mem_map.1 this
  rw [← he]; exact h.lt y hy
 | none =>
  rw [List.findIdx?_eq_none_iff] at hf
  refine ⟨?_, fun x hx => ?_, ?_⟩
  ·rw [List.map_append]
   refine qfb h.num fun hm => ?_
   obtain ⟨y, hy, he⟩ := List.mem_map.1 hm
   have := h.lt y hy
   simp only at he
   omega
  ·simp only
   rcases List.mem_append.1 hx with hx | hx
   ·have := h.lt x hx; omega
   ·simp at hx; subst hx; simp
  ·rw [List.map_append]
   refine qfb h.key fun hm => ?_
   obtain ⟨y, hy, he⟩ := List.mem_map.1 hm
   have := hf y hy
   simp [hasKey, he] at this
theorem qam (k : List UInt8) (m : Cont) : (mDel k m).l.Sublist m.l := by
 unfold mDel
 split
 ·exact List.eraseIdx_sublist ..
 ·exact List.Sublist.refl _
theorem qdg {m : Cont} (h : m.Ok) (k : List UInt8) : (mDel k m).Ok :=
 ⟨List.Nodup.sublist ((qam k m).map _) h.num, fun x hx => by rw [qva]; exact h.lt x ((qam k m).subset hx), List.Nodup.sublist ((qam k m).map _) h.key⟩
theorem qfc {k : List UInt8} : ∀ {l : List KV} {j : Nat}, l.findIdx? (hasKey k) = some j → (l.map (·.2.1)).Nodup → ∀ k', (l.eraseIdx j).find? (hasKey k') = if k' = k then none else l.find? (hasKey k')
 | [], j, h, _, k' => by simp at h
 | a :: l, j, h, hn, k' => by
  rw [List.findIdx?_cons] at h
  simp only [List.map_cons, List.nodup_cons] at hn
  by_cases ha : hasKey k a = true
  ·rw [if_pos ha] at h
   cases h
   rw [zk] at ha
   simp only [List.eraseIdx_cons_zero, List.find?_cons]
   by_cases hk : k' = k
   ·subst hk
    rw [if_pos rfl]
    refine List.find?_eq_none.2 fun x hx hk => ?_
    rw [zk] at hk
    exact hn.1 (List.mem_map.2 ⟨x, hx, by rw [← ha, ← hk]⟩)
   ·rw [if_neg hk]
    have h2 : hasKey k' a = false := by simp [hasKey, ← ha, hk]
    rw [h2]
  ·rw [if_neg (by simpa using ha)] at h
   obtain ⟨i, hi, rfl⟩ := Option.map_eq_some_iff.1 h
   simp only [List.eraseIdx_cons_succ, List.find?_cons]
   have ih := qfc hi hn.2 k'
   by_cases hk : k' = k
   ·subst hk
    have : hasKey k' a = false := by simpa using ha
    rw [this, if_pos rfl]
    rw [if_pos rfl] at ih
    exact ih
   ·cases h2 : hasKey k' a with
    | true => rw [if_neg hk]
    | false => rw [ih]
theorem qmp {m : Cont} (h : m.Ok) (k k' : List UInt8) : mGet k' (mDel k m) = if k' = k then none else mGet k' m := by
 unfold mGet mDel
 cases hf : m.l.findIdx? (hasKey k) with
 | some j =>
  simp only [qfc hf h.key k']
  split <;> rfl
 | none =>
  simp only
  split
  ·rename_i hk; subst hk; rw [qi7 hf]; rfl
  ·rfl
theorem q7f (k v : List UInt8) (m : Cont) : (mPut k v m).l.length ≤ m.l.length + 1 := by
 unfold mPut
 split <;> simp
theorem qmq (k : List UInt8) (m : Cont) : (mDel k m).l.length ≤ m.l.length := (qam k m).length_le
def kvOk (x : KV) : Prop := 1 ≤ x.2.1.length ∧ x.2.1.length ≤ 40 ∧ x.2.2.length ≤ 900
theorem qui {k v : List UInt8} {m : Cont} {x : KV} (h : x ∈ (mPut k v m).l) : x ∈ m.l ∨ (x.2.1 = k ∧ x.2.2 = v) := by
 unfold mPut at h
 split at h
 ·rename_i j hj
  simp only at h
  obtain ⟨i, hi⟩ := List.getElem?_of_mem h
  rw [List.getElem?_modify] at hi
  cases hg : m.l[i]? with
  | none => rw [hg] at hi; cases hi
  | some y =>
   rw [hg] at hi
   simp only [Option.map_eq_map, Option.map_some, Option.some.injEq] at hi
   split at hi
   ·subst hi; exact .inr ⟨rfl, rfl⟩
   ·subst hi; exact .inl (List.mem_of_getElem? hg)
 ·rcases List.mem_append.1 h with h | h
  ·exact .inl h
  ·simp at h; subst h; exact .inr ⟨rfl, rfl⟩
structure Cont.Good (m : Cont) : Prop where
 ok : m.Ok
 few : m.l.length ≤ 400
 small : ∀ x ∈ m.l, kvOk x
theorem vb : ∀ (l : List OpS) {m : Cont}, m.Good → (∀ o ∈ l, sProper o = true) → (mApply m l).2 = true → (mApply m l).1.Good
 | [], m, h, _, _ => h
 | o :: l, m, h, hp, hy => by
  rw [mApply] at hy ⊢
  have ho := xp.1 (hp o (List.mem_cons_self ..))
  have hp' := fun x hx => hp x (List.mem_cons_of_mem _ hx)
  split at hy
  ·rename_i hd
   rw [if_pos hd]
   exact vb l ⟨qdg h.ok _, Nat.le_trans (qmq _ _) h.few, fun x hx => h.small x ((qam _ _).subset hx)⟩ hp' hy
  ·rename_i hd
   rw [if_neg hd]
   split at hy
   ·cases hy
   ·rename_i h4
    rw [if_neg h4]
    refine vb l ⟨qdf h.ok _ _, by omega, fun x hx => ?_⟩ hp' hy
    rcases qui hx with hx | ⟨h1, h2⟩
    ·exact h.small x hx
    ·exact ⟨by rw [h1]; exact ho.1, by rw [h1]; exact ho.2.1, by rw [h2]; exact ho.2.2.1⟩
theorem qdh (f r : List UInt8) (hr : r.length ≤ 2000) : (wAppend f r).length ≤ f.length + 70000 := by
 have := qdb _ r (Nat.le_refl _)
 unfold wAppend
 rw [qdc _ _ (fun q hq => (ze _ r (Nat.le_refl _) q hq).2)]
 simp only; omega
structure Sto.Ok (n : Nat) (s : Sto) : Prop where
 good : s.m.Good
 file : s.file.length ≤ n * 70000
theorem qa9 (n : Nat) : newS.Ok n := by
 refine ⟨⟨⟨List.nodup_nil, fun x hx => (by cases hx), List.nodup_nil⟩, ?_, fun x hx => (by cases hx)⟩, ?_⟩
 ·simp only [newS, emptyC, List.length_nil, Nat.zero_le]
 ·simp only [newS, List.length_nil, Nat.zero_le]
theorem Sto.Ok.mono {n m : Nat} {s : Sto} (h : s.Ok n) (hn : n ≤ m) : s.Ok m := ⟨h.good, Nat.le_trans h.file (Nat.mul_le_mul_right _ hn)⟩
theorem jm (s : Sto) (l : List OpS) : ((sCommit s l).2 ≠ 0 ∧ (sCommit s l).1 = s) ∨ ((sCommit s l).2 = 0 ∧ (sEncode l).2 = 0 ∧ (mApply s.m l).2 = true ∧ (sCommit s l).1 = ⟨wAppend s.file (sEncode l).1, s.synced, (mApply s.m l).1⟩) := by
 unfold sCommit
 split
 ·exact .inl ⟨by assumption, rfl⟩
 ·split
  ·exact .inl ⟨by simp, rfl⟩
  ·rename_i h1 h2
   exact .inr ⟨rfl, by simpa using h1, by simpa using h2, rfl⟩
theorem ka {n : Nat} {s : Sto} (h : s.Ok n) (l : List OpS) : (sCommit s l).1.Ok (n + 1) := by
 rcases jm s l with ⟨_, he⟩ | ⟨_, h1, h2, he⟩
 ·rw [he]; exact h.mono (Nat.le_succ _)
 ·rw [he]
  refine ⟨vb l h.good (xf h1).2.1 h2, ?_⟩
  have := qdh s.file _ (x5 l)
  have := h.file
  simp only; omega
theorem kw {s : Sto} {l : List OpS} (hl : l.length ≤ 100000) (hf : s.file.length ≤ 100000000) (h : (sCommit s l).2 = 0) :
  ACall Try.prog 13 [.d (.ptr 0 0), .d (.sl 3 (l.map encOp))] [stoO s 1, mapO s.m] (.d (.int .i64 0)) [stoO (sCommit s l).1 2, mapO s.m, mapO (sCommit s l).1.m] := by
 have := qi4 s l hl hf
 rw [afterC, if_pos h, h] at this
 exact this
theorem qi8 {s : Sto} {l : List OpS} (hl : l.length ≤ 100000) (hf : s.file.length ≤ 100000000) (h : (sCommit s l).2 ≠ 0) :
  ACall Try.prog 13 [.d (.ptr 0 0), .d (.sl 3 (l.map encOp))] [stoO s 1, mapO s.m] (.d (.int .i64 (sCommit s l).2)) [stoO s 1, mapO s.m, .none] := by
 have := qi4 s l hl hf
 rw [afterC, if_neg h] at this
 exact this
def lastOf (k : List UInt8) : Option (List UInt8) → List OpS → Option (List UInt8)
 | a, [] => a
 | a, o :: l => lastOf k (if o.key = k then (if o.del then none else some o.val) else a) l
theorem qfd (k : List UInt8) : ∀ (l : List OpS) {m : Cont}, m.Ok → (mApply m l).2 = true → mGet k (mApply m l).1 = lastOf k (mGet k m) l
 | [], m, _, _ => rfl
 | o :: l, m, h, hy => by
  rw [mApply] at hy ⊢
  rw [lastOf]
  split at hy
  ·rename_i hd
   rw [if_pos hd, qfd k l (qdg h _) hy, qmp h]
   congr 1
   by_cases hk : k = o.key
   ·rw [if_pos hk, if_pos hk.symm, if_pos hd]
   ·rw [if_neg hk, if_neg (Ne.symm hk)]
  ·rename_i hd
   rw [if_neg hd]
   split at hy
   ·cases hy
   ·rename_i h4
    rw [if_neg h4, qfd k l (qdf h _ _) hy, qmo]
    congr 1
    by_cases hk : k = o.key
    ·rw [if_pos hk, if_pos hk.symm, if_neg hd]
    ·rw [if_neg hk, if_neg (Ne.symm hk)]
end Go.Proofs.Ytinnaedmdoengaa
namespace Go.Proofs.Ytinnaedmdoengaa
open Go.Abs
set_option linter.unusedSimpArgs false
set_option linter.unusedVariables false
theorem wj : ∀ a b : List UInt8, Op.bytesLess a b = decide (cmpB a b < 0)
 | [], [] => rfl
 | [], _ :: _ => rfl
 | _ :: _, [] => rfl
 | a :: l, b :: m => by
  have ih := wj l m
  simp only [cmpB] at ih
  simp only [Op.bytesLess, cmpB, Lib.compareBytes, ih]
  by_cases h1 : a < b
  ·simp [h1]
  ·by_cases h2 : b < a
   ·have : ¬ a = b := by rintro rfl; exact h1 h2
    simp [h1, h2, this]
   ·have : a = b := by
     apply UInt8.toNat_inj.1
     rw [UInt8.lt_iff_toNat_lt] at h1 h2
     omega
    simp [h1, h2, this]
def Sorted (l : List En) : Prop := l.Pairwise fun a b => cmpB a.1 b.1 < 0
theorem Sorted.keys {l : List En} (h : Sorted l) : (l.map (·.1)).Nodup := by
 unfold List.Nodup
 rw [List.pairwise_map]
 exact h.imp fun {a b} hab e => by rw [e, qai] at hab; omega
theorem Sorted.le {l : List En} (h : Sorted l) : l.Pairwise fun a b => cmpB a.1 b.1 ≤ 0 := h.imp fun hab => Int.le_of_lt hab
theorem qba {l m : List En} (hl : Sorted l) (hm : Sorted m) (h : ∀ x, x ∈ l ↔ x ∈ m) : l = m :=
 wi ((List.perm_ext_iff_of_nodup (zh _ hl.keys) (zh _ hm.keys)).2 h) hl.keys hl.le hm.le
theorem qrc {l : List En} (h : l.Pairwise fun a b => cmpB a.1 b.1 ≤ 0) (hn : (l.map (·.1)).Nodup) : Sorted l := by
 unfold List.Nodup at hn
 rw [List.pairwise_map] at hn
 refine (h.and hn).imp fun {a b} hab => ?_
 obtain ⟨h1, h2⟩ := hab
 rcases Int.lt_or_eq_of_le h1 with h3 | h3
 ·exact h3
 ·exact (h2 (qaj h3)).elim
theorem qbv {m : Cont} (h : m.Ok) (p : List UInt8) : Sorted (sList m p) := by
 refine qrc (jl _) ?_
 exact ((xg (preL p m.l)).map (fun x : En => x.1)).nodup_iff.2 (qi6 h.key)
theorem qmr : ∀ {l : List KV}, (l.map (·.2.1)).Nodup → ∀ {x : KV}, x ∈ l → l.find? (hasKey x.2.1) = some x
 | [], _, x, hx => by cases hx
 | a :: l, hn, x, hx => by
  rw [List.find?_cons]
  simp only [List.map_cons, List.nodup_cons] at hn
  rcases List.mem_cons.1 hx with rfl | hx'
  ·rw [zk.2 rfl]
  ·have : hasKey x.2.1 a = false := by
    cases h : hasKey x.2.1 a with
    | false => rfl
    | true => exact (hn.1 (List.mem_map.2 ⟨x, hx', zk.1 h⟩)).elim
   rw [this]
   exact qmr hn.2 hx'
theorem qi9 {m : Cont} (h : m.Ok) (p : List UInt8) (x : En) : x ∈ sList m p ↔ mGet x.1 m = some x.2 ∧ pre p x.1 = true := by
 rw [sList, (xg _).mem_iff, preL, List.mem_map]
 constructor
 ·rintro ⟨y, hy, rfl⟩
  obtain ⟨h1, h2⟩ := List.mem_filter.1 hy
  refine ⟨?_, h2⟩
  unfold mGet enOf
  rw [qmr h.key h1]; rfl
 ·rintro ⟨h1, h2⟩
  unfold mGet at h1
  rw [Option.map_eq_some_iff] at h1
  obtain ⟨y, hy, he⟩ := h1
  have hk := zk.1 (List.find?_some hy)
  refine ⟨y, List.mem_filter.2 ⟨List.mem_of_find?_eq_some hy, by rw [← hk]; exact h2⟩, ?_⟩
  unfold enOf
  rw [← hk, he]
theorem qrd (k : List UInt8) : pre [] k = true := by simp [pre]
def eSet (x : En) : List En → List En
 | [] => [x]
 | y :: l => if Op.bytesLess y.1 x.1 = true then y :: eSet x l else if y.1 = x.1 then x :: l else x :: y :: l
def eDel (k : List UInt8) (l : List En) : List En := l.filter fun e => !(e.1 == k)
def eOp (l : List En) (o : OpS) : List En := if o.del then eDel o.key l else eSet (o.key, o.val) l
def eApply : List En → List OpS → List En × Bool
 | l, [] => (l, true)
 | l, o :: r => if (eOp l o).length > 400 then ([], false) else eApply (eOp l o) r
theorem qgu {x : En} : ∀ {l : List En}, Sorted l → ∀ y, y ∈ eSet x l ↔ y = x ∨ (y ∈ l ∧ y.1 ≠ x.1)
 | [], _, y => by simp [eSet]
 | a :: l, h, y => by
  have h' := List.pairwise_cons.1 h
  rw [eSet]
  split
  ·rename_i hlt
   rw [wj, decide_eq_true_eq] at hlt
   have hne : a.1 ≠ x.1 := fun e => by rw [e, qai] at hlt; omega
   rw [List.mem_cons, qgu h'.2, List.mem_cons]
   constructor
   ·rintro (rfl | h1 | ⟨h1, h2⟩)
    ·exact .inr ⟨.inl rfl, hne⟩
    ·exact .inl h1
    ·exact .inr ⟨.inr h1, h2⟩
   ·rintro (h1 | ⟨rfl | h1, h2⟩)
    ·exact .inr (.inl h1)
    ·exact .inl rfl
    ·exact .inr (.inr ⟨h1, h2⟩)
  ·rename_i hlt
   rw [wj, decide_eq_true_eq] at hlt
   have hge : cmpB x.1 a.1 ≤ 0 := js.1 hlt
   have hgt : ∀ z ∈ l, z.1 ≠ x.1 := fun z hz e => by
    have h1 := h'.1 z hz
    rw [e] at h1
    have := vz a.1 x.1
    omega
   split
   ·rename_i he
    simp only [List.mem_cons]
    constructor
    ·rintro (h1 | h1)
     ·exact .inl h1
     ·exact .inr ⟨.inr h1, hgt y h1⟩
    ·rintro (h1 | ⟨rfl | h1, h2⟩)
     ·exact .inl h1
     ·exact (h2 he).elim
     ·exact .inr h1
   ·rename_i he
    simp only [List.mem_cons]
    constructor
    ·rintro (h1 | rfl | h1)
     ·exact .inl h1
     ·exact .inr ⟨.inl rfl, he⟩
     ·exact .inr ⟨.inr h1, hgt y h1⟩
    ·rintro (h1 | ⟨h1 | h1, h2⟩)
     ·exact .inl h1
     ·exact .inr (.inl h1)
     ·exact .inr (.inr h1)
theorem qdi {x : En} : ∀ {l : List En}, Sorted l → Sorted (eSet x l)
 | [], _ => List.pairwise_singleton _ _
 | a :: l, h => by
  have h' := List.pairwise_cons.1 h
  rw [eSet]
  split
  ·rename_i hlt
   rw [wj, decide_eq_true_eq] at hlt
   refine List.pairwise_cons.2 ⟨fun y hy => ?_, qdi h'.2⟩
   rcases (qgu h'.2 y).1 hy with rfl | ⟨h1, _⟩
   ·exact hlt
   ·exact h'.1 y h1
  ·rename_i hlt
   rw [wj, decide_eq_true_eq] at hlt
   have hge : cmpB x.1 a.1 ≤ 0 := js.1 hlt
   split
   ·rename_i he
    exact List.pairwise_cons.2 ⟨fun y hy => by rw [← he]; exact h'.1 y hy, h'.2⟩
   ·rename_i he
    have hx : cmpB x.1 a.1 < 0 := by
     rcases Int.lt_or_eq_of_le hge with h1 | h1
     ·exact h1
     ·exact (he (qaj h1).symm).elim
    refine List.pairwise_cons.2 ⟨fun y hy => ?_, h⟩
    rcases List.mem_cons.1 hy with rfl | hy
    ·exact hx
    ·exact (kv hge (Int.le_of_lt (h'.1 y hy))).2 (.inl hx)
theorem qll {k : List UInt8} {l : List En} (h : Sorted l) : Sorted (eDel k l) := List.Pairwise.filter _ h
def entsOf (m : Cont) : List En := sList m []
theorem xr {m : Cont} (h : m.Ok) : Sorted (entsOf m) := qbv h []
theorem vd {m : Cont} (h : m.Ok) (x : En) : x ∈ entsOf m ↔ mGet x.1 m = some x.2 := by
 rw [entsOf, qi9 h, qrd]; simp
theorem jd {m : Cont} : (entsOf m).length = m.l.length := by
 have h1 : preL [] m.l = m.l.map enOf := by
  unfold preL
  congr 1
  exact List.filter_eq_self.2 fun x _ => qrd _
 rw [entsOf, sList, (xg _).length_eq, h1, List.length_map]
theorem quj {m : Cont} (h : m.Ok) (k v : List UInt8) : entsOf (mPut k v m) = eSet (k, v) (entsOf m) := by
 have hs := xr h
 refine qba (xr (qdf h k v)) (qdi hs) fun x => ?_
 rw [vd (qdf h k v), qgu hs, vd h, qmo]
 obtain ⟨a, b⟩ := x
 simp only [Prod.mk.injEq]
 by_cases hk : a = k
 ·subst hk; simp [eq_comm]
 ·simp [hk]
theorem quk {m : Cont} (h : m.Ok) (k : List UInt8) : entsOf (mDel k m) = eDel k (entsOf m) := by
 have hs := xr h
 refine qba (xr (qdg h k)) (qll hs) fun x => ?_
 rw [vd (qdg h k), eDel, List.mem_filter, vd h, qmp h]
 by_cases hk : x.1 = k <;> simp [hk]
theorem kx : ∀ (l : List OpS) {m : Cont}, m.Ok → m.l.length ≤ 400 → (mApply m l).2 = (eApply (entsOf m) l).2 ∧ ((mApply m l).2 = true → entsOf (mApply m l).1 = (eApply (entsOf m) l).1 ∧ (mApply m l).1.Ok ∧ (mApply m l).1.l.length ≤ 400)
 | [], m, h, hl => ⟨rfl, fun _ => ⟨rfl, h, hl⟩⟩
 | o :: l, m, h, hl => by
  rw [mApply, eApply, eOp]
  by_cases hd : o.del = true
  ·have hle := qmq o.key m
   rw [if_pos hd, if_pos hd, ← quk h, jd, if_neg (by omega)]
   exact kx l (qdg h _) (by omega)
  ·rw [if_neg hd, if_neg hd, ← quj h, jd]
   by_cases h4 : (mPut o.key o.val m).l.length > 400
   ·rw [if_pos h4, if_pos h4]
    exact ⟨rfl, fun e => by cases e⟩
   ·rw [if_neg h4, if_neg h4]
    exact kx l (qdf h _ _) (by omega)
def eGet (k : List UInt8) (l : List En) : Option (List UInt8) := (l.find? fun e => e.1 == k).map (·.2)
theorem q7g {m : Cont} (h : m.Ok) (k : List UInt8) : eGet k (entsOf m) = mGet k m := by
 unfold eGet
 cases hf : (entsOf m).find? (fun e => e.1 == k) with
 | none =>
  cases hg : mGet k m with
  | none => rfl
  | some v =>
   have := (vd h (k, v)).2 hg
   have := List.find?_eq_none.1 hf _ this
   simp at this
 | some x =>
  have h1 := (vd h x).1 (List.mem_of_find?_eq_some hf)
  have h2 : x.1 = k := by simpa using List.find?_some hf
  rw [← h2, h1]; rfl
def eList (p : List UInt8) (l : List En) : List En := l.filter fun e => pre p e.1
theorem q1h {m : Cont} (h : m.Ok) (p : List UInt8) : sList m p = eList p (entsOf m) := by
 refine qba (qbv h p) (List.Pairwise.filter _ (xr h)) fun x => ?_
 rw [qi9 h, eList, List.mem_filter, vd h]
end Go.Proofs.Ytinnaedmdoengaa
namespace Go.Proofs.Ytinnaedmdoengaa
open Go.Abs
set_option linter.unusedSimpArgs false
set_option linter.unusedVariables false
def headAt (b : List UInt8) (p : Nat) : List UInt8 := (b.drop p).take 24
def sumAt (b : List UInt8) (p : Nat) : List UInt8 := (b.drop (p + 24)).take 8
def kindOf (h : List UInt8) : Nat := (h.getD 0 0).toNat
def numB (h : List UInt8) : Nat := (h.getD 1 0).toNat
def cProper (h : List UInt8) (before : Nat) : Bool :=
 (decide (kindOf h = 1) || decide (kindOf h = 2)) && decide (numB h ≤ 22) && decide (before + numB h ≤ 2000) && !(decide (kindOf h = 1) && decide (numB h ≠ 22)) && !(decide (kindOf h = 2) && decide (numB h = 0) && decide (0 < before)) && (h.drop (2 + numB h)).all (fun c => c == 0)
structure Rds where
 pos : Nat
 seed : Nat
 now : List UInt8
 recs : List (List UInt8)
 ends : List Nat
 deriving Inhabited
def Rds.used (s : Rds) : Nat := s.ends.getLastD 0
def cNow (b : List UInt8) (s : Rds) : List UInt8 := s.now ++ ((headAt b s.pos).drop 2).take (numB (headAt b s.pos))
def cNext (b : List UInt8) (s : Rds) : Rds :=
 if kindOf (headAt b s.pos) = 2 then ⟨s.pos + 32, fnv s.seed (headAt b s.pos), [], s.recs ++ [cNow b s], s.ends ++ [s.pos + 32]⟩
 else ⟨s.pos + 32, fnv s.seed (headAt b s.pos), cNow b s, s.recs, s.ends⟩
def cErr (b : List UInt8) (s : Rds) : Option Int :=
 if be8 (fnv s.seed (headAt b s.pos)) = sumAt b s.pos then (if cProper (headAt b s.pos) s.now.length = true then none else some 4) else some 5
theorem qja (b : List UInt8) (s : Rds) : (cNext b s).pos = s.pos + 32 := by unfold cNext; split <;> rfl
def wRead (b : List UInt8) (s : Rds) : Rds × Int :=
 if h : s.pos + 32 ≤ b.length then
  match cErr b s with
  | some e => (s, e)
  | none => wRead b (cNext b s)
 else (s, if s.used = b.length then 0 else 4)
termination_by b.length - s.pos
decreasing_by rw [qja]; omega
def basis : Nat := 14695981039346656037
def rds0 : Rds := ⟨0, basis, [], [], []⟩
theorem qdj {b : List UInt8} {s : Rds} {e : Int} (h : s.pos + 32 ≤ b.length) (he : cErr b s = some e) : wRead b s = (s, e) := by
 rw [wRead, dif_pos h, he]
theorem qbb {b : List UInt8} {s : Rds} (h : s.pos + 32 ≤ b.length) (he : cErr b s = none) : wRead b s = wRead b (cNext b s) := by
 rw [wRead, dif_pos h, he]
theorem v6 {b : List UInt8} {s : Rds} (h : ¬ s.pos + 32 ≤ b.length) : wRead b s = (s, if s.used = b.length then 0 else 4) := by
 rw [wRead, dif_neg h]
structure Rds.Ok (b : List UInt8) (s : Rds) : Prop where
 pos : s.pos ≤ b.length
 seed : s.seed < 18446744073709551616
 now : s.now.length ≤ 2000
 recs : s.recs.length ≤ s.pos
 ends : s.ends.length ≤ s.pos
 used : s.used ≤ s.pos
 small : ∀ r ∈ s.recs, r.length ≤ 2000
theorem yl (b : List UInt8) : rds0.Ok b := ⟨Nat.zero_le _, by decide, by simp [rds0], by simp [rds0], by simp [rds0], by simp [rds0, Rds.used], by simp [rds0]⟩
theorem qgv (l : List Nat) (x d : Nat) : (l ++ [x]).getLastD d = x := by simp
theorem qre {b : List UInt8} {s : Rds} (h : cErr b s = none) : be8 (fnv s.seed (headAt b s.pos)) = sumAt b s.pos ∧ cProper (headAt b s.pos) s.now.length = true := by
 unfold cErr at h
 split at h
 ·split at h
  ·exact ⟨by assumption, by assumption⟩
  ·cases h
 ·cases h
theorem jb {h : List UInt8} {n : Nat} : cProper h n = true ↔ (kindOf h = 1 ∨ kindOf h = 2) ∧ numB h ≤ 22 ∧ n + numB h ≤ 2000 ∧ (kindOf h = 1 → numB h = 22) ∧ (kindOf h = 2 → numB h = 0 → n = 0) ∧ (h.drop (2 + numB h)).all (fun c => c == 0) = true := by
 unfold cProper
 simp only [Bool.and_eq_true, Bool.or_eq_true, Bool.not_eq_true', Bool.and_eq_false_iff, decide_eq_true_eq, decide_eq_false_iff_not]
 constructor
 ·rintro ⟨⟨⟨⟨⟨h1, h2⟩, h3⟩, h4⟩, h5⟩, h6⟩
  exact ⟨h1, h2, h3, by omega, by omega, h6⟩
 ·rintro ⟨h1, h2, h3, h4, h5, h6⟩
  exact ⟨⟨⟨⟨⟨h1, h2⟩, h3⟩, by omega⟩, by omega⟩, h6⟩
theorem qms {b : List UInt8} {s : Rds} (h : cErr b s = none) : (cNow b s).length ≤ 2000 := by
 obtain ⟨_, h2⟩ := qre h
 obtain ⟨_, _, h3, _⟩ := jb.1 h2
 unfold cNow
 rw [List.length_append, List.length_take]
 omega
theorem qmt {b : List UInt8} {s : Rds} (hs : s.Ok b) (h : s.pos + 32 ≤ b.length) (he : cErr b s = none) : (cNext b s).Ok b := by
 have hn := qms he
 have hf := qix hs.seed (headAt b s.pos)
 have h1 := hs.recs
 have h2 := hs.ends
 have h3 := hs.used
 unfold cNext
 split
 ·refine ⟨h, hf, by simp, by simp; omega, by simp; omega, by simp [Rds.used], fun r hr => ?_⟩
  rcases List.mem_append.1 hr with hr | hr
  ·exact hs.small r hr
  ·simp at hr; subst hr; exact hn
 ·exact ⟨h, hf, hn, by simp only; omega, by simp only; omega, by simp only [Rds.used] at h3 ⊢; omega, hs.small⟩
theorem ve {b : List UInt8} {s : Rds} (hs : s.Ok b) : (wRead b s).1.Ok b := by
 by_cases h : s.pos + 32 ≤ b.length
 ·cases he : cErr b s with
  | some e => rw [qdj h he]; exact hs
  | none => rw [qbb h he]; exact ve (qmt hs h he)
 ·rw [v6 h]; exact hs
termination_by b.length - s.pos
decreasing_by rw [qja]; omega
def cBytes : Nat → List (Nat × List UInt8) → List UInt8
 | _, [] => []
 | h, p :: l => headOf p ++ be8 (fnv h (headOf p)) ++ cBytes (fnv h (headOf p)) l
def cHash : Nat → List (Nat × List UInt8) → Nat
 | h, [] => h
 | h, p :: l => cHash (fnv h (headOf p)) l
theorem qoo (x : List UInt8) (h : Nat) (l : List (Nat × List UInt8)) : cellsOn (x, h) l = (x ++ cBytes h l, cHash h l) := by
 induction l generalizing x h with
 | nil => simp [cellsOn, cBytes, cHash]
 | cons p l ih =>
  have : cellsOn (x, h) (p :: l) = cellsOn (cellOn (x, h) p) l := rfl
  rw [this, cellOn, ih, cBytes, cHash]
  simp only [List.append_assoc]
theorem qbc {h : Nat} {l : List (Nat × List UInt8)} (hl : ∀ p ∈ l, p.2.length ≤ 22) : (cBytes h l).length = 32 * l.length := by
 induction l generalizing h with
 | nil => simp [cBytes]
 | cons p l ih =>
  rw [cBytes, List.length_append, List.length_append, xx, jr (hl p List.mem_cons_self), ih (fun q hq => hl q (List.mem_cons_of_mem _ hq)), List.length_cons]
  omega
theorem qul {h : Nat} (hh : h < 18446744073709551616) (l : List (Nat × List UInt8)) : cHash h l < 18446744073709551616 := by
 induction l generalizing h with
 | nil => exact hh
 | cons p l ih => exact ih (qix hh _)
theorem qjb {b rest : List UInt8} {s : Rds} {p : Nat × List UInt8} (hp : p.1 = 1 ∨ p.1 = 2) (hl : p.2.length ≤ 22) (hb : b.drop s.pos = headOf p ++ be8 (fnv s.seed (headOf p)) ++ rest) :
  s.pos + 32 ≤ b.length ∧ headAt b s.pos = headOf p ∧ sumAt b s.pos = be8 (fnv s.seed (headOf p)) := by
 have h24 := jr hl
 have hlen := congrArg List.length hb
 simp only [List.length_drop, List.length_append, h24, xx] at hlen
 refine ⟨by omega, ?_, ?_⟩
 ·rw [headAt, hb, List.append_assoc, ← h24, List.take_left]
 ·rw [sumAt, ← List.drop_drop, hb, List.append_assoc, ← h24, List.drop_left, ← xx (fnv s.seed (headOf p)), List.take_left]
theorem qdk {p : Nat × List UInt8} (hp : p.1 = 1 ∨ p.1 = 2) : kindOf (headOf p) = p.1 := by
 unfold kindOf headOf
 rcases hp with h | h <;> rw [h] <;> rfl
theorem qfe {p : Nat × List UInt8} (hl : p.2.length ≤ 22) : numB (headOf p) = p.2.length := by
 unfold numB headOf
 simp only [List.cons_append, List.nil_append, List.getD_cons_succ, List.getD_cons_zero, UInt8.toNat_ofNat']
 omega
theorem qlm (p : Nat × List UInt8) : ((headOf p).drop 2).take p.2.length = p.2 := by
 unfold headOf
 simp only [List.cons_append, List.nil_append, List.drop_succ_cons, List.drop_zero, List.take_left]
theorem qop (p : Nat × List UInt8) : ((headOf p).drop (2 + p.2.length)).all (fun c => c == 0) = true := by
 rw [← List.drop_drop]
 unfold headOf
 simp only [List.cons_append, List.nil_append, List.drop_succ_cons, List.drop_zero, List.drop_left]
 simp
theorem qdl {b rest : List UInt8} {s : Rds} {p : Nat × List UInt8} (hp : p.1 = 1 ∨ p.1 = 2) (hl : p.2.length ≤ 22) (h22 : p.1 = 1 → p.2.length = 22) (h0 : p.1 = 2 → p.2.length = 0 → s.now.length = 0) (hn : s.now.length + p.2.length ≤ 2000)
  (hb : b.drop s.pos = headOf p ++ be8 (fnv s.seed (headOf p)) ++ rest) :
  wRead b s = wRead b (if p.1 = 2 then ⟨s.pos + 32, fnv s.seed (headOf p), [], s.recs ++ [s.now ++ p.2], s.ends ++ [s.pos + 32]⟩ else ⟨s.pos + 32, fnv s.seed (headOf p), s.now ++ p.2, s.recs, s.ends⟩) := by
 obtain ⟨h1, h2, h3⟩ := qjb hp hl hb
 have he : cErr b s = none := by
  unfold cErr
  rw [h2, h3, if_pos rfl, if_pos]
  refine jb.2 ?_
  rw [qdk hp, qfe hl]
  exact ⟨hp, hl, hn, h22, h0, qop p⟩
 rw [qbb h1 he]
 unfold cNext cNow
 rw [h2, qdk hp, qfe hl, qlm]
theorem qmu : ∀ (n : Nat) {r b rest : List UInt8} {s : Rds}, r.length ≤ n → (s.now.length = 0 ∨ 0 < r.length) → s.now.length + r.length ≤ 2000 → b.drop s.pos = cBytes s.seed (partsOf r) ++ rest →
  wRead b s = wRead b ⟨s.pos + 32 * (partsOf r).length, cHash s.seed (partsOf r), [], s.recs ++ [s.now ++ r], s.ends ++ [s.pos + 32 * (partsOf r).length]⟩
 | n, r, b, rest, s, hr, h0, hn, hb => by
  by_cases h : r.length > 22
  ·have ht : (r.take 22).length = 22 := by rw [List.length_take]; omega
   rw [xn h] at hb ⊢
   rw [cBytes, List.append_assoc] at hb
   have hc := qdl (p := (1, r.take 22)) (s := s) (b := b) (.inl rfl) (by simp only; omega) (fun _ => ht) (fun h => by cases h) (by simp only; omega) hb
   rw [hc]
   simp only [show ¬ (1 : Nat) = 2 by decide, if_false]
   cases n with
   | zero => omega
   | succ n =>
    have hd := (qjb (p := (1, r.take 22)) (.inl rfl) (by simp only; omega) hb).1
    have hb2 : b.drop (s.pos + 32) = cBytes (fnv s.seed (headOf (1, r.take 22))) (partsOf (r.drop 22)) ++ rest := by
     have h24 := jr (p := (1, r.take 22)) (by simp only; omega)
     rw [← List.drop_drop, hb]
     exact List.drop_left' (by rw [List.length_append, h24, xx])
    have ih := qmu n (r := r.drop 22) (b := b) (rest := rest) (s := ⟨s.pos + 32, fnv s.seed (headOf (1, r.take 22)), s.now ++ r.take 22, s.recs, s.ends⟩) (by rw [List.length_drop]; omega) (.inr (by rw [List.length_drop]; omega))
     (by simp only [List.length_append, List.length_drop, ht]; omega) (by simp only; exact hb2)
    rw [ih]
    simp only [List.append_assoc, List.take_append_drop, List.length_cons, cHash]
    have e : s.pos + 32 + 32 * (partsOf (r.drop 22)).length = s.pos + 32 * ((partsOf (r.drop 22)).length + 1) := by omega
    rw [e]
  ·rw [xo h] at hb ⊢
   rw [cBytes, List.append_assoc] at hb
   have hc := qdl (p := (2, r)) (s := s) (b := b) (.inr rfl) (by simp only; omega) (fun h => by cases h) (fun _ h1 => by simp only at h1; omega) hn hb
   rw [hc]
   simp only [if_true, List.length_singleton, cHash, Nat.mul_one]
theorem qrf : ∀ (n : Nat) {r b : List UInt8} {m : Nat} {s : Rds}, r.length ≤ n → (s.now.length = 0 ∨ 0 < r.length) → s.now.length + r.length ≤ 2000 → b.drop s.pos = (cBytes s.seed (partsOf r)).take m → s.pos ≤ b.length → m < (cBytes s.seed (partsOf r)).length →
  (wRead b s).1.recs = s.recs ∧ (wRead b s).1.ends = s.ends ∧ ((wRead b s).2 = 0 ∨ (wRead b s).2 = 4)
 | n, r, b, m, s, hr, h0, hn, hb, hpos, hm => by
  have hps := ze _ r (Nat.le_refl _)
  have hlen := congrArg List.length hb
  rw [List.length_drop, List.length_take, Nat.min_eq_left (Nat.le_of_lt hm)] at hlen
  rw [qbc (fun p hp => (hps p hp).2)] at hm
  by_cases h32 : m < 32
  ·rw [v6 (by omega)]
   exact ⟨rfl, rfl, by simp only; split <;> simp⟩
  ·by_cases h : r.length > 22
   ·have ht : (r.take 22).length = 22 := by rw [List.length_take]; omega
    rw [xn h] at hb hm
    rw [cBytes] at hb
    have h24 := jr (p := (1, r.take 22)) (by simp only; omega)
    have h8 : (headOf (1, r.take 22) ++ be8 (fnv s.seed (headOf (1, r.take 22)))).length = 32 := by rw [List.length_append, h24, xx]
    rw [List.take_append, List.take_of_length_le (by omega), h8] at hb
    have hc := qdl (p := (1, r.take 22)) (s := s) (b := b) (.inl rfl) (by simp only; omega) (fun _ => ht) (fun h => by cases h) (by simp only; omega) hb
    rw [hc]
    simp only [show ¬ (1 : Nat) = 2 by decide, if_false]
    cases n with
    | zero => omega
    | succ n =>
     have hb2 : b.drop (s.pos + 32) = (cBytes (fnv s.seed (headOf (1, r.take 22))) (partsOf (r.drop 22))).take (m - 32) := by
      rw [← List.drop_drop, hb]
      exact List.drop_left' h8
     have hps2 := ze _ (r.drop 22) (Nat.le_refl _)
     exact qrf n (r := r.drop 22) (b := b) (m := m - 32) (s := ⟨s.pos + 32, fnv s.seed (headOf (1, r.take 22)), s.now ++ r.take 22, s.recs, s.ends⟩) (by rw [List.length_drop]; omega) (.inr (by rw [List.length_drop]; omega))
      (by simp only [List.length_append, List.length_drop, ht]; omega) (by simp only; exact hb2) (by simp only; omega) (by rw [qbc (fun p hp => (hps2 p hp).2)]; rw [List.length_cons] at hm; omega)
   ·rw [xo h] at hm
    simp at hm
    omega
end Go.Proofs.Ytinnaedmdoengaa
namespace Go.Proofs.Ytinnaedmdoengaa
open Go.Abs
set_option linter.unusedSimpArgs false
set_option linter.unusedVariables false
theorem qrg {h : Nat} (hh : h < 18446744073709551616) : numOf (be8 h) = h := by
 have e : ∀ x : Nat, (UInt8.ofNat x).toNat = x % 256 := fun x => UInt8.toNat_ofNat'
 simp only [numOf, be8, List.foldl_cons, List.foldl_nil, num1, e]
 have p0 : (256 : Nat) ^ 0 = 1 := rfl
 have p1 : (256 : Nat) ^ 1 = 256 := rfl
 have p2 : (256 : Nat) ^ 2 = 65536 := rfl
 have p3 : (256 : Nat) ^ 3 = 16777216 := rfl
 have p4 : (256 : Nat) ^ 4 = 4294967296 := rfl
 have p5 : (256 : Nat) ^ 5 = 1099511627776 := rfl
 have p6 : (256 : Nat) ^ 6 = 281474976710656 := rfl
 have p7 : (256 : Nat) ^ 7 = 72057594037927936 := rfl
 rw [p0, p1, p2, p3, p4, p5, p6, p7]
 omega
theorem qdm : ∀ (l : List (Nat × List UInt8)) {h : Nat}, l ≠ [] → ∃ q, cBytes h l = q ++ be8 (cHash h l)
 | [], _, hn => (hn rfl).elim
 | [p], h, _ => ⟨headOf p, by simp [cBytes, cHash]⟩
 | p :: p' :: l, h, _ => by
  obtain ⟨q, hq⟩ := qdm (p' :: l) (h := fnv h (headOf p)) (by simp)
  refine ⟨headOf p ++ be8 (fnv h (headOf p)) ++ q, ?_⟩
  have e : cHash h (p :: p' :: l) = cHash (fnv h (headOf p)) (p' :: l) := by rw [cHash]
  rw [cBytes, hq, e, ← List.append_assoc]
theorem qmv (r : List UInt8) : partsOf r ≠ [] := by
 by_cases h : r.length > 22
 ·rw [xn h]; simp
 ·rw [xo h]; simp
theorem wk (f r : List UInt8) : wAppend f r = f ++ cBytes (wSeed f) (partsOf r) := by rw [wAppend, qoo]
theorem qjc (f r : List UInt8) : wSeed (wAppend f r) = cHash (wSeed f) (partsOf r) := by
 obtain ⟨q, hq⟩ := qdm (partsOf r) (h := wSeed f) (qmv r)
 have hh := qul (qml f) (partsOf r)
 rw [wk, hq, wSeed, if_neg (by simp [xx]; omega)]
 have e : (f ++ (q ++ be8 (cHash (wSeed f) (partsOf r)))).length - 8 = (f ++ q).length := by simp only [List.length_append, xx]; omega
 rw [e, ← List.append_assoc, List.drop_left, qrg hh]
def fileOf (rs : List (List UInt8)) : List UInt8 := rs.foldl wAppend []
theorem xt (rs : List (List UInt8)) (r : List UInt8) : fileOf (rs ++ [r]) = fileOf rs ++ cBytes (wSeed (fileOf rs)) (partsOf r) := by
 have : fileOf (rs ++ [r]) = wAppend (fileOf rs) r := by unfold fileOf; rw [List.foldl_append, List.foldl_cons, List.foldl_nil]
 rw [this, wk]
theorem qff (rs : List (List UInt8)) (r : List UInt8) : fileOf (rs ++ [r]) = wAppend (fileOf rs) r := by rw [xt, wk]
theorem qan (f r : List UInt8) : (cBytes (wSeed f) (partsOf r)).length = 32 * (partsOf r).length := qbc fun p hp => (ze _ r (Nat.le_refl _) p hp).2
theorem qrh (f r : List UInt8) : 0 < (cBytes (wSeed f) (partsOf r)).length := by
 rw [qan]
 have := List.length_pos_iff.2 (qmv r)
 omega
def endsOf : Nat → List (List UInt8) → List Nat
 | _, [] => []
 | n, r :: l => (n + 32 * (partsOf r).length) :: endsOf (n + 32 * (partsOf r).length) l
theorem qao {α : Type} {P : List α → Prop} (h0 : P []) (h1 : ∀ l x, P l → P (l ++ [x])) : ∀ (n : Nat) (l : List α), l.length = n → P l
 | 0, l, h => by cases l with
  | nil => exact h0
  | cons a l => simp at h
 | n + 1, l, h => by
  rcases List.eq_nil_or_concat l with rfl | ⟨t, c, rfl⟩
  ·simp at h
  ·rw [List.concat_eq_append] at h ⊢
   exact h1 _ _ (qao h0 h1 n t (by simpa using h))
structure Behind (rs : List (List UInt8)) (s : Rds) : Prop where
 pos : s.pos = (fileOf rs).length
 seed : s.seed = wSeed (fileOf rs)
 now : s.now = []
 recs : s.recs = rs
 used : s.used = (fileOf rs).length
theorem qjd (rs : List (List UInt8)) : ∀ (b rest : List UInt8), (∀ r ∈ rs, r.length ≤ 2000) → b = fileOf rs ++ rest → ∃ s, Behind rs s ∧ wRead b rds0 = wRead b s := by
 refine qao (P := fun rs => ∀ (b rest : List UInt8), (∀ r ∈ rs, r.length ≤ 2000) → b = fileOf rs ++ rest → ∃ s, Behind rs s ∧ wRead b rds0 = wRead b s) ?_ ?_ _ rs rfl
 ·intro b rest _ _
  exact ⟨rds0, ⟨rfl, rfl, rfl, rfl, rfl⟩, rfl⟩
 ·intro rs r ih b rest hr hb
  rw [xt, List.append_assoc] at hb
  obtain ⟨s, ⟨b1, b2, b3, b4, b5⟩, hs⟩ := ih b _ (fun x hx => hr x (List.mem_append_left _ hx)) hb
  have hd : b.drop s.pos = cBytes s.seed (partsOf r) ++ rest := by rw [b1, b2, hb, List.drop_left]
  have := qmu _ (r := r) (b := b) (s := s) (Nat.le_refl _) (.inl (by rw [b3]; rfl)) (by rw [b3]; have := hr r (by simp); simpa using this) hd
  refine ⟨_, ?_, hs.trans this⟩
  refine ⟨?_, ?_, rfl, ?_, ?_⟩
  ·rw [xt, List.length_append, qan, b1]
  ·rw [qff, qjc, b2]
  ·rw [b4, b3, List.nil_append]
  ·rw [Rds.used, qgv, xt, List.length_append, qan, b1]
theorem wx (rs : List (List UInt8)) : ∀ i j : Nat, i ≤ j → (fileOf (rs.take i)).length ≤ (fileOf (rs.take j)).length := by
 intro i j hij
 induction j with
 | zero =>
  have : i = 0 := by omega
  subst this
  exact Nat.le_refl _
 | succ j ih =>
  by_cases h : i ≤ j
  ·refine Nat.le_trans (ih h) ?_
   by_cases hj : j < rs.length
   ·rw [List.take_succ_eq_append_getElem hj, xt, List.length_append]; omega
   ·rw [List.take_of_length_le (by omega), List.take_of_length_le (by omega)]; omega
  ·have : i = j + 1 := by omega
   subst this
   exact Nat.le_refl _
theorem qoq (rs : List (List UInt8)) : ∀ i : Nat, i ≤ rs.length → (fileOf rs).take (fileOf (rs.take i)).length = fileOf (rs.take i) := by
 refine qao (P := fun rs => ∀ i : Nat, i ≤ rs.length → (fileOf rs).take (fileOf (rs.take i)).length = fileOf (rs.take i)) ?_ ?_ _ rs rfl
 ·intro i hi
  simp at hi; subst hi; rfl
 ·intro rs r ih i hi
  by_cases h : i ≤ rs.length
  ·have h1 := wx rs i rs.length h
   rw [List.take_length] at h1
   rw [List.take_append_of_le_length h, xt, List.take_append_of_le_length h1, ih i h]
  ·have : i = (rs ++ [r]).length := by simp at hi ⊢; omega
   subst this
   rw [List.take_length, List.take_length]
structure ReadOf (rs : List (List UInt8)) (k j : Nat) (x : Rds × Int) : Prop where
 le : j ≤ rs.length
 recs : x.1.recs = rs.take j
 used : x.1.used = (fileOf (rs.take j)).length
 fit : (fileOf (rs.take j)).length ≤ k
 all : ∀ i, i ≤ rs.length → (fileOf (rs.take i)).length ≤ k → i ≤ j
theorem qor (rs : List (List UInt8)) : ∀ k : Nat, (∀ r ∈ rs, r.length ≤ 2000) → ∃ j, ReadOf rs k j (wRead ((fileOf rs).take k) rds0) := by
 refine qao (P := fun rs => ∀ k : Nat, (∀ r ∈ rs, r.length ≤ 2000) → ∃ j, ReadOf rs k j (wRead ((fileOf rs).take k) rds0)) ?_ ?_ _ rs rfl
 ·intro k _
  refine ⟨0, ?_⟩
  have hb : (fileOf []).take k = [] := by simp [fileOf]
  rw [hb, v6 (by simp [rds0])]
  exact ⟨Nat.le_refl _, rfl, rfl, Nat.zero_le _, fun i hi _ => by simpa using hi⟩
 ·intro rs r ih k hr
  have hr' : ∀ x ∈ rs, x.length ≤ 2000 := fun x hx => hr x (List.mem_append_left _ hx)
  have hrr : r.length ≤ 2000 := hr r (by simp)
  have hln : (fileOf (rs ++ [r])).length = (fileOf rs).length + (cBytes (wSeed (fileOf rs)) (partsOf r)).length := by rw [xt, List.length_append]
  have hps := qrh (fileOf rs) r
  by_cases h1 : (fileOf (rs ++ [r])).length ≤ k
  ·rw [List.take_of_length_le h1]
   obtain ⟨s, ⟨b1, b2, b3, b4, b5⟩, hs⟩ := qjd (rs ++ [r]) (fileOf (rs ++ [r])) [] hr (by simp)
   rw [hs, v6 (by rw [b1]; omega)]
   refine ⟨(rs ++ [r]).length, ⟨Nat.le_refl _, by rw [List.take_length]; exact b4, by rw [List.take_length]; exact b5, by rw [List.take_length]; exact h1, fun i hi _ => hi⟩⟩
  ·have hall : ∀ i, i ≤ (rs ++ [r]).length → (fileOf ((rs ++ [r]).take i)).length ≤ k → i ≤ rs.length := by
    intro i hi hk
    rcases Nat.lt_or_ge rs.length i with h | h
    ·have : i = (rs ++ [r]).length := by simp at hi ⊢; omega
     rw [this, List.take_length] at hk
     exact (h1 hk).elim
    ·exact h
   have htk : ∀ i, i ≤ rs.length → (rs ++ [r]).take i = rs.take i := fun i hi => List.take_append_of_le_length hi
   by_cases h2 : k ≤ (fileOf rs).length
   ·rw [xt, List.take_append_of_le_length h2]
    obtain ⟨j, j1, j2, j3, j4, j5⟩ := ih k hr'
    refine ⟨j, ⟨by simp; omega, by rw [htk j j1]; exact j2, by rw [htk j j1]; exact j3, by rw [htk j j1]; exact j4, fun i hi hk => ?_⟩⟩
    have := hall i hi hk
    rw [htk i this] at hk
    exact j5 i this hk
   ·have hb : (fileOf (rs ++ [r])).take k = fileOf rs ++ (cBytes (wSeed (fileOf rs)) (partsOf r)).take (k - (fileOf rs).length) := by
     rw [xt, List.take_append, List.take_of_length_le (by omega)]
    rw [hb]
    obtain ⟨s, ⟨b1, b2, b3, b4, b5⟩, hs⟩ := qjd rs (fileOf rs ++ (cBytes (wSeed (fileOf rs)) (partsOf r)).take (k - (fileOf rs).length)) _ hr' rfl
    have hd : (fileOf rs ++ (cBytes (wSeed (fileOf rs)) (partsOf r)).take (k - (fileOf rs).length)).drop s.pos = (cBytes s.seed (partsOf r)).take (k - (fileOf rs).length) := by rw [b1, b2, List.drop_left]
    obtain ⟨c1, c2, c3⟩ := qrf _ (r := r) (s := s) (Nat.le_refl _) (.inl (by rw [b3]; rfl)) (by rw [b3]; simpa using hrr) hd (by rw [b1, List.length_append]; omega) (by rw [b2]; omega)
    rw [hs]
    refine ⟨rs.length, ⟨by simp, ?_, ?_, ?_, hall⟩⟩
    ·rw [c1, b4, htk _ (Nat.le_refl _), List.take_length]
    ·rw [Rds.used, c2, htk _ (Nat.le_refl _), List.take_length]
     exact b5
    ·rw [htk _ (Nat.le_refl _), List.take_length]; omega
end Go.Proofs.Ytinnaedmdoengaa
namespace Go.Proofs.Ytinnaedmdoengaa
open Go.Abs
set_option linter.unusedSimpArgs false
set_option linter.unusedVariables false
theorem qap {α β : Type} (f : α → β) (l : List α) {i : Nat} (h : i < l.length) : (l.take (i + 1)).map f = (l.take i).map f ++ [f l[i]] := by
 rw [List.take_succ_eq_append_getElem h, List.map_append]; rfl
theorem wy (w : List UInt8) : rowsBytes (byteRows w) = w := by
 induction w with
 | nil => rfl
 | cons c w ih => simp_all [rowsBytes, byteRows]
theorem qws (w : List UInt8) : (∃ l, byteRows w = byteRows l) = True := eq_true ⟨w, rfl⟩
theorem q1i : (∃ l, ([] : List (List D)) = byteRows l) = True := eq_true ⟨[], rfl⟩
theorem qgw : rowsBytes [] = [] := rfl
attribute [go_sem] wy qws q1i qgw
noncomputable section
set_option maxRecDepth 100000
def s14r0 : List SOper := [
 ⟨some 2, .mov (.k (.d .nilsl)), none⟩]
def s14r1 : List SOper := [
 ⟨some 3, .mov (.k (.d .nilsl)), none⟩]
def s14r2 : List SOper := [
 ⟨some 4, .mov (.k (.d (.int .i64 0))), none⟩]
def s14r3 : List SOper := [
 ⟨some 5, .mov (.t 4), none⟩,
 ⟨some 6, .mov (.t 0), none⟩,
 ⟨some 7, .len (.t 6), none⟩,
 ⟨some 8, .bin .lss (.t 5) (.t 7), none⟩]
def s14r4 : List SOper := [
 ⟨some 11, .mov (.t 3), none⟩,
 ⟨some 12, .mov (.t 0), none⟩,
 ⟨some 13, .mov (.t 4), none⟩,
 ⟨some 14, .iaddr 3 (.t 12) (.t 13), none⟩,
 ⟨some 15, .faddr 0 (.t 14), none⟩,
 ⟨some 16, .load none (.t 15), none⟩,
 ⟨some 17, .mov (.t 0), none⟩,
 ⟨some 18, .mov (.t 4), none⟩,
 ⟨some 19, .iaddr 3 (.t 17) (.t 18), none⟩,
 ⟨some 20, .faddr 1 (.t 19), none⟩,
 ⟨some 21, .load none (.t 20), none⟩,
 ⟨some 22, .buildSlice false 1 0 [(.int .u8 0)] [], none⟩,
 ⟨some 23, .mov (.t 0), none⟩,
 ⟨some 24, .mov (.t 4), none⟩,
 ⟨some 25, .iaddr 3 (.t 23) (.t 24), none⟩,
 ⟨some 26, .faddr 2 (.t 25), none⟩,
 ⟨some 27, .load none (.t 26), none⟩,
 ⟨some 28, .append false 1 1 (.t 22) (.t 27), none⟩,
 ⟨some 29, .build [(.str []), (.bool false), .nilsl] [(0, 1, (.t 16)), (1, 1, (.t 21)), (2, 1, (.t 28))], none⟩,
 ⟨some 30, .buildSlice false 3 1 [(.str []), (.bool false), .nilsl] [(0, 3, (.t 29))], none⟩,
 ⟨some 31, .append false 3 48 (.t 11) (.t 30), none⟩,
 ⟨some 3, .mov (.t 31), none⟩]
def s14r5 : List SOper := [
 ⟨some 9, .mov (.t 4), none⟩,
 ⟨some 10, .bin .add (.t 9) (.k (.d (.int .i64 1))), none⟩,
 ⟨some 4, .mov (.t 10), none⟩]
def s14l6 : SCode := (.seq (.seq (.region s14r3 0 []) (.cond (.t 8) .skip (.exit 0))) (.seq (.block 1 (.region s14r4 0 [])) (.region s14r5 0 [])))
theorem xbc : CodeIs s14l6.eq_1 := qc s14l6.eq_1
def s14r7 : List SOper := [
 ⟨some 32, .mov (.t 3), none⟩,
 ⟨some 2, .mov (.t 32), none⟩]
def s14 : SCode := (.seq (.region s14r0 0 []) (.seq (.region s14r1 0 []) (.seq (.seq (.region s14r2 0 []) (.block 0 (.loop s14l6))) (.seq (.region s14r7 0 []) .ret))))
theorem e14 : CodeIs s14.eq_1 := qc s14.eq_1
theorem xbd : RegIs s14r0.eq_1 := qa
theorem xbe : RegIs s14r1.eq_1 := qa
theorem xbf : RegIs s14r2.eq_1 := qa
theorem xbg : RegIs s14r3.eq_1 := qa
theorem xbh : RegIs s14r4.eq_1 := qa
theorem xbi : RegIs s14r5.eq_1 := qa
theorem xbj : RegIs s14r7.eq_1 := qa
attribute [go_sem] xbd xbe xbf xbg xbh xbi xbc xbj e14
theorem F14 : FnIs Try.prog 14 Try.f14 [] news s14 [.tmp 2] 33 := xe follows Try.func14
def s36r0 : List SOper := [
 ⟨some 4, .mov (.k (.d .nilsl)), none⟩]
def s36r1 : List SOper := [
 ⟨some 8, .mov (.t 0), none⟩,
 ⟨some 9, .mov (.t 1), none⟩,
 ⟨some 10, .call (.k (.d (.func (.func 17) [] []))) [(.t 8), (.t 9)], none⟩,
 ⟨some 5, .mov (.t 10), none⟩]
def s36r2 : List SOper := [
 ⟨some 6, .mov (.k (.d .nilsl)), none⟩]
def s36r3 : List SOper := [
 ⟨some 7, .mov (.k (.d (.int .i64 0))), none⟩]
def s36r4 : List SOper := [
 ⟨some 11, .mov (.t 7), none⟩,
 ⟨some 12, .mov (.t 5), none⟩,
 ⟨some 13, .len (.t 12), none⟩,
 ⟨some 14, .bin .lss (.t 11) (.t 13), none⟩]
def s36r5 : List SOper := [
 ⟨some 17, .mov (.t 6), none⟩,
 ⟨some 18, .mov (.t 5), none⟩,
 ⟨some 19, .mov (.t 7), none⟩,
 ⟨some 20, .iaddr 2 (.t 18) (.t 19), none⟩,
 ⟨some 21, .load (some 2) (.t 20), none⟩,
 ⟨some 22, .buildSlice false 2 1 [(.str []), .nilsl] [(0, 2, (.t 21))], none⟩,
 ⟨some 23, .append false 2 40 (.t 17) (.t 22), none⟩,
 ⟨some 6, .mov (.t 23), none⟩]
def s36r6 : List SOper := [
 ⟨some 15, .mov (.t 7), none⟩,
 ⟨some 16, .bin .add (.t 15) (.k (.d (.int .i64 1))), none⟩,
 ⟨some 7, .mov (.t 16), none⟩]
def s36l7 : SCode := (.seq (.seq (.region s36r4 0 []) (.cond (.t 14) .skip (.exit 0))) (.seq (.block 1 (.region s36r5 0 [])) (.region s36r6 0 [])))
theorem xbk : CodeIs s36l7.eq_1 := qc s36l7.eq_1
def s36r8 : List SOper := [
 ⟨some 24, .mov (.t 6), none⟩,
 ⟨some 4, .mov (.t 24), none⟩]
def s36 : SCode := (.seq (.region s36r0 0 []) (.seq (.region s36r1 0 []) (.seq (.region s36r2 0 []) (.seq (.seq (.region s36r3 0 []) (.block 0 (.loop s36l7))) (.seq (.region s36r8 0 []) .ret)))))
theorem e36 : CodeIs s36.eq_1 := qc s36.eq_1
theorem xbl : RegIs s36r0.eq_1 := qa
theorem xbm : RegIs s36r1.eq_1 := qa
theorem xbn : RegIs s36r2.eq_1 := qa
theorem xbo : RegIs s36r3.eq_1 := qa
theorem xbp : RegIs s36r4.eq_1 := qa
theorem xbq : RegIs s36r5.eq_1 := qa
theorem xbr : RegIs s36r6.eq_1 := qa
theorem xbs : RegIs s36r8.eq_1 := qa
attribute [go_sem] xbl xbm xbn xbo xbp xbq xbr xbk xbs e36
theorem F36 : FnIs Try.prog 36 Try.f36 [] news s36 [.tmp 4] 25 := xe follows Try.func36
def s25r0 : List SOper := [
 ⟨some 2, .mov (.k (.d (.bool false))), none⟩]
def s25r1 : List SOper := [
 ⟨some 3, .mov (.k (.d (.int .i64 0))), none⟩]
def s25r2 : List SOper := [
 ⟨some 4, .mov (.k (.d (.int .i64 0))), none⟩]
def s25r3 : List SOper := [
 ⟨some 5, .mov (.t 4), none⟩,
 ⟨some 6, .mov (.t 0), none⟩,
 ⟨some 7, .len (.t 6), none⟩,
 ⟨some 8, .bin .lss (.t 5) (.t 7), none⟩]
def s25r4 : List SOper := [
 ⟨some 11, .mov (.t 0), none⟩,
 ⟨some 12, .mov (.t 4), none⟩,
 ⟨some 13, .iaddr 3 (.t 11) (.t 12), none⟩,
 ⟨some 14, .faddr 0 (.t 13), none⟩,
 ⟨some 15, .load none (.t 14), none⟩,
 ⟨some 16, .lenS (.t 15), none⟩,
 ⟨some 17, .bin .gtr (.t 16) (.k (.d (.int .i64 100))), none⟩,
 ⟨some 18, .mov (.t 17), none⟩,
 ⟨some 19, .mov (.t 0), some (18, false)⟩,
 ⟨some 20, .mov (.t 4), some (18, false)⟩,
 ⟨some 21, .iaddr 3 (.t 19) (.t 20), some (18, false)⟩,
 ⟨some 22, .faddr 2 (.t 21), some (18, false)⟩,
 ⟨some 23, .load none (.t 22), some (18, false)⟩,
 ⟨some 24, .len (.t 23), some (18, false)⟩,
 ⟨some 25, .bin .gtr (.t 24) (.k (.d (.int .i64 1000))), some (18, false)⟩,
 ⟨some 26, .pick (.t 18) (.k (.d (.bool true))) (.t 25), none⟩]
def s25r5 : List SOper := [
 ⟨some 2, .mov (.k (.d (.bool false))), none⟩]
def s25r6 : List SOper := [
 ⟨some 27, .mov (.t 3), none⟩,
 ⟨some 28, .mov (.t 0), none⟩,
 ⟨some 29, .mov (.t 4), none⟩,
 ⟨some 30, .iaddr 3 (.t 28) (.t 29), none⟩,
 ⟨some 31, .faddr 2 (.t 30), none⟩,
 ⟨some 32, .load none (.t 31), none⟩,
 ⟨some 33, .len (.t 32), none⟩,
 ⟨some 34, .bin .add (.t 27) (.t 33), none⟩,
 ⟨some 3, .mov (.t 34), none⟩]
def s25r7 : List SOper := [
 ⟨some 9, .mov (.t 4), none⟩,
 ⟨some 10, .bin .add (.t 9) (.k (.d (.int .i64 1))), none⟩,
 ⟨some 4, .mov (.t 10), none⟩]
def s25l8 : SCode := (.seq (.seq (.region s25r3 0 []) (.cond (.t 8) .skip (.exit 0))) (.seq (.block 1 (.seq (.seq (.region s25r4 0 []) (.cond (.t 26) (.seq (.region s25r5 0 []) .ret) .skip)) (.region s25r6 0 []))) (.region s25r7 0 [])))
theorem xbt : CodeIs s25l8.eq_1 := qc s25l8.eq_1
def s25r9 : List SOper := [
 ⟨some 35, .mov (.t 0), none⟩,
 ⟨some 36, .len (.t 35), none⟩,
 ⟨some 37, .bin .leq (.t 36) (.k (.d (.int .i64 30))), none⟩,
 ⟨some 38, .mov (.t 37), none⟩,
 ⟨some 39, .mov (.t 3), some (38, true)⟩,
 ⟨some 40, .bin .leq (.t 39) (.k (.d (.int .i64 3000))), some (38, true)⟩,
 ⟨some 41, .pick (.t 38) (.t 40) (.k (.d (.bool false))), none⟩,
 ⟨some 2, .mov (.t 41), none⟩]
def s25 : SCode := (.seq (.region s25r0 0 []) (.seq (.region s25r1 0 []) (.seq (.seq (.region s25r2 0 []) (.block 0 (.loop s25l8))) (.seq (.region s25r9 0 []) .ret))))
theorem e25 : CodeIs s25.eq_1 := qc s25.eq_1
theorem xbu : RegIs s25r0.eq_1 := qa
theorem xbv : RegIs s25r1.eq_1 := qa
theorem xbw : RegIs s25r2.eq_1 := qa
theorem xbx : RegIs s25r3.eq_1 := qa
theorem xby : RegIs s25r4.eq_1 := qa
theorem xbz : RegIs s25r5.eq_1 := qa
theorem xb0 : RegIs s25r6.eq_1 := qa
theorem xb1 : RegIs s25r7.eq_1 := qa
theorem xb2 : RegIs s25r9.eq_1 := qa
attribute [go_sem] xbu xbv xbw xbx xby xbz xb0 xb1 xbt xb2 e25
theorem F25 : FnIs Try.prog 25 Try.f25 [] news s25 [.tmp 2] 42 := xe follows Try.func25
def s11r0 : List SOper := [
 ⟨some 2, .mov (.k (.d (.bool false))), none⟩]
def s11r1 : List SOper := [
 ⟨some 3, .mov (.k (.d (.int .i64 0))), none⟩]
def s11r2 : List SOper := [
 ⟨some 4, .mov (.t 3), none⟩,
 ⟨some 5, .mov (.t 0), none⟩,
 ⟨some 6, .len (.t 5), none⟩,
 ⟨some 7, .bin .lss (.t 4) (.t 6), none⟩]
def s11r3 : List SOper := [
 ⟨some 10, .mov (.t 0), none⟩,
 ⟨some 11, .mov (.t 3), none⟩,
 ⟨some 12, .iaddr 2 (.t 10) (.t 11), none⟩,
 ⟨some 13, .faddr 1 (.t 12), none⟩,
 ⟨some 14, .load none (.t 13), none⟩,
 ⟨some 15, .call (.k (.d (.func (.func 25) [] []))) [(.t 14)], none⟩,
 ⟨some 16, .not (.t 15), none⟩]
def s11r4 : List SOper := [
 ⟨some 2, .mov (.k (.d (.bool false))), none⟩]
def s11r5 : List SOper := [
 ⟨some 8, .mov (.t 3), none⟩,
 ⟨some 9, .bin .add (.t 8) (.k (.d (.int .i64 1))), none⟩,
 ⟨some 3, .mov (.t 9), none⟩]
def s11l6 : SCode := (.seq (.seq (.region s11r2 0 []) (.cond (.t 7) .skip (.exit 0))) (.seq (.block 1 (.seq (.region s11r3 0 []) (.cond (.t 16) (.seq (.region s11r4 0 []) .ret) .skip))) (.region s11r5 0 [])))
theorem xb3 : CodeIs s11l6.eq_1 := qc s11l6.eq_1
def s11r7 : List SOper := [
 ⟨some 17, .mov (.t 0), none⟩,
 ⟨some 18, .len (.t 17), none⟩,
 ⟨some 19, .bin .leq (.t 18) (.k (.d (.int .i64 15))), none⟩,
 ⟨some 2, .mov (.t 19), none⟩]
def s11 : SCode := (.seq (.region s11r0 0 []) (.seq (.seq (.region s11r1 0 []) (.block 0 (.loop s11l6))) (.seq (.region s11r7 0 []) .ret)))
theorem e11 : CodeIs s11.eq_1 := qc s11.eq_1
theorem xb4 : RegIs s11r0.eq_1 := qa
theorem xb5 : RegIs s11r1.eq_1 := qa
theorem xb6 : RegIs s11r2.eq_1 := qa
theorem xb7 : RegIs s11r3.eq_1 := qa
theorem xb8 : RegIs s11r4.eq_1 := qa
theorem xb9 : RegIs s11r5.eq_1 := qa
theorem xca : RegIs s11r7.eq_1 := qa
attribute [go_sem] xb4 xb5 xb6 xb7 xb8 xb9 xb3 xca e11
theorem F11 : FnIs Try.prog 11 Try.f11 [] news s11 [.tmp 2] 20 := xe follows Try.func11
end
def SfTo (l : List OpS) (i : { i : Nat // i ≤ l.length }) : St :=
 ⟨[(0, true, .d (.sl 3 (l.map encOp))), (3, true, .own 0 3 ((l.take i.val).map encOp)), (4, true, .d (.int .i64 (i.val : Nat)))], [], [0], 1⟩
theorem qum (l : List OpS) (hl : l.length ≤ 100000) (hv : ∀ o ∈ l, o.val.length ≤ 1000000) : ACall Try.prog 14 [.d (.sl 3 (l.map encOp))] [] (.d (.sl 3 (l.map encOp))) [] := by
 refine F14.go ?_
 try (refine ev ?_; try exact True.intro)
 refine ql (SfTo l) (fun i => l.length - i.val) ⟨0, Nat.zero_le _⟩ ?_ (fun i => ?_)
 ·try (refine ev2 @SfTo.eq_1 @List.take_zero.{0} ?_; try exact True.intro)
 obtain ⟨i, hi⟩ := i
 try (refine ev1 @SfTo.eq_1 ?_; try exact True.intro)
 (repeat (with_reducible refine ob ?_)); refine xk _ (fun h => ?_) (fun h => ?_)
 ·have hil : i < l.length := by simpa using h
  have hx := hv _ (List.getElem_mem hil)
  try (refine ev2 (qq encOp l hil) @encOp.eq_1 ?_; try exact True.intro)
  (repeat (with_reducible refine ob ?_))
  refine ⟨⟨i + 1, hil⟩, ?_, by dsimp only; omega⟩
  try (refine ev4 @SfTo.eq_1 (qap encOp l hil) @encOp.eq_1 (qj (show i < 9223372036854775807 by omega)) ?_; try exact True.intro)
 ·have hil : i = l.length := by
   have : l.length ≤ i := by simpa using h
   omega
  subst hil
  try (refine ev1 @List.take_length.{0} ?_; try exact True.intro)
theorem qje (m : Cont) (p : List UInt8) : (sList m p).length ≤ m.l.length := by
 rw [sList, (xg _).length_eq]
 simp only [preL, List.length_map]
 exact List.length_filter_le _ _
def Scon (s : Sto) (l : List En) (i : { i : Nat // i ≤ l.length }) : St :=
 ⟨[(5, true, .d (.sl 2 (l.map encEn))), (6, true, .own 0 2 ((l.take i.val).map encEn)), (7, true, .d (.int .i64 (i.val : Nat)))], [stoO s 1, mapO s.m], [0], 1⟩
theorem zc (s : Sto) (p : List UInt8) (n : Nat) (hs : s.Ok n) :
  ACall Try.prog 36 [.d (.ptr 0 0), .d (.str p)] [stoO s 1, mapO s.m] (.d (.sl 2 ((sList s.m p).map encEn))) [stoO s 1, mapO s.m] := by
 have hls := qrb s p hs.good.ok (by have := hs.good.few; omega) (fun x hx => by have := (hs.good.small x hx).2.2; omega)
 have hln := qje s.m p
 have hfew := hs.good.few
 refine F36.go ?_
 try (refine ev2 @stoO.eq_1 @mapO.eq_1 ?_; try exact True.intro)
 simp only [stoO, mapO] at hls
 (repeat (with_reducible refine ob ?_)); refine clO [0, 1] xa9 (hls) ?_ (hfit := by first | exact ⟨qb, trivial⟩ | exact ⟨qb, qb, trivial⟩ | simp only [encOp, encEn, go_sem, Nat.reduceAdd, Nat.reduceMul, Nat.reduceSub, Nat.reduceEqDiff, Nat.reduceLT, Nat.reduceLeDiff, Nat.reduceBEq, reduceIte, reduceCtorEq, Int.reduceAdd, Int.reduceLT, Int.reduceLE, Int.reduceGT, Int.reduceGE, Int.reduceEq, Int.reduceNe, Int.reduceBEq, Int.reduceBNe, Int.reduceToNat, Int.reduceNeg])
 generalize sList s.m p = l at hln ⊢
 try (refine ev ?_; try exact True.intro)
 refine ql (Scon s l) (fun i => l.length - i.val) ⟨0, Nat.zero_le _⟩ ?_ (fun i => ?_)
 ·try (refine ev4 @Scon.eq_1 @List.take_zero.{0} @stoO.eq_1 @mapO.eq_1 ?_; try exact True.intro)
 obtain ⟨i, hi⟩ := i
 try (refine ev3 @Scon.eq_1 @stoO.eq_1 @mapO.eq_1 ?_; try exact True.intro)
 (repeat (with_reducible refine ob ?_)); refine xk _ (fun h => ?_) (fun h => ?_)
 ·have hil : i < l.length := by simpa using h
  try (refine ev2 (qq encEn l hil) @encEn.eq_1 ?_; try exact True.intro)
  (repeat (with_reducible refine ob ?_))
  refine ⟨⟨i + 1, hil⟩, ?_, by dsimp only; omega⟩
  try (refine ev6 @Scon.eq_1 @stoO.eq_1 @mapO.eq_1 (qap encEn l hil) @encEn.eq_1 (qj (show i < 9223372036854775807 by omega)) ?_; try exact True.intro)
 ·have hil : i = l.length := by
   have : l.length ≤ i := by simpa using h
   omega
  subst hil
  try (refine ev1 @List.take_length.{0} ?_; try exact True.intro)
def vSum (l : List OpS) : Nat := (l.map fun o => o.val.length).sum
def sFew (l : List OpS) : Bool := l.all (fun o => decide (o.key.length ≤ 100) && decide (o.val.length ≤ 1000)) && decide (l.length ≤ 30) && decide (vSum l ≤ 3000)
theorem qri (a b : Int) : IntKind.i64.wrap (IntKind.i64.wrap a + b) = IntKind.i64.wrap (a + b) := by
 simp only [IntKind.wrap, IntKind.bits, IntKind.signed, if_true]
 simp
 omega
theorem qrj (l : List OpS) {i : Nat} (h : i < l.length) : vSum (l.take (i + 1)) = vSum (l.take i) + l[i].val.length := by
 unfold vSum
 rw [List.take_succ_eq_append_getElem h, List.map_append, List.sum_append]; simp
theorem qaq {α : Type} {f : α → Bool} {l : List α} {i : Nat} (h : (l.take i).all f = true) (hil : i < l.length) (hf : f l[i] = true) : (l.take (i + 1)).all f = true := by
 rw [List.take_succ_eq_append_getElem hil, List.all_append, h]; simp [hf]
theorem qvc {α : Type} {f : α → Bool} {l : List α} {i : Nat} (hil : i < l.length) (hf : f l[i] = false) : l.all f = false := by
 rw [List.all_eq_false]; exact ⟨l[i], List.getElem_mem hil, by simp [hf]⟩
theorem qwt (l : List OpS) : (l.all fun o => decide (o.key.length ≤ 100) && decide (o.val.length ≤ 1000)) = true → vSum l ≤ 1000 * l.length := by
 induction l with
 | nil => intro _; simp [vSum]
 | cons o l ih =>
  intro h
  simp only [List.all_cons, Bool.and_eq_true, decide_eq_true_eq] at h
  have := ih (by simpa using h.2)
  simp only [vSum, List.map_cons, List.sum_cons, List.length_cons] at this ⊢
  omega
def Sfew (l : List OpS) (i : { i : Nat // i ≤ l.length ∧ (l.take i).all (fun o => decide (o.key.length ≤ 100) && decide (o.val.length ≤ 1000)) = true }) : St :=
 ⟨[(0, true, .d (.sl 3 (l.map encOp))), (3, true, .d (.int .i64 (IntKind.i64.wrap (vSum (l.take i.val) : Nat)))), (4, true, .d (.int .i64 (i.val : Nat)))], [], [], 1⟩
theorem qvd (l : List OpS) (hl : l.length ≤ maxLen) : ACall Try.prog 25 [.d (.sl 3 (l.map encOp))] [] (.d (.bool (sFew l))) [] := by
 have hl : l.length ≤ 9223372036854775807 := hl
 refine F25.go ?_
 try (refine ev ?_; try exact True.intro)
 refine ql (Sfew l) (fun i => l.length - i.val) ⟨0, Nat.zero_le _, rfl⟩ ?_ (fun i => ?_)
 ·have w0 : IntKind.i64.wrap 0 = 0 := rfl
  try (refine ev6 @Sfew.eq_1 @List.take_zero.{0} @vSum.eq_1 @List.sum_nil.{0} @Int.ofNat_zero @w0 ?_; try exact True.intro)
 obtain ⟨i, hi, ha⟩ := i
 try (refine ev1 @Sfew.eq_1 ?_; try exact True.intro)
 (repeat (with_reducible refine ob ?_)); refine xk _ (fun h => ?_) (fun h => ?_)
 ·have hil : i < l.length := by simpa using h
  try (refine ev2 (qq encOp l hil) @encOp.eq_1 ?_; try exact True.intro)
  refine ⟨by omega, fun h => ⟨h, h, by omega⟩, fun h => by rw [h]; rfl, ?_⟩
  have hd1 : decide ((l[i].key.length : Int) > 100) = !decide (l[i].key.length ≤ 100) := by rw [← decide_not]; exact decide_eq_decide.2 (by omega)
  have hd2 : decide ((l[i].val.length : Int) > 1000) = !decide (l[i].val.length ≤ 1000) := by rw [← decide_not]; exact decide_eq_decide.2 (by omega)
  have hd : (decide ((l[i].key.length : Int) > 100) || decide ((l[i].val.length : Int) > 1000)) = !(decide (l[i].key.length ≤ 100) && decide (l[i].val.length ≤ 1000)) := by rw [hd1, hd2, Bool.not_and]
  refine xk _ (fun h => ?_) (fun h => ?_)
  ·rw [hd, Bool.not_eq_true'] at h
   have : sFew l = false := by rw [sFew, qvc hil h]; rfl
   try (refine ev1 @this ?_; try exact True.intro)
  ·rw [hd, Bool.not_eq_false'] at h
   try (refine ev2 (qq encOp l hil) @encOp.eq_1 ?_; try exact True.intro)
   (repeat (with_reducible refine ob ?_))
   refine ⟨⟨i + 1, hil, qaq ha hil h⟩, ?_, by dsimp only; omega⟩
   try (refine ev4 @Sfew.eq_1 (qrj l hil) @qri (qj (show i < 9223372036854775807 by omega)) ?_; try exact True.intro)
 ·have hil : i = l.length := by
   have : l.length ≤ i := by simpa using h
   omega
  subst hil
  rw [List.take_length] at ha
  have hv := qwt l ha
  try (refine ev3 @List.take_length.{0} @sFew.eq_1 @ha ?_; try exact True.intro)
  by_cases h30 : l.length ≤ 30
  ·rw [wrap_i64 (by omega) (by omega)]
   have e1 : decide ((l.length : Int) ≤ 30) = true := by simp; omega
   have e2 : decide (((vSum l : Nat) : Int) ≤ 3000) = decide (vSum l ≤ 3000) := decide_eq_decide.2 (by omega)
   simp only [e1, e2, h30, decide_true, Bool.true_and]
  ·have : decide ((l.length : Int) ≤ 30) = false := by simp; omega
   rw [this]
   simp [h30]
structure StepS where
 kind : Int
 ops : List OpS
 deriving DecidableEq, Inhabited
def encStep (x : StepS) : List D := [.int .i64 x.kind, .sl 3 (x.ops.map encOp)]
theorem qar (o : StepS) : D.noPtrL (encStep o) = true := by simp only [encStep, D.noPtrL, D.noPtr, zr, Bool.and_self]
theorem qln (l : List StepS) : D.noPtrR (l.map encStep) = true := qo qar l
attribute [go_sem] qar qln
def sFews (l : List StepS) : Bool := l.all (fun x => sFew x.ops) && decide (l.length ≤ 15)
def Sfews (l : List StepS) (i : { i : Nat // i ≤ l.length ∧ (l.take i).all (fun x => sFew x.ops) = true }) : St :=
 ⟨[(0, true, .d (.sl 2 (l.map encStep))), (3, true, .d (.int .i64 (i.val : Nat)))], [], [], 1⟩
theorem qgx (l : List StepS) (hl : l.length ≤ maxLen) (hx : ∀ x ∈ l, x.ops.length ≤ maxLen) : ACall Try.prog 11 [.d (.sl 2 (l.map encStep))] [] (.d (.bool (sFews l))) [] := by
 have hl : l.length ≤ 9223372036854775807 := hl
 refine F11.go ?_
 try (refine ev ?_; try exact True.intro)
 refine ql (Sfews l) (fun i => l.length - i.val) ⟨0, Nat.zero_le _, rfl⟩ ?_ (fun i => ?_)
 ·try (refine ev1 @Sfews.eq_1 ?_; try exact True.intro)
 obtain ⟨i, hi, ha⟩ := i
 try (refine ev1 @Sfews.eq_1 ?_; try exact True.intro)
 (repeat (with_reducible refine ob ?_)); refine xk _ (fun h => ?_) (fun h => ?_)
 ·have hil : i < l.length := by simpa using h
  try (refine ev2 (qq encStep l hil) @encStep.eq_1 ?_; try exact True.intro)
  (repeat (with_reducible refine ob ?_))
  (repeat (with_reducible refine ob ?_)); first | refine cl F25 (qvd l[i].ops (hx _ (List.getElem_mem hil))) ?_ | refine clF F25 (qvd l[i].ops (hx _ (List.getElem_mem hil))) (fun _ => by simp only [encOp, encEn, go_sem, Nat.reduceAdd, Nat.reduceMul, Nat.reduceSub, Nat.reduceEqDiff, Nat.reduceLT, Nat.reduceLeDiff, Nat.reduceBEq, reduceIte, reduceCtorEq, Int.reduceAdd, Int.reduceLT, Int.reduceLE, Int.reduceGT, Int.reduceGE, Int.reduceEq, Int.reduceNe, Int.reduceBEq, Int.reduceBNe, Int.reduceToNat, Int.reduceNeg]) ?_
  try (refine ev ?_; try exact True.intro)
  (repeat (with_reducible refine ob ?_)); refine xk _ (fun h => ?_) (fun h => ?_)
  ·have : sFews l = false := by rw [sFews, qvc hil (by simpa using h)]; rfl
   try (refine ev1 @this ?_; try exact True.intro)
  ·try (refine ev ?_; try exact True.intro)
   refine ⟨⟨i + 1, hil, qaq ha hil (by simpa using h)⟩, ?_, by dsimp only; omega⟩
   try (refine ev2 @Sfews.eq_1 (qj (show i < 9223372036854775807 by omega)) ?_; try exact True.intro)
 ·have hil : i = l.length := by
   have : l.length ≤ i := by simpa using h
   omega
  subst hil
  rw [List.take_length] at ha
  have : sFews l = decide ((l.length : Int) ≤ 15) := by rw [sFews, ha, Bool.true_and]; exact decide_eq_decide.2 (by omega)
  try (refine ev1 @this ?_; try exact True.intro)
theorem qmw {l : List OpS} (h : sFew l = true) : l.length ≤ 30 ∧ ∀ o ∈ l, o.key.length ≤ 100 ∧ o.val.length ≤ 1000 := by
 unfold sFew at h
 simp only [Bool.and_eq_true, List.all_eq_true, decide_eq_true_eq] at h
 exact ⟨h.1.2, fun o ho => h.1.1 o ho⟩
theorem qjf {l : List StepS} (h : sFews l = true) : l.length ≤ 15 ∧ ∀ x ∈ l, sFew x.ops = true := by
 unfold sFews at h
 simp only [Bool.and_eq_true, List.all_eq_true, decide_eq_true_eq] at h
 exact ⟨h.2, h.1⟩
noncomputable section
set_option maxRecDepth 100000
def s10r0 : List SOper := [
 ⟨some 0, .mov (.k (.d (.bool false))), none⟩]
def s10r1 : List SOper := [
 ⟨some 5, .call (.k (.d (.func (.func 12) [] []))) [], none⟩,
 ⟨some 1, .mov (.t 5), none⟩]
def s10r2 : List SOper := [
 ⟨some 6, .mov (.t 1), none⟩,
 ⟨some 7, .buildSlice false 1 1 [(.int .u8 0)] [(0, 1, (.k (.d (.int .u8 1))))], none⟩,
 ⟨some 8, .build [(.str []), (.bool false), .nilsl] [(0, 1, (.k (.d (.str [97])))), (2, 1, (.t 7))], none⟩,
 ⟨some 9, .buildSlice false 1 1 [(.int .u8 0)] [(0, 1, (.k (.d (.int .u8 2))))], none⟩,
 ⟨some 10, .build [(.str []), (.bool false), .nilsl] [(0, 1, (.k (.d (.str [98])))), (2, 1, (.t 9))], none⟩,
 ⟨some 11, .buildSlice false 3 2 [(.str []), (.bool false), .nilsl] [(0, 3, (.t 8)), (3, 3, (.t 10))], none⟩,
 ⟨some 12, .call (.k (.d (.func (.func 13) [] []))) [(.t 6), (.t 11)], none⟩,
 ⟨some 2, .mov (.t 12), none⟩]
def s10r3 : List SOper := [
 ⟨some 13, .mov (.t 1), none⟩,
 ⟨some 14, .build [(.str []), (.bool false), .nilsl] [(0, 1, (.k (.d (.str [97])))), (1, 1, (.k (.d (.bool true))))], none⟩,
 ⟨some 15, .buildSlice false 3 1 [(.str []), (.bool false), .nilsl] [(0, 3, (.t 14))], none⟩,
 ⟨some 16, .call (.k (.d (.func (.func 13) [] []))) [(.t 13), (.t 15)], none⟩,
 ⟨some 3, .mov (.t 16), none⟩]
def s10r4 : List SOper := [
 ⟨some 17, .mov (.t 1), none⟩,
 ⟨some 18, .call (.k (.d (.func (.func 36) [] []))) [(.t 17), (.k (.d (.str [])))], none⟩,
 ⟨some 4, .mov (.t 18), none⟩]
def s10r5 : List SOper := [
 ⟨some 19, .mov (.t 2), none⟩,
 ⟨some 20, .bin .eql (.t 19) (.k (.d (.int .i64 0))), none⟩,
 ⟨some 21, .mov (.t 20), none⟩,
 ⟨some 22, .mov (.t 3), some (21, true)⟩,
 ⟨some 23, .bin .eql (.t 22) (.k (.d (.int .i64 0))), some (21, true)⟩,
 ⟨some 24, .pick (.t 21) (.t 23) (.k (.d (.bool false))), none⟩,
 ⟨some 25, .mov (.t 24), none⟩,
 ⟨some 26, .mov (.t 4), some (25, true)⟩,
 ⟨some 27, .len (.t 26), some (25, true)⟩,
 ⟨some 28, .bin .eql (.t 27) (.k (.d (.int .i64 1))), some (25, true)⟩,
 ⟨some 29, .pick (.t 25) (.t 28) (.k (.d (.bool false))), none⟩,
 ⟨some 30, .mov (.t 29), none⟩,
 ⟨some 31, .mov (.t 4), some (30, true)⟩,
 ⟨some 32, .iaddr 2 (.t 31) (.k (.d (.int .i64 0))), some (30, true)⟩,
 ⟨some 33, .faddr 0 (.t 32), some (30, true)⟩,
 ⟨some 34, .load none (.t 33), some (30, true)⟩,
 ⟨some 35, .bin .eql (.t 34) (.k (.d (.str [98]))), some (30, true)⟩,
 ⟨some 36, .pick (.t 30) (.t 35) (.k (.d (.bool false))), none⟩,
 ⟨some 37, .mov (.t 36), none⟩,
 ⟨some 38, .mov (.t 4), some (37, true)⟩,
 ⟨some 39, .iaddr 2 (.t 38) (.k (.d (.int .i64 0))), some (37, true)⟩,
 ⟨some 40, .faddr 1 (.t 39), some (37, true)⟩,
 ⟨some 41, .load none (.t 40), some (37, true)⟩,
 ⟨some 42, .b2s (.t 41), some (37, true)⟩,
 ⟨some 43, .bin .eql (.t 42) (.k (.d (.str [2]))), some (37, true)⟩,
 ⟨some 44, .pick (.t 37) (.t 43) (.k (.d (.bool false))), none⟩,
 ⟨some 0, .mov (.t 44), none⟩]
def s10 : SCode := (.seq (.region s10r0 0 []) (.seq (.region s10r1 2 []) (.seq (.region s10r2 1 []) (.seq (.region s10r3 1 []) (.seq (.region s10r4 0 []) (.seq (.region s10r5 0 []) .ret))))))
theorem e10 : CodeIs s10.eq_1 := qc s10.eq_1
theorem xcb : RegIs s10r0.eq_1 := qa
theorem xcc : RegIs s10r1.eq_1 := qa
theorem xcd : RegIs s10r2.eq_1 := qa
theorem xce : RegIs s10r3.eq_1 := qa
theorem xcf : RegIs s10r4.eq_1 := qa
theorem xcg : RegIs s10r5.eq_1 := qa
attribute [go_sem] xcb xcc xcd xce xcf xcg e10
theorem F10 : FnIs Try.prog 10 Try.f10 [] news s10 [.tmp 0] 45 := xe follows Try.func10
end
def ops1 : List OpS := [⟨[97], false, [1]⟩, ⟨[98], false, [2]⟩]
def ops2 : List OpS := [⟨[97], true, []⟩]
def st1 : Sto := (sCommit newS ops1).1
def st2 : Sto := (sCommit st1 ops2).1
theorem c1 : (sCommit newS ops1).2 = 0 := by decide +kernel
theorem c2 : (sCommit st1 ops2).2 = 0 := by decide +kernel
theorem c3 : sList st2.m [] = [([98], [2])] := by decide +kernel
theorem qdn : ACall Try.prog 12 [] [] (.d (.ptr 1 0)) [mapO newS.m, stoO newS 0] := q02
theorem wl : ACall Try.prog 10 [] [] (.d (.bool true)) [] := by
 have s1 : st1.Ok 1 := ka (qa9 0) ops1
 have s2 : st2.Ok 2 := ka s1 ops2
 have k0 := qdn
 have k1 := kw (by decide) (by decide) c1
 have k2 := kw (s := st1) (by decide) (by have := s1.file; omega) c2
 have k3 := zc st2 [] 2 s2
 rw [c3] at k3
 change ACall _ _ _ _ _ [stoO st1 2, mapO newS.m, mapO st1.m] at k1
 change ACall _ _ _ _ _ [stoO st2 2, mapO st1.m, mapO st2.m] at k2
 have o1 : ops1.map encOp = [[.str [97], .bool false, .sl 1 [[.int .u8 1]]], [.str [98], .bool false, .sl 1 [[.int .u8 2]]]] := rfl
 have o2 : ops2.map encOp = [[.str [97], .bool true, .sl 1 []]] := rfl
 have o3 : [(([98], [2]) : En)].map encEn = [[.str [98], .sl 1 [[.int .u8 2]]]] := rfl
 rw [o1] at k1; rw [o2] at k2; rw [o3] at k3
 clear s1 s2 o1 o2 o3
 generalize newS = s0, st1 = s1, st2 = s2 at k0 k1 k2 k3
 simp only [stoO, mapO] at k0 k1 k2 k3
 refine F10.go ?_
 try (refine ev ?_; try exact True.intro)
 refine clO [0, 1] F12 k0 ?_
 try (refine ev ?_; try exact True.intro)
 refine clO [1, 0, 2] F13 k1 ?_
 try (refine ev ?_; try exact True.intro)
 refine clO [1, 2, 3] F13 k2 ?_
 try (refine ev ?_; try exact True.intro)
 refine clO [1, 3] F36 k3 ?_
 try (refine ev ?_; try exact True.intro)
 exact ⟨⟨[2], rfl⟩, by decide⟩
end Go.Proofs.Ytinnaedmdoengaa
namespace Go.Proofs.Ytinnaedmdoengaa
open Go.Abs
set_option linter.unusedSimpArgs false
set_option linter.unusedVariables false
noncomputable section
set_option maxRecDepth 100000
def s172r0 : List SOper := [
 ⟨some 2, .mov (.k (.d (.bool false))), none⟩]
def s172r1 : List SOper := [
 ⟨some 3, .mov (.t 0), none⟩,
 ⟨some 4, .bin .neq (.t 3) (.k (.d (.int .u8 0))), none⟩,
 ⟨some 2, .mov (.t 4), none⟩]
def s172 : SCode := (.seq (.region s172r0 0 []) (.seq (.region s172r1 0 []) .ret))
theorem xh1 : CodeIs s172.eq_1 := qc s172.eq_1
theorem q1j : RegIs s172r0.eq_1 := qa
theorem q1k : RegIs s172r1.eq_1 := qa
attribute [go_sem] q1j q1k xh1
theorem xg1 : FnIs Try.prog 172 Try.f172 [] news s172 [.tmp 2] 5 := xe follows Try.func172
def s173r0 : List SOper := [
 ⟨some 4, .mov (.k (.d (.int .i64 0))), none⟩]
def s173r1 : List SOper := [
 ⟨some 6, .mov (.t 0), none⟩,
 ⟨some 7, .len (.t 6), none⟩,
 ⟨some 8, .mov (.k (.d (.int .i64 0))), none⟩]
def s173r2 : List SOper := [
 ⟨some 9, .bin .lss (.t 8) (.t 7), none⟩]
def s173r3 : List SOper := [
 ⟨some 10, .mov (.t 8), none⟩,
 ⟨some 5, .mov (.t 10), none⟩]
def s173r4 : List SOper := [
 ⟨some 11, .mov (.t 1), none⟩,
 ⟨some 12, .mov (.t 0), none⟩,
 ⟨some 13, .mov (.t 5), none⟩,
 ⟨some 14, .iaddr 1 (.t 12) (.t 13), none⟩,
 ⟨some 15, .load none (.t 14), none⟩,
 ⟨some 16, .call (.t 11) [(.t 15)], none⟩]
def s173r5 : List SOper := [
 ⟨some 17, .mov (.t 5), none⟩,
 ⟨some 4, .mov (.t 17), none⟩]
def s173r6 : List SOper := [
 ⟨some 18, .bin .add (.t 8) (.k (.d (.int .i64 1))), none⟩,
 ⟨some 8, .mov (.t 18), none⟩]
def s173l7 : SCode := (.seq (.region s173r2 0 []) (.seq (.cond (.t 9) .skip (.exit 0)) (.seq (.block 1 (.seq (.region s173r3 0 []) (.seq (.region s173r4 0 []) (.cond (.t 16) (.seq (.region s173r5 0 []) .ret) .skip)))) (.region s173r6 0 []))))
theorem q1l : CodeIs s173l7.eq_1 := qc s173l7.eq_1
def s173r8 : List SOper := [
 ⟨some 4, .mov (.k (.d (.int .i64 (-1)))), none⟩]
def s173 : SCode := (.seq (.region s173r0 0 []) (.seq (.seq (.region s173r1 0 []) (.block 0 (.loop s173l7))) (.seq (.region s173r8 0 []) .ret)))
theorem xh2 : CodeIs s173.eq_1 := qc s173.eq_1
theorem q1m : RegIs s173r0.eq_1 := qa
theorem q1n : RegIs s173r1.eq_1 := qa
theorem q1o : RegIs s173r2.eq_1 := qa
theorem q1p : RegIs s173r3.eq_1 := qa
theorem q1q : RegIs s173r4.eq_1 := qa
theorem q1r : RegIs s173r5.eq_1 := qa
theorem q1s : RegIs s173r6.eq_1 := qa
theorem q1t : RegIs s173r8.eq_1 := qa
attribute [go_sem] q1m q1n q1o q1p q1q q1r q1s q1l q1t xh2
theorem xg2 : FnIs Try.prog 173 Try.f173 [] news s173 [.tmp 4] 19 := xe follows Try.func173
def s171r0 : List SOper := [
 ⟨some 4, .mov (.k (.d (.bool false))), none⟩]
def s171r1 : List SOper := [
 ⟨some 5, .mov (.t 0), none⟩,
 ⟨some 6, .mov (.t 1), none⟩,
 ⟨some 7, .call (.k (.d (.func (.func 173) [] []))) [(.t 5), (.t 6)], none⟩,
 ⟨some 8, .bin .geq (.t 7) (.k (.d (.int .i64 0))), none⟩,
 ⟨some 4, .mov (.t 8), none⟩]
def s171 : SCode := (.seq (.region s171r0 0 []) (.seq (.region s171r1 0 []) .ret))
theorem xh3 : CodeIs s171.eq_1 := qc s171.eq_1
theorem q1u : RegIs s171r0.eq_1 := qa
theorem q1v : RegIs s171r1.eq_1 := qa
attribute [go_sem] q1u q1v xh3
theorem xg3 : FnIs Try.prog 171 Try.f171 [] news s171 [.tmp 4] 9 := xe follows Try.func171
def s167r0 : List SOper := [
 ⟨some 4, .mov (.k (.d (.bool false))), none⟩]
def s167r1 : List SOper := [
 ⟨some 7, .mov (.t 0), none⟩,
 ⟨some 8, .iaddr 1 (.t 7) (.k (.d (.int .i64 0))), none⟩,
 ⟨some 9, .load none (.t 8), none⟩,
 ⟨some 10, .mov (.t 0), none⟩,
 ⟨some 11, .iaddr 1 (.t 10) (.k (.d (.int .i64 1))), none⟩,
 ⟨some 12, .load none (.t 11), none⟩,
 ⟨some 13, .conv .i64 (.t 12), none⟩,
 ⟨some 5, .mov (.t 9), none⟩,
 ⟨some 6, .mov (.t 13), none⟩]
def s167r2 : List SOper := [
 ⟨some 15, .mov (.t 5), none⟩,
 ⟨some 16, .bin .neq (.t 15) (.k (.d (.int .u8 1))), none⟩,
 ⟨some 17, .mov (.t 16), none⟩,
 ⟨some 18, .mov (.t 5), some (17, true)⟩,
 ⟨some 19, .bin .neq (.t 18) (.k (.d (.int .u8 2))), some (17, true)⟩,
 ⟨some 20, .pick (.t 17) (.t 19) (.k (.d (.bool false))), none⟩,
 ⟨some 21, .mov (.t 20), none⟩,
 ⟨some 22, .mov (.t 6), some (21, false)⟩,
 ⟨some 23, .bin .gtr (.t 22) (.k (.d (.int .i64 22))), some (21, false)⟩,
 ⟨some 24, .pick (.t 21) (.k (.d (.bool true))) (.t 23), none⟩,
 ⟨some 25, .mov (.t 24), none⟩,
 ⟨some 26, .mov (.t 1), some (25, false)⟩,
 ⟨some 27, .mov (.t 6), some (25, false)⟩,
 ⟨some 28, .bin .add (.t 26) (.t 27), some (25, false)⟩,
 ⟨some 29, .bin .gtr (.t 28) (.k (.d (.int .i64 2000))), some (25, false)⟩,
 ⟨some 30, .pick (.t 25) (.k (.d (.bool true))) (.t 29), none⟩,
 ⟨some 14, .mov (.t 30), none⟩]
def s167r3 : List SOper := [
 ⟨some 4, .mov (.k (.d (.bool false))), none⟩]
def s167r4 : List SOper := [
 ⟨some 32, .mov (.t 5), none⟩,
 ⟨some 33, .bin .eql (.t 32) (.k (.d (.int .u8 1))), none⟩,
 ⟨some 34, .mov (.t 33), none⟩,
 ⟨some 35, .mov (.t 6), some (34, true)⟩,
 ⟨some 36, .bin .neq (.t 35) (.k (.d (.int .i64 22))), some (34, true)⟩,
 ⟨some 37, .pick (.t 34) (.t 36) (.k (.d (.bool false))), none⟩,
 ⟨some 38, .mov (.t 37), none⟩,
 ⟨some 39, .mov (.t 5), some (38, false)⟩,
 ⟨some 40, .bin .eql (.t 39) (.k (.d (.int .u8 2))), some (38, false)⟩,
 ⟨some 41, .mov (.t 40), some (38, false)⟩,
 ⟨some 42, .mov (.t 6), some (41, true)⟩,
 ⟨some 43, .bin .eql (.t 42) (.k (.d (.int .i64 0))), some (41, true)⟩,
 ⟨some 44, .pick (.t 41) (.t 43) (.k (.d (.bool false))), some (38, false)⟩,
 ⟨some 45, .mov (.t 44), some (38, false)⟩,
 ⟨some 46, .mov (.t 1), some (45, true)⟩,
 ⟨some 47, .bin .gtr (.t 46) (.k (.d (.int .i64 0))), some (45, true)⟩,
 ⟨some 48, .pick (.t 45) (.t 47) (.k (.d (.bool false))), some (38, false)⟩,
 ⟨some 49, .pick (.t 38) (.k (.d (.bool true))) (.t 48), none⟩,
 ⟨some 31, .mov (.t 49), none⟩]
def s167r5 : List SOper := [
 ⟨some 4, .mov (.k (.d (.bool false))), none⟩]
def s167r6 : List SOper := [
 ⟨some 50, .mov (.t 0), none⟩,
 ⟨some 51, .mov (.t 6), none⟩,
 ⟨some 52, .bin .add (.k (.d (.int .i64 2))) (.t 51), none⟩,
 ⟨some 53, .slice 1 (.t 50) (some (.t 52)) none none, none⟩,
 ⟨some 54, .call (.k (.d (.func (.func 171) [] []))) [(.t 53), (.k (.d (.func (.func 172) [] [])))], none⟩,
 ⟨some 55, .not (.t 54), none⟩,
 ⟨some 4, .mov (.t 55), none⟩]
def s167 : SCode := (.seq (.region s167r0 0 []) (.seq (.region s167r1 0 []) (.seq (.block 0 (.seq (.region s167r2 0 []) (.cond (.t 14) (.seq (.region s167r3 0 []) .ret) (.seq (.region s167r4 0 []) (.cond (.t 31) (.seq (.region s167r5 0 []) .ret) .skip))))) (.seq (.region s167r6 0 []) .ret))))
theorem xh4 : CodeIs s167.eq_1 := qc s167.eq_1
theorem q1w : RegIs s167r0.eq_1 := qa
theorem q1x : RegIs s167r1.eq_1 := qa
theorem q1y : RegIs s167r2.eq_1 := qa
theorem q1z : RegIs s167r3.eq_1 := qa
theorem q11 : RegIs s167r4.eq_1 := qa
theorem q12 : RegIs s167r5.eq_1 := qa
theorem q13 : RegIs s167r6.eq_1 := qa
attribute [go_sem] q1w q1x q1y q1z q11 q12 q13 xh4
theorem xg4 : FnIs Try.prog 167 Try.f167 [] news s167 [.tmp 4] 56 := xe follows Try.func167
def s64r0 : List SOper := [
 ⟨some 4, .mov (.k (.d (.bool false))), none⟩]
def s64r1 : List SOper := [
 ⟨some 5, .mov (.t 0), none⟩,
 ⟨some 6, .b2s (.t 5), none⟩,
 ⟨some 7, .mov (.t 1), none⟩,
 ⟨some 8, .b2s (.t 7), none⟩,
 ⟨some 9, .bin .eql (.t 6) (.t 8), none⟩,
 ⟨some 4, .mov (.t 9), none⟩]
def s64 : SCode := (.seq (.region s64r0 0 []) (.seq (.region s64r1 0 []) .ret))
theorem e64 : CodeIs s64.eq_1 := qc s64.eq_1
theorem xch : RegIs s64r0.eq_1 := qa
theorem xci : RegIs s64r1.eq_1 := qa
attribute [go_sem] xch xci e64
theorem F64 : FnIs Try.prog 64 Try.f64 [] news s64 [.tmp 4] 10 := xe follows Try.func64
def s152r0 : List SOper := [
 ⟨some 2, .mov (.k (.d (.int .i64 0))), none⟩]
def s152r1 : List SOper := [
 ⟨some 3, .mov (.t 0), none⟩,
 ⟨some 4, .len (.t 3), none⟩,
 ⟨some 5, .bin .eql (.t 4) (.k (.d (.int .i64 0))), none⟩]
def s152r2 : List SOper := [
 ⟨some 2, .mov (.k (.d (.int .i64 0))), none⟩]
def s152r3 : List SOper := [
 ⟨some 6, .mov (.t 0), none⟩,
 ⟨some 7, .mov (.t 0), none⟩,
 ⟨some 8, .len (.t 7), none⟩,
 ⟨some 9, .bin .sub (.t 8) (.k (.d (.int .i64 1))), none⟩,
 ⟨some 10, .iaddr 1 (.t 6) (.t 9), none⟩,
 ⟨some 11, .load none (.t 10), none⟩,
 ⟨some 2, .mov (.t 11), none⟩]
def s152 : SCode := (.seq (.region s152r0 0 []) (.seq (.seq (.region s152r1 0 []) (.cond (.t 5) (.seq (.region s152r2 0 []) .ret) .skip)) (.seq (.region s152r3 0 []) .ret)))
theorem xh5 : CodeIs s152.eq_1 := qc s152.eq_1
theorem q14 : RegIs s152r0.eq_1 := qa
theorem q15 : RegIs s152r1.eq_1 := qa
theorem q16 : RegIs s152r2.eq_1 := qa
theorem q17 : RegIs s152r3.eq_1 := qa
attribute [go_sem] q14 q15 q16 q17 xh5
theorem xcj : FnIs Try.prog 152 Try.f152 [] news s152 [.tmp 2] 12 := xe follows Try.func152
end
theorem qos (c : UInt8) : ACall Try.prog 172 [.d (.int .u8 (c.toNat : Nat))] [] (.d (.bool (!(c == 0)))) [] := by
 have e : (((c.toNat : Nat) : Int) != 0) = !(c == 0) := by
  show (!(((c.toNat : Nat) : Int) == 0)) = !(c == 0)
  congr 1
  rw [Bool.eq_iff_iff]
  simp only [beq_iff_eq]
  constructor
  ·intro h
   apply UInt8.toNat_inj.1
   show c.toNat = 0
   omega
  ·rintro rfl; rfl
 refine xg1.go ?_
 try (refine ev1 @e ?_; try exact True.intro)
def SidxB (k : FuncId) (l : List UInt8) (f : UInt8 → Bool) (i : { i : Nat // (l.take i).any f = false }) : St :=
 ⟨[(0, true, .d (.sl 1 (byteRows l))), (1, true, .d (.func (.func k) [] [])), (7, true, .d (.int .i64 l.length)), (8, true, .d (.int .i64 (i.val : Nat)))], [], [], 1⟩
theorem qrk {k : FuncId} {f : UInt8 → Bool} (hb : (Try.prog.funcs[k]?).any (fun fn => fn.body.isSome && !(fn.name == "runtime.NumGoroutine")) = true)
  (hf : ∀ v : UInt8, ACall Try.prog k [.d (.int .u8 (v.toNat : Nat))] [] (.d (.bool (f v))) []) (l : List UInt8) (hl : l.length ≤ maxLen) :
  ACall Try.prog 173 [.d (.sl 1 (byteRows l)), .d (.func (.func k) [] [])] [] (.d (.int .i64 (idx f l))) [] := by
 refine xg2.go ?_
 try (refine ev ?_; try exact True.intro)
 refine ql (SidxB k l f) (fun i => l.length - i.val) ⟨0, rfl⟩ ?_ (fun i => ?_)
 ·try (refine ev1 @SidxB.eq_1 ?_; try exact True.intro)
 obtain ⟨i, hi⟩ := i
 try (refine ev1 @SidxB.eq_1 ?_; try exact True.intro)
 (repeat (with_reducible refine ob ?_)); refine xk _ (fun h => ?_) (fun h => ?_)
 ·have hil : i < l.length := by simpa using h
  try (refine ev1 (qr l hil) ?_; try exact True.intro)
  (repeat (with_reducible refine ob ?_))
  refine qm (hf l[i]) hb (fun h => h) (fun _ => ⟨qb, trivial⟩) rfl rfl rfl ?_
  try (refine ev ?_; try exact True.intro)
  (repeat (with_reducible refine ob ?_)); refine xk _ (fun h => ?_) (fun h => ?_)
  ·try (refine ev1 (qaf hi hil h) ?_; try exact True.intro)
  ·try (refine ev ?_; try exact True.intro)
   refine ⟨⟨i + 1, zq hi hil (by simpa using h)⟩, ?_, by dsimp only; omega⟩
   try (refine ev2 @SidxB.eq_1 (qj (show i < 9223372036854775807 by unfold maxLen at hl; omega)) ?_; try exact True.intro)
 ·have hil : l.length ≤ i := by simpa using h
  try (refine ev1 (qae hi hil) ?_; try exact True.intro)
theorem qjg {k : FuncId} {f : UInt8 → Bool} (hb : (Try.prog.funcs[k]?).any (fun fn => fn.body.isSome && !(fn.name == "runtime.NumGoroutine")) = true)
  (hf : ∀ v : UInt8, ACall Try.prog k [.d (.int .u8 (v.toNat : Nat))] [] (.d (.bool (f v))) []) (l : List UInt8) (hl : l.length ≤ maxLen) :
  ACall Try.prog 171 [.d (.sl 1 (byteRows l)), .d (.func (.func k) [] [])] [] (.d (.bool (l.any f))) [] := by
 refine xg3.go ?_
 try (refine ev ?_; try exact True.intro)
 (repeat (with_reducible refine ob ?_)); refine cl xg2 (qrk hb hf l hl) ?_
 try (refine ev1 @qit ?_; try exact True.intro)
theorem qjh : (Try.prog.funcs[172]?).any (fun fn => fn.body.isSome && !(fn.name == "runtime.NumGoroutine")) = true := xg1.body
theorem qrl {h : List UInt8} (hl : 0 < h.length) : kindOf h = h[0].toNat := by simp [kindOf, List.getD_eq_getElem?_getD, hl]
theorem qve {h : List UInt8} (hl : 1 < h.length) : numB h = h[1].toNat := by simp [numB, List.getD_eq_getElem?_getD, hl]
theorem q18 (l : List UInt8) : l.any (fun c => !(c == 0)) = !l.all (fun c => c == 0) := by induction l <;> simp_all
theorem qji (h : List UInt8) (n : Nat) (hl : h.length = 24) (hn : n ≤ 100000) : ACall Try.prog 167 [.d (.sl 1 (byteRows h)), .d (.int .i64 n)] [] (.d (.bool (cProper h n))) [] := by
 have h0 : 0 < h.length := by omega
 have h1 : 1 < h.length := by omega
 have hk := qrl h0
 have hm := qve h1
 have l0 := kj h[0]
 have l1 := kj h[1]
 refine xg4.go ?_
 try (refine ev3 (qr h h0) (qr h h1) (qu (n := (h[1].toNat : Int)) (by unfold I64; omega)) ?_; try exact True.intro)
 rw [← hk, ← hm]
 rw [← hk] at l0
 rw [← hm] at l1
 (repeat (with_reducible refine ob ?_))
 generalize hkk : kindOf h = k at *
 generalize hmm : numB h = m at *
 have w1 : IntKind.i64.wrap ((n : Int) + (m : Int)) = ((n + m : Nat) : Int) := by rw [qu (by unfold I64; omega)]; omega
 have w2 : IntKind.i64.wrap (2 + (m : Int)) = ((2 + m : Nat) : Int) := by rw [qu (by unfold I64; omega)]; omega
 try (refine ev2 @w1 @w2 ?_; try exact True.intro)
 refine xk _ (fun hc => ?_) (fun hc => ?_)
 ·have hb : cProper h n = false := by
   rw [Bool.eq_false_iff]; intro hp
   obtain ⟨a1, a2, a3, a4, a5, a6⟩ := jb.1 hp
   rw [hkk] at a1; rw [hmm] at a2 a3
   simp only [Bool.or_eq_true, Bool.and_eq_true, decide_eq_true_eq, bne_iff_ne] at hc; omega
  try (refine ev1 @hb ?_; try exact True.intro)
 have hc1 : (k = 1 ∨ k = 2) ∧ m ≤ 22 ∧ n + m ≤ 2000 := by
  simp only [Bool.or_eq_false_iff, Bool.and_eq_false_iff, decide_eq_false_iff_not, bne_eq_false_iff_eq] at hc; omega
 try (refine ev ?_; try exact True.intro)
 (repeat (with_reducible refine ob ?_))
 refine xk _ (fun hd => ?_) (fun hd => ?_)
 ·have hb : cProper h n = false := by
   rw [Bool.eq_false_iff]; intro hp
   obtain ⟨a1, a2, a3, a4, a5, a6⟩ := jb.1 hp
   rw [hkk] at a4 a5; rw [hmm] at a4 a5
   simp only [Bool.or_eq_true, Bool.and_eq_true, decide_eq_true_eq, bne_iff_ne, beq_iff_eq] at hd; omega
  try (refine ev1 @hb ?_; try exact True.intro)
 have hb : cProper h n = (h.drop (2 + m)).all (fun c => c == 0) := by
  rw [Bool.eq_iff_iff, jb, hkk, hmm]
  simp only [Bool.or_eq_false_iff, Bool.and_eq_false_iff, decide_eq_false_iff_not, bne_eq_false_iff_eq, beq_eq_false_iff_ne] at hd
  exact ⟨fun x => x.2.2.2.2.2, fun x => ⟨hc1.1, hc1.2.1, hc1.2.2, by omega, by omega, x⟩⟩
 have hx : ((byteRows h).drop (2 + m)).take (h.length - (2 + m)) = byteRows (h.drop (2 + m)) := by rw [xq, qx, List.take_of_length_le (by rw [List.length_drop]; omega)]
 have e2 : (2 + (m : Int)).toNat = 2 + m := by omega
 try (refine ev3 @w2 @e2 @hx ?_; try exact True.intro)
 refine ⟨by omega, ?_⟩
 (repeat (with_reducible refine ob ?_)); refine cl xg3 (qjg qjh qos (h.drop (2 + m)) (by rw [List.length_drop]; unfold maxLen; omega)) ?_
 try (refine ev2 @q18 @hb ?_; try exact True.intro)
theorem qrm (a b : List UInt8) : ACall Try.prog 64 [.d (.ref 0 0 1 a.length), .d (.sl 1 (byteRows b))] [.row ((a.map byteD).map .d)] (.d (.bool (a == b))) [.row ((a.map byteD).map .d)] := by
 refine F64.go ?_
 try (refine ev ?_; try exact True.intro)
 rw [Nat.mul_one, qa8 (s := a) rfl rfl, List.take_of_length_le (by simp)]
 exact ⟨⟨⟨Nat.le_refl _, yj a⟩, a, rfl⟩, by rw [wy]⟩
theorem q7h (a b : List UInt8) : ACall Try.prog 64 [.d (.sl 1 (byteRows a)), .d (.sl 1 (byteRows b))] [] (.d (.bool (a == b))) [] := by
 refine F64.go ?_
 try (refine ev ?_; try exact True.intro)
def endRows (l : List Nat) : List (List D) := l.map fun n => [.int .i64 (n : Nat)]
theorem qrn (l : List Nat) (hl : l.length ≤ 1000000000) : ACall Try.prog 152 [.d (.sl 1 (endRows l))] [] (.d (.int .i64 (l.getLastD 0 : Nat))) [] := by
 refine xcj.go ?_
 try (refine ev ?_; try exact True.intro)
 have hel : (endRows l).length = l.length := by simp [endRows]
 refine xk _ (fun hc => ?_) (fun hc => ?_)
 ·have : l = [] := by simpa [hel] using hc
  subst this
  try (refine ev2 @List.getLastD_nil.{0} @Int.ofNat_zero ?_; try exact True.intro)
 ·have hne : 0 < l.length := by simp only [hel, beq_eq_false_iff_ne] at hc; omega
  have e1 : IntKind.i64.wrap (((endRows l).length : Int) - 1) = ((l.length - 1 : Nat) : Int) := by rw [hel, qu (by unfold I64; omega)]; omega
  have e2 : (endRows l).getD (l.length - 1) [] = [.int .i64 (l.getLastD 0 : Nat)] := by
   rw [endRows, qq (fun n : Nat => [D.int .i64 (n : Int)]) l (by omega) [], List.getLastD_eq_getLast?, List.getLast?_eq_getElem?, List.getElem?_eq_getElem (by omega)]
   rfl
  try (refine ev3 @e1 @Int.toNat_natCast @e2 ?_; try exact True.intro)
  rw [hel]
  omega
end Go.Proofs.Ytinnaedmdoengaa
namespace Go.Proofs.Ytinnaedmdoengaa
open Go.Abs
set_option linter.unusedSimpArgs false
set_option linter.unusedVariables false
noncomputable section
set_option maxRecDepth 100000
def s151r0 : List SOper := [
 ⟨some 2, .mov (.k (.d .nilsl)), none⟩,
 ⟨some 3, .mov (.k (.d .nilsl)), none⟩,
 ⟨some 4, .mov (.k (.d (.int .i64 0))), none⟩]
def s151r1 : List SOper := [
 ⟨some 5, .mov (.k (.d (.int .u64 14695981039346656037))), none⟩]
def s151r2 : List SOper := [
 ⟨some 6, .mov (.k (.d .nilsl)), none⟩]
def s151r3 : List SOper := [
 ⟨some 7, .mov (.k (.d (.int .i64 0))), none⟩]
def s151r4 : List SOper := [
 ⟨some 11, .mov (.t 7), none⟩,
 ⟨some 12, .bin .add (.t 11) (.k (.d (.int .i64 32))), none⟩,
 ⟨some 13, .mov (.t 0), none⟩,
 ⟨some 14, .len (.t 13), none⟩,
 ⟨some 15, .bin .leq (.t 12) (.t 14), none⟩]
def s151r5 : List SOper := [
 ⟨some 16, .mov (.t 0), none⟩,
 ⟨some 17, .mov (.t 7), none⟩,
 ⟨some 18, .mov (.t 7), none⟩,
 ⟨some 19, .bin .add (.t 18) (.k (.d (.int .i64 24))), none⟩,
 ⟨some 20, .slice 1 (.t 16) (some (.t 17)) (some (.t 19)) none, none⟩,
 ⟨some 8, .mov (.t 20), none⟩]
def s151r6 : List SOper := [
 ⟨some 22, .mov (.t 5), none⟩,
 ⟨some 23, .mov (.t 8), none⟩,
 ⟨some 24, .call (.k (.d (.func (.func 94) [] []))) [(.t 22), (.t 23)], none⟩,
 ⟨some 21, .mov (.t 24), none⟩,
 ⟨some 25, .extract 0 (.t 21), none⟩,
 ⟨some 26, .extract 1 (.t 21), none⟩,
 ⟨some 10, .alloc 1 [(.d (.int .u8 0)), (.d (.int .u8 0)), (.d (.int .u8 0)), (.d (.int .u8 0)), (.d (.int .u8 0)), (.d (.int .u8 0)), (.d (.int .u8 0)), (.d (.int .u8 0))], none⟩,
 ⟨some 9, .mov (.t 25), none⟩,
 ⟨none, .store (some 8) (.t 10) (.t 26), none⟩]
def s151r7 : List SOper := [
 ⟨some 27, .sliceA 8 1 (.t 10) none none none, none⟩,
 ⟨some 28, .mov (.t 0), none⟩,
 ⟨some 29, .mov (.t 7), none⟩,
 ⟨some 30, .bin .add (.t 29) (.k (.d (.int .i64 24))), none⟩,
 ⟨some 31, .mov (.t 7), none⟩,
 ⟨some 32, .bin .add (.t 31) (.k (.d (.int .i64 32))), none⟩,
 ⟨some 33, .slice 1 (.t 28) (some (.t 30)) (some (.t 32)) none, none⟩,
 ⟨some 34, .call (.k (.d (.func (.func 64) [] []))) [(.t 27), (.t 33)], none⟩,
 ⟨some 35, .not (.t 34), none⟩]
def s151r8 : List SOper := [
 ⟨some 36, .mov (.t 2), none⟩,
 ⟨some 37, .mov (.t 3), none⟩,
 ⟨some 2, .mov (.t 36), none⟩,
 ⟨some 3, .mov (.t 37), none⟩,
 ⟨some 4, .mov (.k (.d (.int .i64 5))), none⟩]
def s151r9 : List SOper := [
 ⟨some 38, .mov (.t 8), none⟩,
 ⟨some 39, .mov (.t 6), none⟩,
 ⟨some 40, .len (.t 39), none⟩,
 ⟨some 41, .call (.k (.d (.func (.func 167) [] []))) [(.t 38), (.t 40)], none⟩,
 ⟨some 42, .not (.t 41), none⟩]
def s151r10 : List SOper := [
 ⟨some 43, .mov (.t 2), none⟩,
 ⟨some 44, .mov (.t 3), none⟩,
 ⟨some 2, .mov (.t 43), none⟩,
 ⟨some 3, .mov (.t 44), none⟩,
 ⟨some 4, .mov (.k (.d (.int .i64 4))), none⟩]
def s151r11 : List SOper := [
 ⟨some 45, .mov (.t 6), none⟩,
 ⟨some 46, .mov (.t 8), none⟩,
 ⟨some 47, .mov (.t 8), none⟩,
 ⟨some 48, .iaddr 1 (.t 47) (.k (.d (.int .i64 1))), none⟩,
 ⟨some 49, .load none (.t 48), none⟩,
 ⟨some 50, .conv .i64 (.t 49), none⟩,
 ⟨some 51, .bin .add (.k (.d (.int .i64 2))) (.t 50), none⟩,
 ⟨some 52, .slice 1 (.t 46) (some (.k (.d (.int .i64 2)))) (some (.t 51)) none, none⟩,
 ⟨some 53, .append false 1 1 (.t 45) (.t 52), none⟩,
 ⟨some 6, .mov (.t 53), none⟩]
def s151r12 : List SOper := [
 ⟨some 54, .mov (.t 7), none⟩,
 ⟨some 55, .bin .add (.t 54) (.k (.d (.int .i64 32))), none⟩,
 ⟨some 56, .mov (.t 9), none⟩,
 ⟨some 7, .mov (.t 55), none⟩,
 ⟨some 5, .mov (.t 56), none⟩]
def s151r13 : List SOper := [
 ⟨some 57, .mov (.t 8), none⟩,
 ⟨some 58, .iaddr 1 (.t 57) (.k (.d (.int .i64 0))), none⟩,
 ⟨some 59, .load none (.t 58), none⟩,
 ⟨some 60, .bin .eql (.t 59) (.k (.d (.int .u8 2))), none⟩]
def s151r14 : List SOper := [
 ⟨some 61, .mov (.t 2), none⟩,
 ⟨some 62, .buildSlice false 1 0 [(.int .u8 0)] [], none⟩,
 ⟨some 63, .mov (.t 6), none⟩,
 ⟨some 64, .append false 1 1 (.t 62) (.t 63), none⟩,
 ⟨some 65, .buildSlice false 1 1 [.nilsl] [(0, 1, (.t 64))], none⟩,
 ⟨some 66, .append false 1 24 (.t 61) (.t 65), none⟩,
 ⟨some 67, .mov (.t 3), none⟩,
 ⟨some 68, .mov (.t 7), none⟩,
 ⟨some 69, .buildSlice false 1 1 [(.int .i64 0)] [(0, 1, (.t 68))], none⟩,
 ⟨some 70, .append false 1 8 (.t 67) (.t 69), none⟩,
 ⟨some 2, .mov (.t 66), none⟩,
 ⟨some 3, .mov (.t 70), none⟩,
 ⟨some 6, .mov (.k (.d .nilsl)), none⟩]
def s151l15 : SCode := (.seq (.seq (.region s151r4 0 []) (.cond (.t 15) .skip (.exit 0))) (.block 1 (.seq (.region s151r5 0 []) (.seq (.region s151r6 1 []) (.seq (.seq (.region s151r7 0 []) (.cond (.t 35) (.seq (.region s151r8 0 []) .ret) .skip)) (.seq (.seq (.region s151r9 0 []) (.cond (.t 42) (.seq (.region s151r10 0 []) .ret) .skip)) (.seq (.region s151r11 0 []) (.seq (.region s151r12 0 []) (.seq (.region s151r13 0 []) (.cond (.t 60) (.region s151r14 0 []) .skip))))))))))
theorem qwu : CodeIs s151l15.eq_1 := qc s151l15.eq_1
def s151r16 : List SOper := [
 ⟨some 71, .mov (.t 3), none⟩,
 ⟨some 72, .call (.k (.d (.func (.func 152) [] []))) [(.t 71)], none⟩,
 ⟨some 73, .mov (.t 0), none⟩,
 ⟨some 74, .len (.t 73), none⟩,
 ⟨some 75, .bin .neq (.t 72) (.t 74), none⟩]
def s151r17 : List SOper := [
 ⟨some 76, .mov (.t 2), none⟩,
 ⟨some 77, .mov (.t 3), none⟩,
 ⟨some 2, .mov (.t 76), none⟩,
 ⟨some 3, .mov (.t 77), none⟩,
 ⟨some 4, .mov (.k (.d (.int .i64 4))), none⟩]
def s151r18 : List SOper := [
 ⟨some 78, .mov (.t 2), none⟩,
 ⟨some 79, .mov (.t 3), none⟩,
 ⟨some 2, .mov (.t 78), none⟩,
 ⟨some 3, .mov (.t 79), none⟩,
 ⟨some 4, .mov (.k (.d (.int .i64 0))), none⟩]
def s151 : SCode := (.seq (.region s151r0 0 []) (.seq (.region s151r1 0 []) (.seq (.region s151r2 0 []) (.seq (.region s151r3 0 []) (.seq (.block 0 (.loop s151l15)) (.seq (.seq (.region s151r16 0 []) (.cond (.t 75) (.seq (.region s151r17 0 []) .ret) .skip)) (.seq (.region s151r18 0 []) .ret)))))))
theorem xh6 : CodeIs s151.eq_1 := qc s151.eq_1
theorem q19 : RegIs s151r0.eq_1 := qa
theorem q2a : RegIs s151r1.eq_1 := qa
theorem q2b : RegIs s151r2.eq_1 := qa
theorem q2c : RegIs s151r3.eq_1 := qa
theorem q2d : RegIs s151r4.eq_1 := qa
theorem q2e : RegIs s151r5.eq_1 := qa
theorem q2f : RegIs s151r6.eq_1 := qa
theorem q2g : RegIs s151r7.eq_1 := qa
theorem q2h : RegIs s151r8.eq_1 := qa
theorem q2i : RegIs s151r9.eq_1 := qa
theorem qwv : RegIs s151r10.eq_1 := qa
theorem qww : RegIs s151r11.eq_1 := qa
theorem qwx : RegIs s151r12.eq_1 := qa
theorem qwy : RegIs s151r13.eq_1 := qa
theorem qwz : RegIs s151r14.eq_1 := qa
theorem qw0 : RegIs s151r16.eq_1 := qa
theorem qw1 : RegIs s151r17.eq_1 := qa
theorem qw2 : RegIs s151r18.eq_1 := qa
attribute [go_sem] q19 q2a q2b q2c q2d q2e q2f q2g q2h q2i qwv qww qwx qwy qwz qwu qw0 qw1 qw2 xh6
theorem xg5 : FnIs Try.prog 151 Try.f151 [] news s151 [.tmp 2, .tmp 3, .tmp 4] 80 := xe follows Try.func151
def s121r0 : List SOper := [
 ⟨some 2, .mov (.k (.d .nilsl)), none⟩,
 ⟨some 3, .mov (.k (.d (.int .i64 0))), none⟩,
 ⟨some 4, .mov (.k (.d (.int .i64 0))), none⟩]
def s121r1 : List SOper := [
 ⟨some 7, .mov (.t 0), none⟩,
 ⟨some 8, .call (.k (.d (.func (.func 151) [] []))) [(.t 7)], none⟩,
 ⟨some 6, .mov (.t 8), none⟩,
 ⟨some 9, .extract 0 (.t 6), none⟩,
 ⟨some 10, .extract 1 (.t 6), none⟩,
 ⟨some 11, .extract 2 (.t 6), none⟩,
 ⟨some 2, .mov (.t 9), none⟩,
 ⟨some 5, .mov (.t 10), none⟩,
 ⟨some 4, .mov (.t 11), none⟩]
def s121r2 : List SOper := [
 ⟨some 12, .mov (.t 2), none⟩,
 ⟨some 13, .mov (.t 5), none⟩,
 ⟨some 14, .call (.k (.d (.func (.func 152) [] []))) [(.t 13)], none⟩,
 ⟨some 15, .mov (.t 4), none⟩,
 ⟨some 2, .mov (.t 12), none⟩,
 ⟨some 3, .mov (.t 14), none⟩,
 ⟨some 4, .mov (.t 15), none⟩]
def s121 : SCode := (.seq (.region s121r0 0 []) (.seq (.region s121r1 0 []) (.seq (.region s121r2 0 []) .ret)))
theorem xh7 : CodeIs s121.eq_1 := qc s121.eq_1
theorem q2j : RegIs s121r0.eq_1 := qa
theorem q2k : RegIs s121r1.eq_1 := qa
theorem q2l : RegIs s121r2.eq_1 := qa
attribute [go_sem] q2j q2k q2l xh7
theorem xg6 : FnIs Try.prog 121 Try.f121 [] news s121 [.tmp 2, .tmp 3, .tmp 4] 16 := xe follows Try.func121
def s90r0 : List SOper := [
 ⟨some 2, .alloc 1 [(.d .nilsl), (.d (.int .i64 0))], none⟩,
 ⟨some 3, .mov (.k (.d .nilsl)), none⟩]
def s90r1 : List SOper := [
 ⟨some 8, .mov (.t 0), none⟩,
 ⟨some 9, .call (.k (.d (.func (.func 121) [] []))) [(.t 8)], none⟩,
 ⟨some 7, .mov (.t 9), none⟩,
 ⟨some 10, .extract 0 (.t 7), none⟩,
 ⟨some 11, .extract 1 (.t 7), none⟩,
 ⟨some 12, .extract 2 (.t 7), none⟩,
 ⟨some 4, .mov (.t 10), none⟩,
 ⟨some 5, .mov (.t 11), none⟩,
 ⟨some 6, .mov (.t 12), none⟩]
def s90r2 : List SOper := [
 ⟨some 13, .mov (.t 0), none⟩,
 ⟨some 14, .mov (.t 5), none⟩,
 ⟨some 15, .slice 1 (.t 13) none (some (.t 14)) none, none⟩,
 ⟨some 16, .call (.k (.d (.func (.func 43) [] []))) [(.t 15)], none⟩,
 ⟨some 17, .mov (.t 5), none⟩,
 ⟨some 18, .build [.nilsl, (.int .i64 0)] [(0, 1, (.t 16)), (1, 1, (.t 17))], none⟩,
 ⟨some 19, .mov (.t 4), none⟩,
 ⟨none, .store (some 2) (.t 2) (.t 18), none⟩,
 ⟨some 3, .mov (.t 19), none⟩]
def s90 : SCode := (.seq (.region s90r0 1 []) (.seq (.region s90r1 0 []) (.seq (.region s90r2 0 []) .ret)))
theorem e90 : CodeIs s90.eq_1 := qc s90.eq_1
theorem xck : RegIs s90r0.eq_1 := qa
theorem xcl : RegIs s90r1.eq_1 := qa
theorem xcm : RegIs s90r2.eq_1 := qa
attribute [go_sem] xck xcl xcm e90
theorem F90 : FnIs Try.prog 90 Try.f90 [] news s90 [.cell 2 (some 2), .tmp 3] 20 := xe follows Try.func90
end
def recRows (l : List (List UInt8)) : List (List D) := l.map fun r => [.sl 1 (byteRows r)]
theorem qgy (l : List (List UInt8)) : D.noPtrR (recRows l) = true := qo (fun r => by simp only [D.noPtrL, D.noPtr, xw, Bool.and_self]) l
theorem qlo (l : List (List UInt8)) : (recRows l).length = l.length := by simp [recRows]
theorem qlp : recRows [] = [] := rfl
theorem qjj (l : List (List UInt8)) (r : List UInt8) : recRows l ++ [[.sl 1 (byteRows r)]] = recRows (l ++ [r]) := by simp [recRows]
theorem qgz (l : List Nat) : D.noPtrR (endRows l) = true := qo (fun _ => rfl) l
theorem qlq (l : List Nat) : (endRows l).length = l.length := by simp [endRows]
theorem qlr : endRows [] = [] := rfl
theorem qvf (l : List Nat) (n : Nat) : endRows l ++ [[.int .i64 (n : Nat)]] = endRows (l ++ [n]) := by simp [endRows]
attribute [go_sem] qgy qlo qlp qgz qlq qlr
def Sread (b : List UInt8) (s : Rds) : St :=
 ⟨[(0, true, .d (.sl 1 (byteRows b))), (2, true, .own 0 1 (recRows s.recs)), (3, true, .own 1 1 (endRows s.ends)), (4, true, .d (.int .i64 0)), (5, true, .d (.int .u64 (s.seed : Nat))), (6, true, .own 2 1 (byteRows s.now)), (7, true, .d (.int .i64 (s.pos : Nat)))], [], [0, 1, 2], 1⟩
set_option maxRecDepth 10000 in
theorem qw3 (b : List UInt8) (hb : b.length ≤ 1000000000) : ACall Try.prog 151 [.d (.sl 1 (byteRows b))] [] (.tup [.d (.sl 1 (recRows (wRead b rds0).1.recs)), .d (.sl 1 (endRows (wRead b rds0).1.ends)), .d (.int .i64 (wRead b rds0).2)]) [] := by
 refine xg5.goT ?_
 try (refine ev ?_; try exact True.intro)
 refine ql (fun i : { s : Rds // s.Ok b ∧ wRead b s = wRead b rds0 } => Sread b i.val) (fun i => b.length - i.val.pos) ⟨rds0, yl b, rfl⟩ ?_ (fun i => ?_)
 ·try simp only [Sread, rds0, basis, Int.ofNat_zero, qk, go_sem, Nat.reduceAdd, Nat.reduceMul, Nat.reduceSub, Nat.reduceEqDiff, Nat.reduceLT, Nat.reduceLeDiff, Nat.reduceBEq, reduceIte, reduceCtorEq, Int.reduceAdd, Int.reduceLT, Int.reduceLE, Int.reduceGT, Int.reduceGE, Int.reduceEq, Int.reduceNe, Int.reduceBEq, Int.reduceBNe, Int.reduceToNat, Int.reduceNeg]
 obtain ⟨s, hs, hx⟩ := i
 obtain ⟨q1, q2, q3, q4, q5, q6, q7⟩ := hs
 have w1 : IntKind.i64.wrap ((s.pos : Int) + 32) = ((s.pos + 32 : Nat) : Int) := by rw [qu (by unfold I64; omega)]; omega
 have w2 : IntKind.i64.wrap ((s.pos : Int) + 24) = ((s.pos + 24 : Nat) : Int) := by rw [qu (by unfold I64; omega)]; omega
 try simp only [Sread, w1, go_sem, Nat.reduceAdd, Nat.reduceMul, Nat.reduceSub, Nat.reduceEqDiff, Nat.reduceLT, Nat.reduceLeDiff, Nat.reduceBEq, reduceIte, reduceCtorEq, Int.reduceAdd, Int.reduceLT, Int.reduceLE, Int.reduceGT, Int.reduceGE, Int.reduceEq, Int.reduceNe, Int.reduceBEq, Int.reduceBNe, Int.reduceToNat, Int.reduceNeg]
 refine xk _ (fun hc => ?_) (fun hc => ?_)
 ·have hil : s.pos + 32 ≤ b.length := by simp at hc; omega
  have hh : (headAt b s.pos).length = 24 := by rw [headAt, List.length_take, List.length_drop]; omega
  have e1 : ((s.pos : Int) + 24).toNat - s.pos = 24 := by omega
  have e2 : ((s.pos : Int) + 32).toNat - ((s.pos : Int) + 24).toNat = 8 := by omega
  have e5 : ((s.pos : Int) + 24).toNat = s.pos + 24 := by omega
  have e3 : ((byteRows b).drop s.pos).take 24 = byteRows (headAt b s.pos) := by rw [xq, qx]; rfl
  have e4 : ((byteRows b).drop (s.pos + 24)).take 8 = byteRows (sumAt b s.pos) := by rw [xq, qx]; rfl
  try simp only [w2, e1, e2, e3, e4, Int.toNat_natCast, go_sem, Nat.reduceAdd, Nat.reduceMul, Nat.reduceSub, Nat.reduceEqDiff, Nat.reduceLT, Nat.reduceLeDiff, Nat.reduceBEq, reduceIte, reduceCtorEq, Int.reduceAdd, Int.reduceLT, Int.reduceLE, Int.reduceGT, Int.reduceGE, Int.reduceEq, Int.reduceNe, Int.reduceBEq, Int.reduceBNe, Int.reduceToNat, Int.reduceNeg]
  (repeat (with_reducible refine ob ?_))
  (repeat (with_reducible refine ob ?_)); refine cl F94 (qub s.seed (headAt b s.pos) q2 (by omega)) ?_
  try simp only [qi1, e1, e2, e4, e5, go_sem, Nat.reduceAdd, Nat.reduceMul, Nat.reduceSub, Nat.reduceEqDiff, Nat.reduceLT, Nat.reduceLeDiff, Nat.reduceBEq, reduceIte, reduceCtorEq, Int.reduceAdd, Int.reduceLT, Int.reduceLE, Int.reduceGT, Int.reduceGE, Int.reduceEq, Int.reduceNe, Int.reduceBEq, Int.reduceBNe, Int.reduceToNat, Int.reduceNeg]
  have hq := qrm (be8 (fnv s.seed (headAt b s.pos))) (sumAt b s.pos)
  rw [xx] at hq
  have e4b : ((byteRows b).drop ((s.pos : Int) + 24).toNat).take 8 = byteRows (sumAt b s.pos) := by rw [e5]; exact e4
  try simp only [w1, w2, xx, e2, e4b, go_sem, Nat.reduceAdd, Nat.reduceMul, Nat.reduceSub, Nat.reduceEqDiff, Nat.reduceLT, Nat.reduceLeDiff, Nat.reduceBEq, reduceIte, reduceCtorEq, Int.reduceAdd, Int.reduceLT, Int.reduceLE, Int.reduceGT, Int.reduceGE, Int.reduceEq, Int.reduceNe, Int.reduceBEq, Int.reduceBNe, Int.reduceToNat, Int.reduceNeg]
  refine ⟨by omega, ?_⟩
  refine clO [0] F64 hq ?_
  try (refine ev ?_; try exact True.intro)
  refine xk _ (fun hd => ?_) (fun hd => ?_)
  ·have he : cErr b s = some 5 := by
    unfold cErr
    rw [if_neg (by simpa using hd)]
   have hr := hx.symm.trans (qdj hil he)
   try simp only [hr, go_sem, Nat.reduceAdd, Nat.reduceMul, Nat.reduceSub, Nat.reduceEqDiff, Nat.reduceLT, Nat.reduceLeDiff, Nat.reduceBEq, reduceIte, reduceCtorEq, Int.reduceAdd, Int.reduceLT, Int.reduceLE, Int.reduceGT, Int.reduceGE, Int.reduceEq, Int.reduceNe, Int.reduceBEq, Int.reduceBNe, Int.reduceToNat, Int.reduceNeg]
  have hd1 : be8 (fnv s.seed (headAt b s.pos)) = sumAt b s.pos := by simpa using hd
  try (refine ev ?_; try exact True.intro)
  (repeat (with_reducible refine ob ?_)); refine cl xg4 (qji (headAt b s.pos) s.now.length hh (by omega)) ?_
  try (refine ev ?_; try exact True.intro)
  refine xk _ (fun hd => ?_) (fun hd => ?_)
  ·have he : cErr b s = some 4 := by
    unfold cErr
    rw [if_pos hd1, if_neg (by simpa using hd)]
   have hr := hx.symm.trans (qdj hil he)
   try simp only [hr, go_sem, Nat.reduceAdd, Nat.reduceMul, Nat.reduceSub, Nat.reduceEqDiff, Nat.reduceLT, Nat.reduceLeDiff, Nat.reduceBEq, reduceIte, reduceCtorEq, Int.reduceAdd, Int.reduceLT, Int.reduceLE, Int.reduceGT, Int.reduceGE, Int.reduceEq, Int.reduceNe, Int.reduceBEq, Int.reduceBNe, Int.reduceToNat, Int.reduceNeg]
  have hd2 : cProper (headAt b s.pos) s.now.length = true := by simpa using hd
  have he : cErr b s = none := by
   unfold cErr
   rw [if_pos hd1, if_pos hd2]
  obtain ⟨p1, p2, p3, p4, p5, p6⟩ := jb.1 hd2
  have hk0 := qrl (h := headAt b s.pos) (by omega)
  have hm0 := qve (h := headAt b s.pos) (by omega)
  have w3 : IntKind.i64.wrap ((numB (headAt b s.pos) : Nat) : Int) = (numB (headAt b s.pos) : Nat) := qu (by unfold I64; omega)
  have w4 : IntKind.i64.wrap (2 + ((numB (headAt b s.pos) : Nat) : Int)) = ((2 + numB (headAt b s.pos) : Nat) : Int) := by rw [qu (by unfold I64; omega)]; omega
  have e6 : (2 + ((numB (headAt b s.pos) : Nat) : Int)).toNat - 2 = numB (headAt b s.pos) := by omega
  have e7 : ((byteRows (headAt b s.pos)).drop 2).take (numB (headAt b s.pos)) = byteRows (((headAt b s.pos).drop 2).take (numB (headAt b s.pos))) := by rw [xq, qx]
  have hln : (((headAt b s.pos).drop 2).take (numB (headAt b s.pos))).length ≤ 22 := by rw [List.length_take]; omega
  try simp only [qr (headAt b s.pos) (show 0 < (headAt b s.pos).length by omega), qr (headAt b s.pos) (show 1 < (headAt b s.pos).length by omega), ← hm0, ← hk0, w3, go_sem, Nat.reduceAdd, Nat.reduceMul, Nat.reduceSub, Nat.reduceEqDiff, Nat.reduceLT, Nat.reduceLeDiff, Nat.reduceBEq, reduceIte, reduceCtorEq, Int.reduceAdd, Int.reduceLT, Int.reduceLE, Int.reduceGT, Int.reduceGE, Int.reduceEq, Int.reduceNe, Int.reduceBEq, Int.reduceBNe, Int.reduceToNat, Int.reduceNeg]
  try simp only [w4, e6, e7, qn, go_sem, Nat.reduceAdd, Nat.reduceMul, Nat.reduceSub, Nat.reduceEqDiff, Nat.reduceLT, Nat.reduceLeDiff, Nat.reduceBEq, reduceIte, reduceCtorEq, Int.reduceAdd, Int.reduceLT, Int.reduceLE, Int.reduceGT, Int.reduceGE, Int.reduceEq, Int.reduceNe, Int.reduceBEq, Int.reduceBNe, Int.reduceToNat, Int.reduceNeg]
  refine ⟨by omega, by omega, by omega, by omega, ?_⟩
  have hcn : s.now ++ ((headAt b s.pos).drop 2).take (numB (headAt b s.pos)) = cNow b s := rfl
  rw [hcn]
  have hcl := qms he
  have hok := qmt ⟨q1, q2, q3, q4, q5, q6, q7⟩ hil he
  have hnx := (qbb hil he).symm.trans hx
  refine xk _ (fun hd => ?_) (fun hd => ?_)
  ·have hk2 : kindOf (headAt b s.pos) = 2 := by simp at hd; omega
   have hn : cNext b s = ⟨s.pos + 32, fnv s.seed (headAt b s.pos), [], s.recs ++ [cNow b s], s.ends ++ [s.pos + 32]⟩ := by rw [cNext, if_pos hk2]
   try simp only [qjj, go_sem, Nat.reduceAdd, Nat.reduceMul, Nat.reduceSub, Nat.reduceEqDiff, Nat.reduceLT, Nat.reduceLeDiff, Nat.reduceBEq, reduceIte, reduceCtorEq, Int.reduceAdd, Int.reduceLT, Int.reduceLE, Int.reduceGT, Int.reduceGE, Int.reduceEq, Int.reduceNe, Int.reduceBEq, Int.reduceBNe, Int.reduceToNat, Int.reduceNeg]
   (repeat (with_reducible refine ob ?_))
   refine ⟨⟨cNext b s, hok, hnx⟩, ?_, by dsimp only; rw [hn]; dsimp only; omega⟩
   have hes : endRows s.ends ++ [[.int .i64 ((s.pos : Int) + 32)]] = endRows (s.ends ++ [s.pos + 32]) := by simp [endRows]
   try simp only [Sread, hn, w1, hes, qk, go_sem, Nat.reduceAdd, Nat.reduceMul, Nat.reduceSub, Nat.reduceEqDiff, Nat.reduceLT, Nat.reduceLeDiff, Nat.reduceBEq, reduceIte, reduceCtorEq, Int.reduceAdd, Int.reduceLT, Int.reduceLE, Int.reduceGT, Int.reduceGE, Int.reduceEq, Int.reduceNe, Int.reduceBEq, Int.reduceBNe, Int.reduceToNat, Int.reduceNeg]
  ·have hk2 : ¬ kindOf (headAt b s.pos) = 2 := by simp at hd; omega
   have hn : cNext b s = ⟨s.pos + 32, fnv s.seed (headAt b s.pos), cNow b s, s.recs, s.ends⟩ := by rw [cNext, if_neg hk2]
   try (refine ev ?_; try exact True.intro)
   refine ⟨⟨cNext b s, hok, hnx⟩, ?_, by dsimp only; rw [hn]; dsimp only; omega⟩
   try simp only [Sread, hn, w1, go_sem, Nat.reduceAdd, Nat.reduceMul, Nat.reduceSub, Nat.reduceEqDiff, Nat.reduceLT, Nat.reduceLeDiff, Nat.reduceBEq, reduceIte, reduceCtorEq, Int.reduceAdd, Int.reduceLT, Int.reduceLE, Int.reduceGT, Int.reduceGE, Int.reduceEq, Int.reduceNe, Int.reduceBEq, Int.reduceBNe, Int.reduceToNat, Int.reduceNeg]
 ·have hxe := hx.symm.trans (v6 (b := b) (s := s) (by simp at hc; omega))
  try (refine ev ?_; try exact True.intro)
  (repeat (with_reducible refine ob ?_)); refine cl xcj (qrn s.ends (by omega)) ?_
  try (refine ev ?_; try exact True.intro)
  have hu : s.ends.getLastD 0 = s.used := rfl
  refine xk _ (fun hd => ?_) (fun hd => ?_)
  ·have hr : wRead b rds0 = (s, 4) := by
    rw [hxe, if_neg]
    intro h
    rw [← hu] at h
    rw [h] at hd
    simp at hd
   try simp only [hr, go_sem, Nat.reduceAdd, Nat.reduceMul, Nat.reduceSub, Nat.reduceEqDiff, Nat.reduceLT, Nat.reduceLeDiff, Nat.reduceBEq, reduceIte, reduceCtorEq, Int.reduceAdd, Int.reduceLT, Int.reduceLE, Int.reduceGT, Int.reduceGE, Int.reduceEq, Int.reduceNe, Int.reduceBEq, Int.reduceBNe, Int.reduceToNat, Int.reduceNeg]
  ·have hr : wRead b rds0 = (s, 0) := by
    rw [hxe, if_pos]
    rw [← hu]
    simp only [bne_eq_false_iff_eq] at hd
    omega
   try simp only [hr, go_sem, Nat.reduceAdd, Nat.reduceMul, Nat.reduceSub, Nat.reduceEqDiff, Nat.reduceLT, Nat.reduceLeDiff, Nat.reduceBEq, reduceIte, reduceCtorEq, Int.reduceAdd, Int.reduceLT, Int.reduceLE, Int.reduceGT, Int.reduceGE, Int.reduceEq, Int.reduceNe, Int.reduceBEq, Int.reduceBNe, Int.reduceToNat, Int.reduceNeg]
theorem qot (b : List UInt8) (hb : b.length ≤ 1000000000) : ACall Try.prog 121 [.d (.sl 1 (byteRows b))] [] (.tup [.d (.sl 1 (recRows (wRead b rds0).1.recs)), .d (.int .i64 ((wRead b rds0).1.used : Nat)), .d (.int .i64 (wRead b rds0).2)]) [] := by
 have hok := ve (yl b)
 have h1 := hok.ends
 have h2 := hok.pos
 refine xg6.goT ?_
 try (refine ev ?_; try exact True.intro)
 (repeat (with_reducible refine ob ?_)); refine cl xg5 (qw3 b hb) ?_
 try (refine ev ?_; try exact True.intro)
 (repeat (with_reducible refine ob ?_)); refine cl xcj (qrn (wRead b rds0).1.ends (by omega)) ?_
 try simp only [Rds.used, go_sem, Nat.reduceAdd, Nat.reduceMul, Nat.reduceSub, Nat.reduceEqDiff, Nat.reduceLT, Nat.reduceLeDiff, Nat.reduceBEq, reduceIte, reduceCtorEq, Int.reduceAdd, Int.reduceLT, Int.reduceLE, Int.reduceGT, Int.reduceGE, Int.reduceEq, Int.reduceNe, Int.reduceBEq, Int.reduceBNe, Int.reduceToNat, Int.reduceNeg]
def wRecs (b : List UInt8) : List (List UInt8) := (wRead b rds0).1.recs
def wUsed (b : List UInt8) : Nat := (wRead b rds0).1.used
theorem qmx (b : List UInt8) : wUsed b ≤ b.length := Nat.le_trans (ve (yl b)).used (ve (yl b)).pos
theorem qro (b : List UInt8) : (wRecs b).length ≤ b.length := Nat.le_trans (ve (yl b)).recs (ve (yl b)).pos
theorem qdo (b : List UInt8) : ∀ r ∈ wRecs b, r.length ≤ 2000 := (ve (yl b)).small
theorem qfg (b : List UInt8) (hb : b.length ≤ 1000000000) : ACall Try.prog 90 [.d (.sl 1 (byteRows b))] [] (.tup [.d (.agg (encLog (b.take (wUsed b)) (wUsed b))), .d (.sl 1 (recRows (wRecs b)))]) [] := by
 have hr := qot b hb
 have hu := qmx b
 change ACall Try.prog 121 [.d (.sl 1 (byteRows b))] [] (.tup [.d (.sl 1 (recRows (wRecs b))), .d (.int .i64 (wUsed b : Nat)), .d (.int .i64 (wRead b rds0).2)]) [] at hr
 refine F90.goT ?_
 try (refine ev ?_; try exact True.intro)
 (repeat (with_reducible refine ob ?_)); refine cl xg6 (hr) ?_
 have e1 : ((byteRows b).drop 0).take (wUsed b - 0) = byteRows (b.take (wUsed b)) := by rw [List.drop_zero, qx, Nat.sub_zero]
 try simp only [qx, Nat.sub_zero, go_sem, Nat.reduceAdd, Nat.reduceMul, Nat.reduceSub, Nat.reduceEqDiff, Nat.reduceLT, Nat.reduceLeDiff, Nat.reduceBEq, reduceIte, reduceCtorEq, Int.reduceAdd, Int.reduceLT, Int.reduceLE, Int.reduceGT, Int.reduceGE, Int.reduceEq, Int.reduceNe, Int.reduceBEq, Int.reduceBNe, Int.reduceToNat, Int.reduceNeg]
 (repeat (with_reducible refine ob ?_))
 (repeat (with_reducible refine ob ?_)); refine cl F43 (xi (b.take (wUsed b)) (by rw [List.length_take]; omega)) ?_
 try simp only [encLog, go_sem, Nat.reduceAdd, Nat.reduceMul, Nat.reduceSub, Nat.reduceEqDiff, Nat.reduceLT, Nat.reduceLeDiff, Nat.reduceBEq, reduceIte, reduceCtorEq, Int.reduceAdd, Int.reduceLT, Int.reduceLE, Int.reduceGT, Int.reduceGE, Int.reduceEq, Int.reduceNe, Int.reduceBEq, Int.reduceBNe, Int.reduceToNat, Int.reduceNeg]
end Go.Proofs.Ytinnaedmdoengaa
namespace Go.Proofs.Ytinnaedmdoengaa
open Go.Abs
set_option linter.unusedSimpArgs false
set_option linter.unusedVariables false
noncomputable section
set_option maxRecDepth 100000
def s75r0 : List SOper := [
 ⟨some 2, .mov (.k (.d .nilsl)), none⟩]
def s75r1 : List SOper := [
 ⟨some 5, .mov (.t 0), none⟩,
 ⟨some 6, .conv .u64 (.t 5), none⟩,
 ⟨some 7, .bin .mul (.t 6) (.k (.d (.int .u64 2))), none⟩,
 ⟨some 3, .mov (.t 7), none⟩]
def s75r2 : List SOper := [
 ⟨some 8, .mov (.t 0), none⟩,
 ⟨some 9, .bin .lss (.t 8) (.k (.d (.int .i64 0))), none⟩]
def s75r3 : List SOper := [
 ⟨some 10, .mov (.t 0), none⟩,
 ⟨some 11, .bin .add (.t 10) (.k (.d (.int .i64 1))), none⟩,
 ⟨some 12, .neg (.t 11), none⟩,
 ⟨some 13, .conv .u64 (.t 12), none⟩,
 ⟨some 14, .bin .mul (.t 13) (.k (.d (.int .u64 2))), none⟩,
 ⟨some 15, .bin .add (.t 14) (.k (.d (.int .u64 1))), none⟩,
 ⟨some 3, .mov (.t 15), none⟩]
def s75r4 : List SOper := [
 ⟨some 4, .mov (.k (.d .nilsl)), none⟩]
def s75r5 : List SOper := [
 ⟨some 16, .mov (.t 3), none⟩,
 ⟨some 17, .bin .geq (.t 16) (.k (.d (.int .u64 128))), none⟩]
def s75r6 : List SOper := [
 ⟨some 18, .mov (.t 4), none⟩,
 ⟨some 19, .mov (.t 3), none⟩,
 ⟨some 20, .bin .rem (.t 19) (.k (.d (.int .u64 128))), none⟩,
 ⟨some 21, .conv .u8 (.t 20), none⟩,
 ⟨some 22, .bin .add (.t 21) (.k (.d (.int .u8 128))), none⟩,
 ⟨some 23, .buildSlice false 1 1 [(.int .u8 0)] [(0, 1, (.t 22))], none⟩,
 ⟨some 24, .append false 1 1 (.t 18) (.t 23), none⟩,
 ⟨some 4, .mov (.t 24), none⟩]
def s75r7 : List SOper := [
 ⟨some 25, .mov (.t 3), none⟩,
 ⟨some 26, .bin .quo (.t 25) (.k (.d (.int .u64 128))), none⟩,
 ⟨some 3, .mov (.t 26), none⟩]
def s75l8 : SCode := (.seq (.seq (.region s75r5 0 []) (.cond (.t 17) .skip (.exit 0))) (.block 1 (.seq (.region s75r6 0 []) (.region s75r7 0 []))))
theorem xcn : CodeIs s75l8.eq_1 := qc s75l8.eq_1
def s75r9 : List SOper := [
 ⟨some 27, .mov (.t 4), none⟩,
 ⟨some 28, .mov (.t 3), none⟩,
 ⟨some 29, .conv .u8 (.t 28), none⟩,
 ⟨some 30, .buildSlice false 1 1 [(.int .u8 0)] [(0, 1, (.t 29))], none⟩,
 ⟨some 31, .append false 1 1 (.t 27) (.t 30), none⟩,
 ⟨some 2, .mov (.t 31), none⟩]
def s75 : SCode := (.seq (.region s75r0 0 []) (.seq (.region s75r1 0 []) (.seq (.seq (.region s75r2 0 []) (.cond (.t 9) (.region s75r3 0 []) .skip)) (.seq (.region s75r4 0 []) (.seq (.block 0 (.loop s75l8)) (.seq (.region s75r9 0 []) .ret))))))
theorem e75 : CodeIs s75.eq_1 := qc s75.eq_1
theorem xco : RegIs s75r0.eq_1 := qa
theorem xcp : RegIs s75r1.eq_1 := qa
theorem xcq : RegIs s75r2.eq_1 := qa
theorem xcr : RegIs s75r3.eq_1 := qa
theorem xcs : RegIs s75r4.eq_1 := qa
theorem xct : RegIs s75r5.eq_1 := qa
theorem xcu : RegIs s75r6.eq_1 := qa
theorem xcv : RegIs s75r7.eq_1 := qa
theorem xcw : RegIs s75r9.eq_1 := qa
attribute [go_sem] xco xcp xcq xcr xcs xct xcu xcv xcn xcw e75
theorem F75 : FnIs Try.prog 75 Try.f75 [] news s75 [.tmp 2] 32 := xe follows Try.func75
def s79r0 : List SOper := [
 ⟨some 2, .mov (.k (.d .nilsl)), none⟩]
def s79r1 : List SOper := [
 ⟨some 3, .mov (.t 0), none⟩,
 ⟨some 4, .len (.t 3), none⟩,
 ⟨some 5, .call (.k (.d (.func (.func 75) [] []))) [(.t 4)], none⟩,
 ⟨some 6, .mov (.t 0), none⟩,
 ⟨some 7, .append false 1 1 (.t 5) (.t 6), none⟩,
 ⟨some 2, .mov (.t 7), none⟩]
def s79 : SCode := (.seq (.region s79r0 0 []) (.seq (.region s79r1 0 []) .ret))
theorem e79 : CodeIs s79.eq_1 := qc s79.eq_1
theorem xcx : RegIs s79r0.eq_1 := qa
theorem xcy : RegIs s79r1.eq_1 := qa
attribute [go_sem] xcx xcy e79
theorem F79 : FnIs Try.prog 79 Try.f79 [] news s79 [.tmp 2] 8 := xe follows Try.func79
def s77r0 : List SOper := [
 ⟨some 2, .mov (.k (.d .nilsl)), none⟩]
def s77r1 : List SOper := [
 ⟨some 3, .mov (.t 0), none⟩,
 ⟨some 4, .s2b (.t 3), none⟩,
 ⟨some 5, .call (.k (.d (.func (.func 79) [] []))) [(.t 4)], none⟩,
 ⟨some 2, .mov (.t 5), none⟩]
def s77 : SCode := (.seq (.region s77r0 0 []) (.seq (.region s77r1 0 []) .ret))
theorem e77 : CodeIs s77.eq_1 := qc s77.eq_1
theorem xcz : RegIs s77r0.eq_1 := qa
theorem xc0 : RegIs s77r1.eq_1 := qa
attribute [go_sem] xcz xc0 e77
theorem F77 : FnIs Try.prog 77 Try.f77 [] news s77 [.tmp 2] 6 := xe follows Try.func77
def s78r0 : List SOper := [
 ⟨some 2, .mov (.k (.d .nilsl)), none⟩]
def s78r1 : List SOper := [
 ⟨some 3, .mov (.t 0), none⟩]
def s78r2 : List SOper := [
 ⟨some 4, .buildSlice false 1 1 [(.int .u8 0)] [(0, 1, (.k (.d (.int .u8 1))))], none⟩,
 ⟨some 2, .mov (.t 4), none⟩]
def s78r3 : List SOper := [
 ⟨some 5, .buildSlice false 1 1 [(.int .u8 0)] [(0, 1, (.k (.d (.int .u8 0))))], none⟩,
 ⟨some 2, .mov (.t 5), none⟩]
def s78 : SCode := (.seq (.region s78r0 0 []) (.seq (.seq (.region s78r1 0 []) (.cond (.t 3) (.seq (.region s78r2 0 []) .ret) .skip)) (.seq (.region s78r3 0 []) .ret)))
theorem e78 : CodeIs s78.eq_1 := qc s78.eq_1
theorem xc1 : RegIs s78r0.eq_1 := qa
theorem xc2 : RegIs s78r1.eq_1 := qa
theorem xc3 : RegIs s78r2.eq_1 := qa
theorem xc4 : RegIs s78r3.eq_1 := qa
attribute [go_sem] xc1 xc2 xc3 xc4 e78
theorem F78 : FnIs Try.prog 78 Try.f78 [] news s78 [.tmp 2] 6 := xe follows Try.func78
def s76r0 : List SOper := [
 ⟨some 1, .box 1 (.t 0), none⟩,
 ⟨some 2, .mov (.k (.d (.bool false))), none⟩]
def s76r1 : List SOper := [
 ⟨some 3, .faddr 0 (.t 1), none⟩,
 ⟨some 4, .load none (.t 3), none⟩,
 ⟨some 5, .lenS (.t 4), none⟩,
 ⟨some 6, .bin .geq (.t 5) (.k (.d (.int .i64 1))), none⟩,
 ⟨some 7, .mov (.t 6), none⟩,
 ⟨some 8, .faddr 0 (.t 1), some (7, true)⟩,
 ⟨some 9, .load none (.t 8), some (7, true)⟩,
 ⟨some 10, .lenS (.t 9), some (7, true)⟩,
 ⟨some 11, .bin .leq (.t 10) (.k (.d (.int .i64 40))), some (7, true)⟩,
 ⟨some 12, .pick (.t 7) (.t 11) (.k (.d (.bool false))), none⟩,
 ⟨some 13, .mov (.t 12), none⟩,
 ⟨some 14, .faddr 2 (.t 1), some (13, true)⟩,
 ⟨some 15, .load none (.t 14), some (13, true)⟩,
 ⟨some 16, .len (.t 15), some (13, true)⟩,
 ⟨some 17, .bin .leq (.t 16) (.k (.d (.int .i64 900))), some (13, true)⟩,
 ⟨some 18, .pick (.t 13) (.t 17) (.k (.d (.bool false))), none⟩,
 ⟨some 19, .mov (.t 18), none⟩,
 ⟨some 20, .faddr 1 (.t 1), some (19, true)⟩,
 ⟨some 21, .load none (.t 20), some (19, true)⟩,
 ⟨some 22, .not (.t 21), some (19, true)⟩,
 ⟨some 23, .mov (.t 22), some (19, true)⟩,
 ⟨some 24, .faddr 2 (.t 1), some (23, false)⟩,
 ⟨some 25, .load none (.t 24), some (23, false)⟩,
 ⟨some 26, .len (.t 25), some (23, false)⟩,
 ⟨some 27, .bin .eql (.t 26) (.k (.d (.int .i64 0))), some (23, false)⟩,
 ⟨some 28, .pick (.t 23) (.k (.d (.bool true))) (.t 27), some (19, true)⟩,
 ⟨some 29, .pick (.t 19) (.t 28) (.k (.d (.bool false))), none⟩,
 ⟨some 2, .mov (.t 29), none⟩]
def s76 : SCode := (.seq (.region s76r0 1 []) (.seq (.region s76r1 0 []) .ret))
theorem e76 : CodeIs s76.eq_1 := qc s76.eq_1
theorem xc5 : RegIs s76r0.eq_1 := qa
theorem xc6 : RegIs s76r1.eq_1 := qa
attribute [go_sem] xc5 xc6 e76
theorem F76 : FnIs Try.prog 76 Try.f76 [] news s76 [.tmp 2] 30 := xe follows Try.func76
def s31r0 : List SOper := [
 ⟨some 2, .mov (.k (.d .nilsl)), none⟩,
 ⟨some 3, .mov (.k (.d (.int .i64 0))), none⟩]
def s31r1 : List SOper := [
 ⟨some 6, .mov (.t 0), none⟩,
 ⟨some 7, .len (.t 6), none⟩,
 ⟨some 8, .bin .eql (.t 7) (.k (.d (.int .i64 0))), none⟩]
def s31r2 : List SOper := [
 ⟨some 2, .mov (.k (.d .nilsl)), none⟩,
 ⟨some 3, .mov (.k (.d (.int .i64 1))), none⟩]
def s31r3 : List SOper := [
 ⟨some 9, .mov (.t 0), none⟩,
 ⟨some 10, .len (.t 9), none⟩,
 ⟨some 11, .call (.k (.d (.func (.func 75) [] []))) [(.t 10)], none⟩,
 ⟨some 4, .mov (.t 11), none⟩]
def s31r4 : List SOper := [
 ⟨some 5, .mov (.k (.d (.int .i64 0))), none⟩]
def s31r5 : List SOper := [
 ⟨some 12, .mov (.t 5), none⟩,
 ⟨some 13, .mov (.t 0), none⟩,
 ⟨some 14, .len (.t 13), none⟩,
 ⟨some 15, .bin .lss (.t 12) (.t 14), none⟩]
def s31r6 : List SOper := [
 ⟨some 18, .mov (.t 0), none⟩,
 ⟨some 19, .mov (.t 5), none⟩,
 ⟨some 20, .iaddr 3 (.t 18) (.t 19), none⟩,
 ⟨some 21, .load (some 3) (.t 20), none⟩,
 ⟨some 22, .call (.k (.d (.func (.func 76) [] []))) [(.t 21)], none⟩,
 ⟨some 23, .not (.t 22), none⟩]
def s31r7 : List SOper := [
 ⟨some 2, .mov (.k (.d .nilsl)), none⟩,
 ⟨some 3, .mov (.k (.d (.int .i64 1))), none⟩]
def s31r8 : List SOper := [
 ⟨some 24, .mov (.t 4), none⟩,
 ⟨some 25, .mov (.t 0), none⟩,
 ⟨some 26, .mov (.t 5), none⟩,
 ⟨some 27, .iaddr 3 (.t 25) (.t 26), none⟩,
 ⟨some 28, .faddr 0 (.t 27), none⟩,
 ⟨some 29, .load none (.t 28), none⟩,
 ⟨some 30, .call (.k (.d (.func (.func 77) [] []))) [(.t 29)], none⟩,
 ⟨some 31, .append false 1 1 (.t 24) (.t 30), none⟩,
 ⟨some 32, .mov (.t 0), none⟩,
 ⟨some 33, .mov (.t 5), none⟩,
 ⟨some 34, .iaddr 3 (.t 32) (.t 33), none⟩,
 ⟨some 35, .faddr 1 (.t 34), none⟩,
 ⟨some 36, .load none (.t 35), none⟩,
 ⟨some 37, .call (.k (.d (.func (.func 78) [] []))) [(.t 36)], none⟩,
 ⟨some 38, .append false 1 1 (.t 31) (.t 37), none⟩,
 ⟨some 4, .mov (.t 38), none⟩]
def s31r9 : List SOper := [
 ⟨some 39, .mov (.t 4), none⟩,
 ⟨some 40, .mov (.t 0), none⟩,
 ⟨some 41, .mov (.t 5), none⟩,
 ⟨some 42, .iaddr 3 (.t 40) (.t 41), none⟩,
 ⟨some 43, .faddr 2 (.t 42), none⟩,
 ⟨some 44, .load none (.t 43), none⟩,
 ⟨some 45, .call (.k (.d (.func (.func 79) [] []))) [(.t 44)], none⟩,
 ⟨some 46, .append false 1 1 (.t 39) (.t 45), none⟩,
 ⟨some 4, .mov (.t 46), none⟩]
def s31r10 : List SOper := [
 ⟨some 16, .mov (.t 5), none⟩,
 ⟨some 17, .bin .add (.t 16) (.k (.d (.int .i64 1))), none⟩,
 ⟨some 5, .mov (.t 17), none⟩]
def s31l11 : SCode := (.seq (.seq (.region s31r5 0 []) (.cond (.t 15) .skip (.exit 0))) (.seq (.block 1 (.seq (.seq (.region s31r6 0 []) (.cond (.t 23) (.seq (.region s31r7 0 []) .ret) .skip)) (.seq (.region s31r8 0 [(6, 12)]) (.region s31r9 0 [])))) (.region s31r10 0 [])))
theorem q2m : CodeIs s31l11.eq_1 := qc s31l11.eq_1
def s31r12 : List SOper := [
 ⟨some 47, .mov (.t 0), none⟩,
 ⟨some 48, .len (.t 47), none⟩,
 ⟨some 49, .bin .gtr (.t 48) (.k (.d (.int .i64 20))), none⟩,
 ⟨some 50, .mov (.t 49), none⟩,
 ⟨some 51, .mov (.t 4), some (50, false)⟩,
 ⟨some 52, .len (.t 51), some (50, false)⟩,
 ⟨some 53, .bin .gtr (.t 52) (.k (.d (.int .i64 2000))), some (50, false)⟩,
 ⟨some 54, .pick (.t 50) (.k (.d (.bool true))) (.t 53), none⟩]
def s31r13 : List SOper := [
 ⟨some 2, .mov (.k (.d .nilsl)), none⟩,
 ⟨some 3, .mov (.k (.d (.int .i64 6))), none⟩]
def s31r14 : List SOper := [
 ⟨some 55, .mov (.t 4), none⟩,
 ⟨some 2, .mov (.t 55), none⟩,
 ⟨some 3, .mov (.k (.d (.int .i64 0))), none⟩]
def s31 : SCode := (.seq (.region s31r0 0 []) (.seq (.seq (.region s31r1 0 []) (.cond (.t 8) (.seq (.region s31r2 0 []) .ret) .skip)) (.seq (.region s31r3 0 []) (.seq (.seq (.region s31r4 0 []) (.block 0 (.loop s31l11))) (.seq (.seq (.region s31r12 0 []) (.cond (.t 54) (.seq (.region s31r13 0 []) .ret) .skip)) (.seq (.region s31r14 0 []) .ret))))))
theorem e31 : CodeIs s31.eq_1 := qc s31.eq_1
theorem xc7 : RegIs s31r0.eq_1 := qa
theorem xc8 : RegIs s31r1.eq_1 := qa
theorem xc9 : RegIs s31r2.eq_1 := qa
theorem xda : RegIs s31r3.eq_1 := qa
theorem xdb : RegIs s31r4.eq_1 := qa
theorem xdc : RegIs s31r5.eq_1 := qa
theorem xdd : RegIs s31r6.eq_1 := qa
theorem xde : RegIs s31r7.eq_1 := qa
theorem xdf : RegIs s31r8.eq_1 := qa
theorem xdg : RegIs s31r9.eq_1 := qa
theorem q2n : RegIs s31r10.eq_1 := qa
theorem q2o : RegIs s31r12.eq_1 := qa
theorem q2p : RegIs s31r13.eq_1 := qa
theorem q2q : RegIs s31r14.eq_1 := qa
attribute [go_sem] xc7 xc8 xc9 xda xdb xdc xdd xde xdf xdg q2n q2m q2o q2p q2q e31
theorem F31 : FnIs Try.prog 31 Try.f31 [] news s31 [.tmp 2, .tmp 3] 56 := xe follows Try.func31
end
def SrefInt (n : Int) (i : { x : List UInt8 × Nat // x.1 ++ vbytes x.2 = wInt n ∧ x.2 < 18446744073709551616 }) : St :=
 ⟨[(3, true, .d (.int .u64 (i.val.2 : Nat))), (4, true, .own 0 1 (byteRows i.val.1))], [], [0], 1⟩
theorem qjk (n : Int) (hn : I64 n) : ACall Try.prog 75 [.d (.int .i64 n)] [] (.own 0 1 (byteRows (wInt n))) [] := by
 have hz := qt7 hn
 obtain ⟨hn1, hn2⟩ := hn
 have hrest : ∀ Q : SExit → St → Prop, True := fun _ => trivial
 refine F75.go ?_
 try (refine ev ?_; try exact True.intro)
 have b128 : ∀ u : Nat, u < 18446744073709551616 → IntKind.u8.wrap (IntKind.u8.wrap ((u : Int).tmod 128) + 128) = ((UInt8.ofNat (u % 128 + 128)).toNat : Int) := by
  intro u hu
  rw [Int.tmod_eq_emod_of_nonneg (by omega), qc7, qc7, show ((u : Int) % 128 % 256 + 128) % 256 = ((u % 128 + 128 : Nat) : Int) by omega]
  simp [UInt8.toNat_ofNat]; omega
 have q128 : ∀ u : Nat, u < 18446744073709551616 → IntKind.u64.wrap ((u : Int).tdiv 128) = ((u / 128 : Nat) : Int) := by
  intro u hu
  rw [Int.tdiv_eq_ediv_of_nonneg (by omega), show ((u : Int) / 128) = ((u / 128 : Nat) : Int) by omega, f2 _ (by omega)]
 refine xk _ (fun h => ?_) (fun h => ?_)
 ·have e : IntKind.u64.wrap (IntKind.u64.wrap (IntKind.u64.wrap (IntKind.i64.wrap (0 - IntKind.i64.wrap (n + 1))) * 2) + 1) = ((zz n : Nat) : Int) := by
   simp at h
   rw [qu (n := n + 1) (by unfold I64; omega), qu (by unfold I64; omega)]
   simp only [yi]
   unfold zz; rw [if_neg (by omega)]; omega
  try simp only [e, go_sem, Nat.reduceAdd, Nat.reduceMul, Nat.reduceSub, Nat.reduceEqDiff, Nat.reduceLT, Nat.reduceLeDiff, Nat.reduceBEq, reduceIte, reduceCtorEq, Int.reduceAdd, Int.reduceLT, Int.reduceLE, Int.reduceGT, Int.reduceGE, Int.reduceEq, Int.reduceNe, Int.reduceBEq, Int.reduceBNe, Int.reduceToNat, Int.reduceNeg]
  refine ql (SrefInt n) (fun i => i.val.2) ⟨([], zz n), by simp [wInt], hz⟩ ?_ (fun i => ?_)
  ·try simp only [SrefInt, qk, go_sem, Nat.reduceAdd, Nat.reduceMul, Nat.reduceSub, Nat.reduceEqDiff, Nat.reduceLT, Nat.reduceLeDiff, Nat.reduceBEq, reduceIte, reduceCtorEq, Int.reduceAdd, Int.reduceLT, Int.reduceLE, Int.reduceGT, Int.reduceGE, Int.reduceEq, Int.reduceNe, Int.reduceBEq, Int.reduceBNe, Int.reduceToNat, Int.reduceNeg]
  obtain ⟨⟨p, u⟩, hi, hu⟩ := i
  simp only at hi hu
  have hl : p.length ≤ 10 := by
   have h1 := congrArg List.length hi
   have h2 := zp (n := n) ⟨hn1, hn2⟩
   simp at h1; omega
  try simp only [SrefInt, go_sem, Nat.reduceAdd, Nat.reduceMul, Nat.reduceSub, Nat.reduceEqDiff, Nat.reduceLT, Nat.reduceLeDiff, Nat.reduceBEq, reduceIte, reduceCtorEq, Int.reduceAdd, Int.reduceLT, Int.reduceLE, Int.reduceGT, Int.reduceGE, Int.reduceEq, Int.reduceNe, Int.reduceBEq, Int.reduceBNe, Int.reduceToNat, Int.reduceNeg]
  refine xk _ (fun hc => ?_) (fun hc => ?_)
  ·have hc2 : ¬ u < 128 := by simp at hc; omega
   try simp only [b128 u hu, q128 u hu, zg, qn, go_sem, Nat.reduceAdd, Nat.reduceMul, Nat.reduceSub, Nat.reduceEqDiff, Nat.reduceLT, Nat.reduceLeDiff, Nat.reduceBEq, reduceIte, reduceCtorEq, Int.reduceAdd, Int.reduceLT, Int.reduceLE, Int.reduceGT, Int.reduceGE, Int.reduceEq, Int.reduceNe, Int.reduceBEq, Int.reduceBNe, Int.reduceToNat, Int.reduceNeg]
   (repeat (with_reducible refine ob ?_))
   refine ⟨⟨(p ++ [UInt8.ofNat (u % 128 + 128)], u / 128), ?_, by omega⟩, ?_, by simp only; omega⟩
   ·simp only at hi ⊢; rw [j0 hc2] at hi; rw [← hi]; simp
   ·try simp only [SrefInt, go_sem, Nat.reduceAdd, Nat.reduceMul, Nat.reduceSub, Nat.reduceEqDiff, Nat.reduceLT, Nat.reduceLeDiff, Nat.reduceBEq, reduceIte, reduceCtorEq, Int.reduceAdd, Int.reduceLT, Int.reduceLE, Int.reduceGT, Int.reduceGE, Int.reduceEq, Int.reduceNe, Int.reduceBEq, Int.reduceBNe, Int.reduceToNat, Int.reduceNeg]
  ·have hc2 : u < 128 := by simp at hc; omega
   try simp only [qgp, zg, qn, go_sem, Nat.reduceAdd, Nat.reduceMul, Nat.reduceSub, Nat.reduceEqDiff, Nat.reduceLT, Nat.reduceLeDiff, Nat.reduceBEq, reduceIte, reduceCtorEq, Int.reduceAdd, Int.reduceLT, Int.reduceLE, Int.reduceGT, Int.reduceGE, Int.reduceEq, Int.reduceNe, Int.reduceBEq, Int.reduceBNe, Int.reduceToNat, Int.reduceNeg]
   (repeat (with_reducible refine ob ?_))
   simp only [ja hc2] at hi
   try simp only [hi, go_sem, Nat.reduceAdd, Nat.reduceMul, Nat.reduceSub, Nat.reduceEqDiff, Nat.reduceLT, Nat.reduceLeDiff, Nat.reduceBEq, reduceIte, reduceCtorEq, Int.reduceAdd, Int.reduceLT, Int.reduceLE, Int.reduceGT, Int.reduceGE, Int.reduceEq, Int.reduceNe, Int.reduceBEq, Int.reduceBNe, Int.reduceToNat, Int.reduceNeg]
 ·have e : IntKind.u64.wrap (IntKind.u64.wrap n * 2) = ((zz n : Nat) : Int) := by
   simp at h
   simp only [yi]
   unfold zz; rw [if_pos (by omega)]; omega
  try simp only [e, go_sem, Nat.reduceAdd, Nat.reduceMul, Nat.reduceSub, Nat.reduceEqDiff, Nat.reduceLT, Nat.reduceLeDiff, Nat.reduceBEq, reduceIte, reduceCtorEq, Int.reduceAdd, Int.reduceLT, Int.reduceLE, Int.reduceGT, Int.reduceGE, Int.reduceEq, Int.reduceNe, Int.reduceBEq, Int.reduceBNe, Int.reduceToNat, Int.reduceNeg]
  refine ql (SrefInt n) (fun i => i.val.2) ⟨([], zz n), by simp [wInt], hz⟩ ?_ (fun i => ?_)
  ·try simp only [SrefInt, qk, go_sem, Nat.reduceAdd, Nat.reduceMul, Nat.reduceSub, Nat.reduceEqDiff, Nat.reduceLT, Nat.reduceLeDiff, Nat.reduceBEq, reduceIte, reduceCtorEq, Int.reduceAdd, Int.reduceLT, Int.reduceLE, Int.reduceGT, Int.reduceGE, Int.reduceEq, Int.reduceNe, Int.reduceBEq, Int.reduceBNe, Int.reduceToNat, Int.reduceNeg]
  obtain ⟨⟨p, u⟩, hi, hu⟩ := i
  simp only at hi hu
  have hl : p.length ≤ 10 := by
   have h1 := congrArg List.length hi
   have h2 := zp (n := n) ⟨hn1, hn2⟩
   simp at h1; omega
  try simp only [SrefInt, go_sem, Nat.reduceAdd, Nat.reduceMul, Nat.reduceSub, Nat.reduceEqDiff, Nat.reduceLT, Nat.reduceLeDiff, Nat.reduceBEq, reduceIte, reduceCtorEq, Int.reduceAdd, Int.reduceLT, Int.reduceLE, Int.reduceGT, Int.reduceGE, Int.reduceEq, Int.reduceNe, Int.reduceBEq, Int.reduceBNe, Int.reduceToNat, Int.reduceNeg]
  refine xk _ (fun hc => ?_) (fun hc => ?_)
  ·have hc2 : ¬ u < 128 := by simp at hc; omega
   try simp only [b128 u hu, q128 u hu, zg, qn, go_sem, Nat.reduceAdd, Nat.reduceMul, Nat.reduceSub, Nat.reduceEqDiff, Nat.reduceLT, Nat.reduceLeDiff, Nat.reduceBEq, reduceIte, reduceCtorEq, Int.reduceAdd, Int.reduceLT, Int.reduceLE, Int.reduceGT, Int.reduceGE, Int.reduceEq, Int.reduceNe, Int.reduceBEq, Int.reduceBNe, Int.reduceToNat, Int.reduceNeg]
   (repeat (with_reducible refine ob ?_))
   refine ⟨⟨(p ++ [UInt8.ofNat (u % 128 + 128)], u / 128), ?_, by omega⟩, ?_, by simp only; omega⟩
   ·simp only at hi ⊢; rw [j0 hc2] at hi; rw [← hi]; simp
   ·try simp only [SrefInt, go_sem, Nat.reduceAdd, Nat.reduceMul, Nat.reduceSub, Nat.reduceEqDiff, Nat.reduceLT, Nat.reduceLeDiff, Nat.reduceBEq, reduceIte, reduceCtorEq, Int.reduceAdd, Int.reduceLT, Int.reduceLE, Int.reduceGT, Int.reduceGE, Int.reduceEq, Int.reduceNe, Int.reduceBEq, Int.reduceBNe, Int.reduceToNat, Int.reduceNeg]
  ·have hc2 : u < 128 := by simp at hc; omega
   try simp only [qgp, zg, qn, go_sem, Nat.reduceAdd, Nat.reduceMul, Nat.reduceSub, Nat.reduceEqDiff, Nat.reduceLT, Nat.reduceLeDiff, Nat.reduceBEq, reduceIte, reduceCtorEq, Int.reduceAdd, Int.reduceLT, Int.reduceLE, Int.reduceGT, Int.reduceGE, Int.reduceEq, Int.reduceNe, Int.reduceBEq, Int.reduceBNe, Int.reduceToNat, Int.reduceNeg]
   (repeat (with_reducible refine ob ?_))
   simp only [ja hc2] at hi
   try simp only [hi, go_sem, Nat.reduceAdd, Nat.reduceMul, Nat.reduceSub, Nat.reduceEqDiff, Nat.reduceLT, Nat.reduceLeDiff, Nat.reduceBEq, reduceIte, reduceCtorEq, Int.reduceAdd, Int.reduceLT, Int.reduceLE, Int.reduceGT, Int.reduceGE, Int.reduceEq, Int.reduceNe, Int.reduceBEq, Int.reduceBNe, Int.reduceToNat, Int.reduceNeg]
theorem qdp (s : List UInt8) (hs : s.length ≤ 100000000) : ACall Try.prog 79 [.d (.sl 1 (byteRows s))] [] (.own 0 1 (byteRows (wText s))) [] := by
 have hw := zp (xc (n := s.length) (by omega))
 refine F79.go ?_
 try (refine ev ?_; try exact True.intro)
 refine clA F75 (qjk s.length (xc (by omega))) ?_
 try simp only [qn, wText, go_sem, Nat.reduceAdd, Nat.reduceMul, Nat.reduceSub, Nat.reduceEqDiff, Nat.reduceLT, Nat.reduceLeDiff, Nat.reduceBEq, reduceIte, reduceCtorEq, Int.reduceAdd, Int.reduceLT, Int.reduceLE, Int.reduceGT, Int.reduceGE, Int.reduceEq, Int.reduceNe, Int.reduceBEq, Int.reduceBNe, Int.reduceToNat, Int.reduceNeg]
 omega
theorem qou (s : List UInt8) (hs : s.length ≤ 100000000) : ACall Try.prog 77 [.d (.str s)] [] (.own 0 1 (byteRows (wText s))) [] := by
 refine F77.go ?_
 try (refine ev ?_; try exact True.intro)
 refine clA F79 (qdp s hs) ?_
 try (refine ev ?_; try exact True.intro)
theorem qfh (v : Bool) : ACall Try.prog 78 [.d (.bool v)] [] (.full 1 (byteRows [if v then 1 else 0])) [] := by
 refine F78.go ?_
 try (refine ev ?_; try exact True.intro)
 have e1 : [[D.int .u8 1]] = byteRows [1] := rfl
 have e0 : [[D.int .u8 0]] = byteRows [0] := rfl
 cases v with
 | true =>
  (repeat (with_reducible refine ob ?_)); refine yo ?_
  try simp only [e1, go_sem, Nat.reduceAdd, Nat.reduceMul, Nat.reduceSub, Nat.reduceEqDiff, Nat.reduceLT, Nat.reduceLeDiff, Nat.reduceBEq, reduceIte, reduceCtorEq, Int.reduceAdd, Int.reduceLT, Int.reduceLE, Int.reduceGT, Int.reduceGE, Int.reduceEq, Int.reduceNe, Int.reduceBEq, Int.reduceBNe, Int.reduceToNat, Int.reduceNeg]
 | false =>
  (repeat (with_reducible refine ob ?_)); refine no_ ?_
  try simp only [e0, go_sem, Nat.reduceAdd, Nat.reduceMul, Nat.reduceSub, Nat.reduceEqDiff, Nat.reduceLT, Nat.reduceLeDiff, Nat.reduceBEq, reduceIte, reduceCtorEq, Int.reduceAdd, Int.reduceLT, Int.reduceLE, Int.reduceGT, Int.reduceGE, Int.reduceEq, Int.reduceNe, Int.reduceBEq, Int.reduceBNe, Int.reduceToNat, Int.reduceNeg]
def rProper (o : OpS) : Bool := decide ((o.key.length : Int) ≥ 1) && decide ((o.key.length : Int) ≤ 40) && decide ((o.val.length : Int) ≤ 900) && (!o.del || (o.val.length : Int) == 0)
theorem qov (o : OpS) : rProper o = sProper o := by
 unfold rProper sProper
 congr 1
 cases o.del
 ·rfl
 ·rw [Bool.eq_iff_iff]; simp
theorem qow (o : OpS) : ACall Try.prog 76 [.d (.agg (encOp o))] [] (.d (.bool (sProper o))) [] := by
 rw [← qov]
 refine F76.go ?_
 try simp only [encOp, rProper, go_sem, Nat.reduceAdd, Nat.reduceMul, Nat.reduceSub, Nat.reduceEqDiff, Nat.reduceLT, Nat.reduceLeDiff, Nat.reduceBEq, reduceIte, reduceCtorEq, Int.reduceAdd, Int.reduceLT, Int.reduceLE, Int.reduceGT, Int.reduceGE, Int.reduceEq, Int.reduceNe, Int.reduceBEq, Int.reduceBNe, Int.reduceToNat, Int.reduceNeg]
 intro h
 exact ⟨h, fun h2 => by rw [h]; simpa using h2⟩
def SrEnc (l : List OpS) (i : { i : Nat // i ≤ l.length ∧ ∀ o ∈ l.take i, sProper o = true }) : St :=
 ⟨[(0, true, .d (.sl 3 (l.map encOp))), (4, true, .own 0 1 (byteRows (wInt l.length ++ (l.take i.val).flatMap wOp))), (5, true, .d (.int .i64 (i.val : Nat)))], [], [0], 1⟩
set_option maxRecDepth 10000 in
theorem qbw (l : List OpS) (hl : l.length ≤ 100000) : ACall Try.prog 31 [.d (.sl 3 (l.map encOp))] [] (.tup [.d (.sl 1 (byteRows (sEncode l).1)), .d (.int .i64 (sEncode l).2)]) [] := by
 refine F31.goT ?_
 try (refine ev ?_; try exact True.intro)
 (repeat (with_reducible refine ob ?_)); refine xk _ (fun h => ?_) (fun h => ?_)
 ·have hb : sEncode l = ([], 1) := by
   unfold sEncode
   rw [if_pos]
   simp at h ⊢
   exact .inl h
  try simp only [hb, qk, go_sem, Nat.reduceAdd, Nat.reduceMul, Nat.reduceSub, Nat.reduceEqDiff, Nat.reduceLT, Nat.reduceLeDiff, Nat.reduceBEq, reduceIte, reduceCtorEq, Int.reduceAdd, Int.reduceLT, Int.reduceLE, Int.reduceGT, Int.reduceGE, Int.reduceEq, Int.reduceNe, Int.reduceBEq, Int.reduceBNe, Int.reduceToNat, Int.reduceNeg]
 have hw := zp (xc (n := l.length) (by omega))
 try (refine ev ?_; try exact True.intro)
 refine clA F75 (qjk l.length (xc (by omega))) ?_
 try (refine ev ?_; try exact True.intro)
 refine ql (SrEnc l) (fun i => l.length - i.val) ⟨0, Nat.zero_le _, by simp⟩ ?_ (fun i => ?_)
 ·try simp only [SrEnc, List.take_zero, List.flatMap_nil, List.append_nil, go_sem, Nat.reduceAdd, Nat.reduceMul, Nat.reduceSub, Nat.reduceEqDiff, Nat.reduceLT, Nat.reduceLeDiff, Nat.reduceBEq, reduceIte, reduceCtorEq, Int.reduceAdd, Int.reduceLT, Int.reduceLE, Int.reduceGT, Int.reduceGE, Int.reduceEq, Int.reduceNe, Int.reduceBEq, Int.reduceBNe, Int.reduceToNat, Int.reduceNeg]
 obtain ⟨i, hi, hp⟩ := i
 try simp only [SrEnc, go_sem, Nat.reduceAdd, Nat.reduceMul, Nat.reduceSub, Nat.reduceEqDiff, Nat.reduceLT, Nat.reduceLeDiff, Nat.reduceBEq, reduceIte, reduceCtorEq, Int.reduceAdd, Int.reduceLT, Int.reduceLE, Int.reduceGT, Int.reduceGE, Int.reduceEq, Int.reduceNe, Int.reduceBEq, Int.reduceBNe, Int.reduceToNat, Int.reduceNeg]
 refine xk _ (fun hc => ?_) (fun hc => ?_)
 ·have hil : i < l.length := by simpa using hc
  have hwl := wd hp
  have hwt : (l.take i).length ≤ i := by rw [List.length_take]; omega
  try simp only [qq encOp l hil, encOp, go_sem, Nat.reduceAdd, Nat.reduceMul, Nat.reduceSub, Nat.reduceEqDiff, Nat.reduceLT, Nat.reduceLeDiff, Nat.reduceBEq, reduceIte, reduceCtorEq, Int.reduceAdd, Int.reduceLT, Int.reduceLE, Int.reduceGT, Int.reduceGE, Int.reduceEq, Int.reduceNe, Int.reduceBEq, Int.reduceBNe, Int.reduceToNat, Int.reduceNeg]
  (repeat (with_reducible refine ob ?_))
  have hpo := qow l[i]
  simp only [encOp] at hpo
  (repeat (with_reducible refine ob ?_)); first | refine cl F76 (hpo) ?_ | refine clF F76 (hpo) (fun _ => by simp only [encOp, encEn, encStep, go_sem, Nat.reduceAdd, Nat.reduceMul, Nat.reduceSub, Nat.reduceEqDiff, Nat.reduceLT, Nat.reduceLeDiff, Nat.reduceBEq, reduceIte, reduceCtorEq, Int.reduceAdd, Int.reduceLT, Int.reduceLE, Int.reduceGT, Int.reduceGE, Int.reduceEq, Int.reduceNe, Int.reduceBEq, Int.reduceBNe, Int.reduceToNat, Int.reduceNeg]) ?_
  try (refine ev ?_; try exact True.intro)
  refine xk _ (fun hc => ?_) (fun hc => ?_)
  ·have hb : sEncode l = ([], 1) := by
    unfold sEncode
    rw [if_pos]
    simp only [Bool.or_eq_true, List.any_eq_true]
    exact .inr ⟨l[i], List.getElem_mem hil, hc⟩
   try simp only [hb, qk, go_sem, Nat.reduceAdd, Nat.reduceMul, Nat.reduceSub, Nat.reduceEqDiff, Nat.reduceLT, Nat.reduceLeDiff, Nat.reduceBEq, reduceIte, reduceCtorEq, Int.reduceAdd, Int.reduceLT, Int.reduceLE, Int.reduceGT, Int.reduceGE, Int.reduceEq, Int.reduceNe, Int.reduceBEq, Int.reduceBNe, Int.reduceToNat, Int.reduceNeg]
  have hpi : sProper l[i] = true := by simpa using hc
  obtain ⟨q1, q2, q3, _⟩ := xp.1 hpi
  try simp only [qq encOp l hil, encOp, go_sem, Nat.reduceAdd, Nat.reduceMul, Nat.reduceSub, Nat.reduceEqDiff, Nat.reduceLT, Nat.reduceLeDiff, Nat.reduceBEq, reduceIte, reduceCtorEq, Int.reduceAdd, Int.reduceLT, Int.reduceLE, Int.reduceGT, Int.reduceGE, Int.reduceEq, Int.reduceNe, Int.reduceBEq, Int.reduceBNe, Int.reduceToNat, Int.reduceNeg]
  (repeat (with_reducible refine ob ?_))
  have hw2 := qld hpi
  have hk := ku l[i].key (by omega)
  have hv := ku l[i].val (by omega)
  refine clA F77 (qou l[i].key (by omega)) ?_
  try simp only [qn, go_sem, Nat.reduceAdd, Nat.reduceMul, Nat.reduceSub, Nat.reduceEqDiff, Nat.reduceLT, Nat.reduceLeDiff, Nat.reduceBEq, reduceIte, reduceCtorEq, Int.reduceAdd, Int.reduceLT, Int.reduceLE, Int.reduceGT, Int.reduceGE, Int.reduceEq, Int.reduceNe, Int.reduceBEq, Int.reduceBNe, Int.reduceToNat, Int.reduceNeg]
  (repeat (with_reducible refine ob ?_))
  try simp only [qq encOp l hil, encOp, go_sem, Nat.reduceAdd, Nat.reduceMul, Nat.reduceSub, Nat.reduceEqDiff, Nat.reduceLT, Nat.reduceLeDiff, Nat.reduceBEq, reduceIte, reduceCtorEq, Int.reduceAdd, Int.reduceLT, Int.reduceLE, Int.reduceGT, Int.reduceGE, Int.reduceEq, Int.reduceNe, Int.reduceBEq, Int.reduceBNe, Int.reduceToNat, Int.reduceNeg]
  (repeat (with_reducible refine ob ?_))
  (repeat (with_reducible refine ob ?_)); first | refine cl F78 (qfh l[i].del) ?_ | refine clF F78 (qfh l[i].del) (fun _ => by simp only [encOp, encEn, encStep, go_sem, Nat.reduceAdd, Nat.reduceMul, Nat.reduceSub, Nat.reduceEqDiff, Nat.reduceLT, Nat.reduceLeDiff, Nat.reduceBEq, reduceIte, reduceCtorEq, Int.reduceAdd, Int.reduceLT, Int.reduceLE, Int.reduceGT, Int.reduceGE, Int.reduceEq, Int.reduceNe, Int.reduceBEq, Int.reduceBNe, Int.reduceToNat, Int.reduceNeg]) ?_
  try simp only [qn, go_sem, Nat.reduceAdd, Nat.reduceMul, Nat.reduceSub, Nat.reduceEqDiff, Nat.reduceLT, Nat.reduceLeDiff, Nat.reduceBEq, reduceIte, reduceCtorEq, Int.reduceAdd, Int.reduceLT, Int.reduceLE, Int.reduceGT, Int.reduceGE, Int.reduceEq, Int.reduceNe, Int.reduceBEq, Int.reduceBNe, Int.reduceToNat, Int.reduceNeg]
  (repeat (with_reducible refine ob ?_))
  try simp only [qq encOp l hil, encOp, go_sem, Nat.reduceAdd, Nat.reduceMul, Nat.reduceSub, Nat.reduceEqDiff, Nat.reduceLT, Nat.reduceLeDiff, Nat.reduceBEq, reduceIte, reduceCtorEq, Int.reduceAdd, Int.reduceLT, Int.reduceLE, Int.reduceGT, Int.reduceGE, Int.reduceEq, Int.reduceNe, Int.reduceBEq, Int.reduceBNe, Int.reduceToNat, Int.reduceNeg]
  (repeat (with_reducible refine ob ?_))
  refine clA F79 (qdp l[i].val (by omega)) ?_
  try simp only [qn, go_sem, Nat.reduceAdd, Nat.reduceMul, Nat.reduceSub, Nat.reduceEqDiff, Nat.reduceLT, Nat.reduceLeDiff, Nat.reduceBEq, reduceIte, reduceCtorEq, Int.reduceAdd, Int.reduceLT, Int.reduceLE, Int.reduceGT, Int.reduceGE, Int.reduceEq, Int.reduceNe, Int.reduceBEq, Int.reduceBNe, Int.reduceToNat, Int.reduceNeg]
  (repeat (with_reducible refine ob ?_))
  have h1 : wInt l.length ++ (l.take (i + 1)).flatMap wOp = wInt l.length ++ List.flatMap wOp (List.take i l) ++ wText l[i].key ++ [if l[i].del = true then 1 else 0] ++ wText l[i].val := by
   rw [qda wOp l hil]; simp [wOp]
  refine ⟨⟨i + 1, hil, fun o ho => ?_⟩, ?_, by dsimp only; omega⟩
  ·rw [List.take_succ_eq_append_getElem hil] at ho
   rcases List.mem_append.1 ho with ho | ho
   ·exact hp o ho
   ·simp at ho; subst ho; exact hpi
  try simp only [SrEnc, h1, qj (show i < 9223372036854775807 by omega), go_sem, Nat.reduceAdd, Nat.reduceMul, Nat.reduceSub, Nat.reduceEqDiff, Nat.reduceLT, Nat.reduceLeDiff, Nat.reduceBEq, reduceIte, reduceCtorEq, Int.reduceAdd, Int.reduceLT, Int.reduceLE, Int.reduceGT, Int.reduceGE, Int.reduceEq, Int.reduceNe, Int.reduceBEq, Int.reduceBNe, Int.reduceToNat, Int.reduceNeg]
 ·have hil : i = l.length := by simp at hc; omega
  subst hil
  rw [List.take_length] at hp
  have hwl := wd hp
  have hne : ¬ (decide (l.length = 0) || l.any (fun o => !sProper o)) = true := by
   simp only [Bool.or_eq_true, decide_eq_true_eq, not_or, List.any_eq_true, not_exists, not_and]
   exact ⟨by simp at h; simpa using h, fun o ho => by simp [hp o ho]⟩
  have hx : wInt l.length ++ l.flatMap wOp = wOps l := rfl
  try simp only [List.take_length, hx, go_sem, Nat.reduceAdd, Nat.reduceMul, Nat.reduceSub, Nat.reduceEqDiff, Nat.reduceLT, Nat.reduceLeDiff, Nat.reduceBEq, reduceIte, reduceCtorEq, Int.reduceAdd, Int.reduceLT, Int.reduceLE, Int.reduceGT, Int.reduceGE, Int.reduceEq, Int.reduceNe, Int.reduceBEq, Int.reduceBNe, Int.reduceToNat, Int.reduceNeg]
  refine ⟨fun h => by rw [h]; rfl, ?_⟩
  refine xk _ (fun hc => ?_) (fun hc => ?_)
  ·have hb : sEncode l = ([], 6) := by
    unfold sEncode
    rw [if_neg hne, if_pos]
    simp only [Bool.or_eq_true, decide_eq_true_eq] at hc ⊢
    omega
   try simp only [hb, qk, go_sem, Nat.reduceAdd, Nat.reduceMul, Nat.reduceSub, Nat.reduceEqDiff, Nat.reduceLT, Nat.reduceLeDiff, Nat.reduceBEq, reduceIte, reduceCtorEq, Int.reduceAdd, Int.reduceLT, Int.reduceLE, Int.reduceGT, Int.reduceGE, Int.reduceEq, Int.reduceNe, Int.reduceBEq, Int.reduceBNe, Int.reduceToNat, Int.reduceNeg]
  ·have hb : sEncode l = (wOps l, 0) := by
    unfold sEncode
    rw [if_neg hne, if_neg]
    simp only [Bool.or_eq_true, Bool.or_eq_false_iff, decide_eq_true_eq, decide_eq_false_iff_not] at hc ⊢
    omega
   try simp only [hb, go_sem, Nat.reduceAdd, Nat.reduceMul, Nat.reduceSub, Nat.reduceEqDiff, Nat.reduceLT, Nat.reduceLeDiff, Nat.reduceBEq, reduceIte, reduceCtorEq, Int.reduceAdd, Int.reduceLT, Int.reduceLE, Int.reduceGT, Int.reduceGE, Int.reduceEq, Int.reduceNe, Int.reduceBEq, Int.reduceBNe, Int.reduceToNat, Int.reduceNeg]
end Go.Proofs.Ytinnaedmdoengaa
namespace Go.Proofs.Ytinnaedmdoengaa
open Go.Abs
set_option linter.unusedSimpArgs false
set_option linter.unusedVariables false
structure Rd where
 b : List UInt8
 pos : Nat
 failed : Bool
 deriving DecidableEq, Inhabited
def rdO (r : Rd) : AObj := .row [.d (.sl 1 (byteRows r.b)), .d (.int .i64 (r.pos : Nat)), .d (.bool r.failed)]
structure Rd.Ok (r : Rd) : Prop where
 len : r.b.length ≤ 1000000000
 pos : r.pos ≤ r.b.length
def rNext (n : Nat) (r : Rd) : List UInt8 × Rd := if r.failed || decide (r.b.length - r.pos < n) then ([], { r with failed := true }) else ((r.b.drop r.pos).take n, { r with pos := r.pos + n })
noncomputable section
set_option maxRecDepth 100000
def s61r0 : List SOper := [
 ⟨some 2, .mov (.k (.d .nilptr)), none⟩]
def s61r1 : List SOper := [
 ⟨some 3, .mov (.t 0), none⟩,
 ⟨some 4, .append false 1 1 (.k (.d .nilsl)) (.t 3), none⟩,
 ⟨some 5, .build [.nilsl, (.int .i64 0), (.bool false)] [(0, 1, (.t 4))], none⟩,
 ⟨some 6, .box 1 (.t 5), none⟩,
 ⟨some 2, .mov (.t 6), none⟩]
def s61 : SCode := (.seq (.region s61r0 0 []) (.seq (.region s61r1 1 []) .ret))
theorem e61 : CodeIs s61.eq_1 := qc s61.eq_1
theorem xdh : RegIs s61r0.eq_1 := qa
theorem xdi : RegIs s61r1.eq_1 := qa
attribute [go_sem] xdh xdi e61
theorem F61 : FnIs Try.prog 61 Try.f61 [] news s61 [.tmp 2] 7 := xe follows Try.func61
def s141r0 : List SOper := [
 ⟨some 4, .mov (.k (.d .nilsl)), none⟩]
def s141r1 : List SOper := [
 ⟨some 5, .mov (.t 0), none⟩,
 ⟨some 6, .nilCheck (.t 5), none⟩,
 ⟨some 7, .faddr 2 (.t 6), none⟩,
 ⟨some 8, .load none (.t 7), none⟩,
 ⟨some 9, .mov (.t 8), none⟩,
 ⟨some 10, .mov (.t 1), some (9, false)⟩,
 ⟨some 11, .mov (.t 0), some (9, false)⟩,
 ⟨some 12, .nilCheck (.t 11), some (9, false)⟩,
 ⟨some 13, .faddr 0 (.t 12), some (9, false)⟩,
 ⟨some 14, .load none (.t 13), some (9, false)⟩,
 ⟨some 15, .len (.t 14), some (9, false)⟩,
 ⟨some 16, .mov (.t 0), some (9, false)⟩,
 ⟨some 17, .nilCheck (.t 16), some (9, false)⟩,
 ⟨some 18, .faddr 1 (.t 17), some (9, false)⟩,
 ⟨some 19, .load none (.t 18), some (9, false)⟩,
 ⟨some 20, .bin .sub (.t 15) (.t 19), some (9, false)⟩,
 ⟨some 21, .bin .gtr (.t 10) (.t 20), some (9, false)⟩,
 ⟨some 22, .pick (.t 9) (.k (.d (.bool true))) (.t 21), none⟩]
def s141r2 : List SOper := [
 ⟨some 23, .mov (.t 0), none⟩,
 ⟨some 24, .nilCheck (.t 23), none⟩,
 ⟨some 25, .faddr 2 (.t 24), none⟩,
 ⟨none, .store none (.t 25) (.k (.d (.bool true))), none⟩]
def s141r3 : List SOper := [
 ⟨some 4, .mov (.k (.d .nilsl)), none⟩]
def s141r4 : List SOper := [
 ⟨some 26, .mov (.t 0), none⟩,
 ⟨some 27, .nilCheck (.t 26), none⟩,
 ⟨some 28, .faddr 1 (.t 27), none⟩,
 ⟨some 29, .load none (.t 28), none⟩,
 ⟨some 30, .mov (.t 1), none⟩,
 ⟨some 31, .bin .add (.t 29) (.t 30), none⟩,
 ⟨some 32, .nilCheck (.t 26), none⟩,
 ⟨some 33, .faddr 1 (.t 32), none⟩,
 ⟨none, .store none (.t 33) (.t 31), none⟩]
def s141r5 : List SOper := [
 ⟨some 34, .mov (.t 0), none⟩,
 ⟨some 35, .nilCheck (.t 34), none⟩,
 ⟨some 36, .faddr 0 (.t 35), none⟩,
 ⟨some 37, .load none (.t 36), none⟩,
 ⟨some 38, .mov (.t 0), none⟩,
 ⟨some 39, .nilCheck (.t 38), none⟩,
 ⟨some 40, .faddr 1 (.t 39), none⟩,
 ⟨some 41, .load none (.t 40), none⟩,
 ⟨some 42, .mov (.t 1), none⟩,
 ⟨some 43, .bin .sub (.t 41) (.t 42), none⟩,
 ⟨some 44, .mov (.t 0), none⟩,
 ⟨some 45, .nilCheck (.t 44), none⟩,
 ⟨some 46, .faddr 1 (.t 45), none⟩,
 ⟨some 47, .load none (.t 46), none⟩,
 ⟨some 48, .slice 1 (.t 37) (some (.t 43)) (some (.t 47)) none, none⟩,
 ⟨some 4, .mov (.t 48), none⟩]
def s141 : SCode := (.seq (.region s141r0 0 []) (.seq (.seq (.region s141r1 0 []) (.cond (.t 22) (.seq (.region s141r2 0 []) (.seq (.region s141r3 0 []) .ret)) .skip)) (.seq (.region s141r4 0 []) (.seq (.region s141r5 0 []) .ret))))
theorem xh8 : CodeIs s141.eq_1 := qc s141.eq_1
theorem q2r : RegIs s141r0.eq_1 := qa
theorem q2s : RegIs s141r1.eq_1 := qa
theorem q2t : RegIs s141r2.eq_1 := qa
theorem q2u : RegIs s141r3.eq_1 := qa
theorem q2v : RegIs s141r4.eq_1 := qa
theorem q2w : RegIs s141r5.eq_1 := qa
attribute [go_sem] q2r q2s q2t q2u q2v q2w xh8
theorem q7i : FnIs Try.prog 141 Try.f141 [] news s141 [.tmp 4] 49 := xe follows Try.func141
def s118r0 : List SOper := [
 ⟨some 2, .mov (.k (.d (.int .i64 0))), none⟩]
def s118r1 : List SOper := [
 ⟨some 3, .mov (.t 0), none⟩,
 ⟨some 4, .eqnil false .ptr (.t 3), none⟩]
def s118r2 : List SOper := [
 ⟨some 2, .mov (.k (.d (.int .i64 0))), none⟩]
def s118r3 : List SOper := [
 ⟨some 5, .mov (.t 0), none⟩,
 ⟨some 6, .nilCheck (.t 5), none⟩,
 ⟨some 7, .faddr 0 (.t 6), none⟩,
 ⟨some 8, .load none (.t 7), none⟩,
 ⟨some 9, .len (.t 8), none⟩,
 ⟨some 10, .mov (.t 0), none⟩,
 ⟨some 11, .nilCheck (.t 10), none⟩,
 ⟨some 12, .faddr 1 (.t 11), none⟩,
 ⟨some 13, .load none (.t 12), none⟩,
 ⟨some 14, .bin .sub (.t 9) (.t 13), none⟩,
 ⟨some 2, .mov (.t 14), none⟩]
def s118 : SCode := (.seq (.region s118r0 0 []) (.seq (.seq (.region s118r1 0 []) (.cond (.t 4) (.seq (.region s118r2 0 []) .ret) .skip)) (.seq (.region s118r3 0 []) .ret)))
theorem xh9 : CodeIs s118.eq_1 := qc s118.eq_1
theorem q2x : RegIs s118r0.eq_1 := qa
theorem q2y : RegIs s118r1.eq_1 := qa
theorem q2z : RegIs s118r2.eq_1 := qa
theorem q20 : RegIs s118r3.eq_1 := qa
attribute [go_sem] q2x q2y q2z q20 xh9
theorem xg7 : FnIs Try.prog 118 Try.f118 [] news s118 [.tmp 2] 15 := xe follows Try.func118
def s84r0 : List SOper := [
 ⟨some 2, .mov (.k (.d (.int .i64 0))), none⟩]
def s84r1 : List SOper := [
 ⟨some 4, .mov (.t 0), none⟩,
 ⟨some 5, .eqnil false .ptr (.t 4), none⟩,
 ⟨some 3, .mov (.t 5), none⟩]
def s84r2 : List SOper := [
 ⟨some 2, .mov (.k (.d (.int .i64 7))), none⟩]
def s84r3 : List SOper := [
 ⟨some 7, .mov (.t 0), none⟩,
 ⟨some 8, .nilCheck (.t 7), none⟩,
 ⟨some 9, .faddr 2 (.t 8), none⟩,
 ⟨some 10, .load none (.t 9), none⟩,
 ⟨some 11, .mov (.t 10), none⟩,
 ⟨some 12, .mov (.t 0), some (11, false)⟩,
 ⟨some 13, .call (.k (.d (.func (.func 118) [] []))) [(.t 12)], some (11, false)⟩,
 ⟨some 14, .bin .gtr (.t 13) (.k (.d (.int .i64 0))), some (11, false)⟩,
 ⟨some 15, .pick (.t 11) (.k (.d (.bool true))) (.t 14), none⟩,
 ⟨some 6, .mov (.t 15), none⟩]
def s84r4 : List SOper := [
 ⟨some 2, .mov (.k (.d (.int .i64 4))), none⟩]
def s84r5 : List SOper := [
 ⟨some 2, .mov (.k (.d (.int .i64 0))), none⟩]
def s84 : SCode := (.seq (.region s84r0 0 []) (.seq (.block 0 (.seq (.region s84r1 0 []) (.cond (.t 3) (.seq (.region s84r2 0 []) .ret) (.seq (.region s84r3 0 []) (.cond (.t 6) (.seq (.region s84r4 0 []) .ret) .skip))))) (.seq (.region s84r5 0 []) .ret)))
theorem e84 : CodeIs s84.eq_1 := qc s84.eq_1
theorem xdj : RegIs s84r0.eq_1 := qa
theorem xdk : RegIs s84r1.eq_1 := qa
theorem xdl : RegIs s84r2.eq_1 := qa
theorem xdm : RegIs s84r3.eq_1 := qa
theorem xdn : RegIs s84r4.eq_1 := qa
theorem xdo : RegIs s84r5.eq_1 := qa
attribute [go_sem] xdj xdk xdl xdm xdn xdo e84
theorem F84 : FnIs Try.prog 84 Try.f84 [] news s84 [.tmp 2] 16 := xe follows Try.func84
end
theorem qun (b : List UInt8) (hb : b.length ≤ 1000000000) : ACall Try.prog 61 [.d (.sl 1 (byteRows b))] [] (.d (.ptr 0 0)) [rdO ⟨b, 0, false⟩] := by
 refine F61.go ?_
 try (refine ev ?_; try exact True.intro)
 (repeat (with_reducible refine ob ?_))
 try (refine ev2 @rdO.eq_1 @Int.ofNat_zero ?_; try exact True.intro)
theorem qg0 (r : Rd) (n : Nat) (hr : r.Ok) (hn : n ≤ 1000000000) : ACall Try.prog 141 [.d (.ptr 0 0), .d (.int .i64 n)] [rdO r] (.d (.sl 1 (byteRows (rNext n r).1))) [rdO (rNext n r).2] := by
 have h1 := hr.len
 have h2 := hr.pos
 have e1 : IntKind.i64.wrap ((r.b.length : Int) - (r.pos : Int)) = ((r.b.length - r.pos : Nat) : Int) := by rw [qu (by unfold I64; omega)]; omega
 have e2 : IntKind.i64.wrap ((r.pos : Int) + (n : Int)) = ((r.pos + n : Nat) : Int) := by rw [qu (by unfold I64; omega)]; omega
 have e3 : IntKind.i64.wrap ((r.pos : Int) + (n : Int) - (n : Int)) = ((r.pos : Nat) : Int) := by rw [qu (by unfold I64; omega)]; omega
 have e5 : ((r.pos : Int) + (n : Int)).toNat = r.pos + n := by omega
 refine q7i.go ?_
 try (refine ev2 @rdO.eq_1 @e1 ?_; try exact True.intro)
 refine ⟨fun h => by rw [h]; rfl, ?_⟩
 have hd : (r.failed || decide ((n : Int) > ((r.b.length - r.pos : Nat) : Int))) = (r.failed || decide (r.b.length - r.pos < n)) := by
  congr 1; exact decide_eq_decide.2 (by omega)
 refine xk _ (fun h => ?_) (fun h => ?_)
 ·rw [hd] at h
  have hx : rNext n r = ([], { r with failed := true }) := by unfold rNext; rw [if_pos h]
  try (refine ev2 @hx @qk ?_; try exact True.intro)
 ·rw [hd] at h
  have hx : rNext n r = ((r.b.drop r.pos).take n, { r with pos := r.pos + n }) := by unfold rNext; rw [if_neg (by rw [h]; simp)]
  simp only [Bool.or_eq_false_iff, decide_eq_false_iff_not] at h
  have e4 : r.pos + n - r.pos = n := by omega
  try (refine ev2 @hx @e2 ?_; try exact True.intro)
  try (refine ev1 @e3 ?_; try exact True.intro)
  (repeat (with_reducible refine ob ?_))
  try (refine ev6 @xq @qx @e4 @e3 @e5 @Int.toNat_natCast ?_; try exact True.intro)
theorem v7 {r : Rd} (hr : r.Ok) (n : Nat) : (rNext n r).2.Ok ∧ (rNext n r).2.b = r.b := by
 unfold rNext
 split
 ·exact ⟨⟨hr.len, hr.pos⟩, rfl⟩
 ·rename_i h
  simp only [Bool.or_eq_true, decide_eq_true_eq, not_or] at h
  have := hr.pos
  exact ⟨⟨hr.len, by simp only; omega⟩, rfl⟩
theorem qup (r : Rd) (hr : r.Ok) : ACall Try.prog 118 [.d (.ptr 0 0)] [rdO r] (.d (.int .i64 (r.b.length - r.pos : Nat))) [rdO r] := by
 have h1 := hr.len
 have h2 := hr.pos
 have e1 : IntKind.i64.wrap ((r.b.length : Int) - (r.pos : Int)) = ((r.b.length - r.pos : Nat) : Int) := by rw [qu (by unfold I64; omega)]; omega
 refine xg7.go ?_
 try (refine ev1 @rdO.eq_1 ?_; try exact True.intro)
 (repeat (with_reducible refine ob ?_)); refine no_ ?_
 try (refine ev1 @e1 ?_; try exact True.intro)
def rEnd (r : Rd) : Int := if r.failed || decide (r.pos < r.b.length) then 4 else 0
theorem qw4 (r : Rd) (hr : r.Ok) : ACall Try.prog 84 [.d (.ptr 0 0)] [rdO r] (.d (.int .i64 (rEnd r))) [rdO r] := by
 have h2 := hr.pos
 have hl := qup r hr
 simp only [rdO] at hl
 obtain ⟨b, p, f⟩ := r
 refine F84.go ?_
 try (refine ev1 @rdO.eq_1 ?_; try exact True.intro)
 (repeat (with_reducible refine ob ?_)); refine no_ ?_
 cases f
 ·try (refine ev ?_; try exact True.intro)
  (repeat (with_reducible refine ob ?_)); refine clO [0] xg7 (hl) ?_
  try (refine ev ?_; try exact True.intro)
  refine xk _ (fun h => ?_) (fun h => ?_)
  ·have hx : rEnd ⟨b, p, false⟩ = 4 := by unfold rEnd; rw [if_pos]; simp at h ⊢; omega
   try (refine ev1 @hx ?_; try exact True.intro)
  ·have hx : rEnd ⟨b, p, false⟩ = 0 := by unfold rEnd; rw [if_neg]; simp at h ⊢; omega
   try (refine ev1 @hx ?_; try exact True.intro)
 ·try (refine ev ?_; try exact True.intro)
  refine qcy (.int .i64 0) rfl ?_
  try (refine ev1 @rEnd.eq_1 ?_; try exact True.intro)
  (repeat (with_reducible refine ob ?_)); refine yo ?_
  try (refine ev ?_; try exact True.intro)
def unz (u : Nat) : Int := if u % 2 = 0 then (u / 2 : Nat) else -((u / 2 : Nat) : Int) - 1
def rIntG : Nat → Nat → Nat → Rd → Int × Rd
 | 0, _, _, r => (0, { r with failed := true })
 | k + 1, i, u, r =>
  if (rNext 1 r).2.failed then (0, (rNext 1 r).2) else
   if ((rNext 1 r).1.headD 0).toNat < 128 then (unz ((u + ((rNext 1 r).1.headD 0).toNat % 128 * 128 ^ i) % 18446744073709551616), { (rNext 1 r).2 with failed := (((rNext 1 r).1.headD 0).toNat == 0 && decide (0 < i)) || (decide (i = 9) && decide (((rNext 1 r).1.headD 0).toNat > 1)) })
   else rIntG k (i + 1) ((u + ((rNext 1 r).1.headD 0).toNat % 128 * 128 ^ i) % 18446744073709551616) (rNext 1 r).2
def rInt (r : Rd) : Int × Rd := rIntG 10 0 0 r
noncomputable section
set_option maxRecDepth 100000
def s106r0 : List SOper := [
 ⟨some 2, .mov (.k (.d (.int .i64 0))), none⟩]
def s106r1 : List SOper := [
 ⟨some 3, .mov (.k (.d (.int .u64 0))), none⟩]
def s106r2 : List SOper := [
 ⟨some 6, .mov (.k (.d (.int .i64 0))), none⟩]
def s106r3 : List SOper := [
 ⟨some 7, .bin .lss (.t 6) (.k (.d (.int .i64 10))), none⟩]
def s106r4 : List SOper := [
 ⟨some 8, .mov (.t 6), none⟩,
 ⟨some 4, .mov (.t 8), none⟩]
def s106r5 : List SOper := [
 ⟨some 9, .mov (.t 0), none⟩,
 ⟨some 10, .call (.k (.d (.func (.func 141) [] []))) [(.t 9), (.k (.d (.int .i64 1)))], none⟩,
 ⟨some 5, .mov (.t 10), none⟩]
def s106r6 : List SOper := [
 ⟨some 11, .mov (.t 0), none⟩,
 ⟨some 12, .nilCheck (.t 11), none⟩,
 ⟨some 13, .faddr 2 (.t 12), none⟩,
 ⟨some 14, .load none (.t 13), none⟩]
def s106r7 : List SOper := [
 ⟨some 2, .mov (.k (.d (.int .i64 0))), none⟩]
def s106r8 : List SOper := [
 ⟨some 15, .mov (.t 3), none⟩,
 ⟨some 16, .mov (.t 5), none⟩,
 ⟨some 17, .iaddr 1 (.t 16) (.k (.d (.int .i64 0))), none⟩,
 ⟨some 18, .load none (.t 17), none⟩,
 ⟨some 19, .bin .and (.t 18) (.k (.d (.int .u8 127))), none⟩,
 ⟨some 20, .conv .u64 (.t 19), none⟩,
 ⟨some 21, .mov (.t 4), none⟩,
 ⟨some 22, .bin .mul (.k (.d (.int .i64 7))) (.t 21), none⟩,
 ⟨some 23, .bin .shl (.t 20) (.t 22), none⟩,
 ⟨some 24, .bin .or (.t 15) (.t 23), none⟩,
 ⟨some 3, .mov (.t 24), none⟩]
def s106r9 : List SOper := [
 ⟨some 25, .mov (.t 5), none⟩,
 ⟨some 26, .iaddr 1 (.t 25) (.k (.d (.int .i64 0))), none⟩,
 ⟨some 27, .load none (.t 26), none⟩,
 ⟨some 28, .bin .lss (.t 27) (.k (.d (.int .u8 128))), none⟩]
def s106r10 : List SOper := [
 ⟨some 29, .mov (.t 0), none⟩,
 ⟨some 30, .mov (.t 5), none⟩,
 ⟨some 31, .iaddr 1 (.t 30) (.k (.d (.int .i64 0))), none⟩,
 ⟨some 32, .load none (.t 31), none⟩,
 ⟨some 33, .bin .eql (.t 32) (.k (.d (.int .u8 0))), none⟩,
 ⟨some 34, .mov (.t 33), none⟩,
 ⟨some 35, .mov (.t 4), some (34, true)⟩,
 ⟨some 36, .bin .gtr (.t 35) (.k (.d (.int .i64 0))), some (34, true)⟩,
 ⟨some 37, .pick (.t 34) (.t 36) (.k (.d (.bool false))), none⟩,
 ⟨some 38, .mov (.t 37), none⟩,
 ⟨some 39, .mov (.t 4), some (38, false)⟩,
 ⟨some 40, .bin .eql (.t 39) (.k (.d (.int .i64 9))), some (38, false)⟩,
 ⟨some 41, .mov (.t 40), some (38, false)⟩,
 ⟨some 42, .mov (.t 5), some (41, true)⟩,
 ⟨some 43, .iaddr 1 (.t 42) (.k (.d (.int .i64 0))), some (41, true)⟩,
 ⟨some 44, .load none (.t 43), some (41, true)⟩,
 ⟨some 45, .bin .gtr (.t 44) (.k (.d (.int .u8 1))), some (41, true)⟩,
 ⟨some 46, .pick (.t 41) (.t 45) (.k (.d (.bool false))), some (38, false)⟩,
 ⟨some 47, .pick (.t 38) (.k (.d (.bool true))) (.t 46), none⟩,
 ⟨some 48, .nilCheck (.t 29), none⟩,
 ⟨some 49, .faddr 2 (.t 48), none⟩,
 ⟨none, .store none (.t 49) (.t 47), none⟩]
def s106r11 : List SOper := [
 ⟨some 50, .mov (.t 3), none⟩,
 ⟨some 51, .bin .shr (.t 50) (.k (.d (.int .u64 1))), none⟩,
 ⟨some 52, .conv .i64 (.t 51), none⟩,
 ⟨some 53, .mov (.t 3), none⟩,
 ⟨some 54, .bin .and (.t 53) (.k (.d (.int .u64 1))), none⟩,
 ⟨some 55, .conv .i64 (.t 54), none⟩,
 ⟨some 56, .neg (.t 55), none⟩,
 ⟨some 57, .bin .xor (.t 52) (.t 56), none⟩,
 ⟨some 2, .mov (.t 57), none⟩]
def s106r12 : List SOper := [
 ⟨some 58, .bin .add (.t 6) (.k (.d (.int .i64 1))), none⟩,
 ⟨some 6, .mov (.t 58), none⟩]
def s106l13 : SCode := (.seq (.region s106r3 0 []) (.seq (.cond (.t 7) .skip (.exit 0)) (.seq (.block 1 (.seq (.region s106r4 0 []) (.seq (.region s106r5 0 []) (.seq (.seq (.region s106r6 0 []) (.cond (.t 14) (.seq (.region s106r7 0 []) .ret) .skip)) (.seq (.region s106r8 0 []) (.seq (.region s106r9 0 []) (.cond (.t 28) (.seq (.region s106r10 0 []) (.seq (.region s106r11 0 []) .ret)) .skip))))))) (.region s106r12 0 []))))
theorem qw5 : CodeIs s106l13.eq_1 := qc s106l13.eq_1
def s106r14 : List SOper := [
 ⟨some 59, .mov (.t 0), none⟩,
 ⟨some 60, .nilCheck (.t 59), none⟩,
 ⟨some 61, .faddr 2 (.t 60), none⟩,
 ⟨none, .store none (.t 61) (.k (.d (.bool true))), none⟩]
def s106r15 : List SOper := [
 ⟨some 2, .mov (.k (.d (.int .i64 0))), none⟩]
def s106 : SCode := (.seq (.region s106r0 0 []) (.seq (.region s106r1 0 []) (.seq (.seq (.region s106r2 0 []) (.block 0 (.loop s106l13))) (.seq (.region s106r14 0 []) (.seq (.region s106r15 0 []) .ret)))))
theorem xia : CodeIs s106.eq_1 := qc s106.eq_1
theorem q21 : RegIs s106r0.eq_1 := qa
theorem q22 : RegIs s106r1.eq_1 := qa
theorem q23 : RegIs s106r2.eq_1 := qa
theorem q24 : RegIs s106r3.eq_1 := qa
theorem q25 : RegIs s106r4.eq_1 := qa
theorem q26 : RegIs s106r5.eq_1 := qa
theorem q27 : RegIs s106r6.eq_1 := qa
theorem q28 : RegIs s106r7.eq_1 := qa
theorem q29 : RegIs s106r8.eq_1 := qa
theorem q3a : RegIs s106r9.eq_1 := qa
theorem qw6 : RegIs s106r10.eq_1 := qa
theorem qw7 : RegIs s106r11.eq_1 := qa
theorem qw8 : RegIs s106r12.eq_1 := qa
theorem qw9 : RegIs s106r14.eq_1 := qa
theorem qxa : RegIs s106r15.eq_1 := qa
attribute [go_sem] q21 q22 q23 q24 q25 q26 q27 q28 q29 q3a qw6 qw7 qw8 qw5 qw9 qxa xia
theorem xdp : FnIs Try.prog 106 Try.f106 [] news s106 [.tmp 2] 62 := xe follows Try.func106
end
theorem qsd (s : List UInt8) (h : s ≠ []) : (byteRows s).getD 0 [] = [byteD (s.headD 0)] := by
 cases s with
 | nil => exact absurd rfl h
 | cons c s => rfl
theorem qjl {r : Rd} (h : (rNext 1 r).2.failed = false) : ∃ c, (rNext 1 r).1 = [c] := by
 unfold rNext at h ⊢
 split at h
 ·cases h
 ·rename_i hn
  rw [if_neg hn]
  simp only [Bool.or_eq_true, decide_eq_true_eq, not_or] at hn
  have : r.pos < r.b.length := by omega
  exact ⟨r.b[r.pos], by simp only; rw [List.drop_eq_getElem_cons this]; rfl⟩
theorem qrp (u d i : Nat) (hu : u < 2 ^ i) : u ||| d * 2 ^ i = u + d * 2 ^ i := by
 have := Nat.shiftLeft_add_eq_or_of_lt hu d
 rw [Nat.shiftLeft_eq] at this
 rw [Nat.or_comm, ← this, Nat.add_comm]
theorem qrq (i : Nat) : 128 ^ i = 2 ^ (7 * i) := by rw [Nat.pow_mul]
theorem qjm (n a b : Nat) (ha : a < 2 ^ n) (hb : b < 2 ^ n) : bvAnd n (a : Int) (b : Int) = ((a &&& b : Nat) : Int) := by
 unfold bvAnd
 rw [BitVec.ofInt_natCast, BitVec.ofInt_natCast, BitVec.toNat_and, BitVec.toNat_ofNat, BitVec.toNat_ofNat, Nat.mod_eq_of_lt ha, Nat.mod_eq_of_lt hb]
theorem quq {u c i : Nat} (hi : i ≤ 9) (hu : u < 128 ^ i) (hc : c < 256) :
  IntKind.u64.wrap (bvOr 64 (u : Int) (IntKind.u64.wrap (IntKind.u64.wrap (IntKind.u8.wrap (bvAnd 8 (c : Int) 127)) * 2 ^ min (7 * i) 64))) = (((u + c % 128 * 128 ^ i) % 18446744073709551616 : Nat) : Int) := by
 have e1 : bvAnd 8 (c : Int) 127 = ((c % 128 : Nat) : Int) := by
  have := qjm 8 c 127 (by omega) (by omega)
  rw [show c &&& 127 = c % 128 from Nat.and_two_pow_sub_one_eq_mod c 7] at this
  exact this
 have e2 : min (7 * i) 64 = 7 * i := by omega
 have hcm : c % 128 < 128 := Nat.mod_lt _ (by decide)
 rw [e1, e2, qc7, show ((c % 128 : Nat) : Int) % 256 = ((c % 128 : Nat) : Int) by omega, f2 _ (by omega)]
 generalize c % 128 = d at hcm
 have e3 : ((d : Nat) : Int) * 2 ^ (7 * i) = ((d * 2 ^ (7 * i) : Nat) : Int) := by simp
 rw [e3]
 have hp : 128 ^ i ≤ 128 ^ 9 := Nat.pow_le_pow_right (by decide) hi
 have hp9 : (128 : Nat) ^ 9 = 9223372036854775808 := by decide
 have e4 : IntKind.u64.wrap ((d * 2 ^ (7 * i) : Nat) : Int) = ((d * 2 ^ (7 * i) % 18446744073709551616 : Nat) : Int) := by rw [yi]; omega
 rw [e4, qmk _ _ (by omega) (Nat.mod_lt _ (by decide)), qrq]
 rw [qrq] at hu
 rcases Nat.lt_or_ge i 9 with h9 | h9
 ·have hp8 : 128 ^ i ≤ 128 ^ 8 := Nat.pow_le_pow_right (by decide) (by omega)
  have e8 : (128 : Nat) ^ 8 = 72057594037927936 := by decide
  rw [qrq] at hp8
  have hd : d * 2 ^ (7 * i) ≤ 127 * 72057594037927936 := Nat.mul_le_mul (by omega) (by omega)
  rw [Nat.mod_eq_of_lt (by omega), qrp _ _ _ hu, f2 _ (by omega), Nat.mod_eq_of_lt (by omega)]
 ·have : i = 9 := by omega
  subst this
  have e9 : (2 : Nat) ^ (7 * 9) = 9223372036854775808 := by decide
  rw [e9] at hu ⊢
  have h1 : d * 9223372036854775808 % 18446744073709551616 = d % 2 * 2 ^ 63 := by
   have : (2 : Nat) ^ 63 = 9223372036854775808 := by decide
   rw [this]; omega
  rw [h1, qrp u (d % 2) 63 (by
   have : (2 : Nat) ^ 63 = 9223372036854775808 := by decide
   omega)]
  have : (2 : Nat) ^ 63 = 9223372036854775808 := by decide
  rw [this, f2 _ (by omega)]
  congr 1
  omega
theorem qur {u : Nat} (h : u < 18446744073709551616) :
  IntKind.i64.wrap (bvXor 64 (IntKind.i64.wrap ((u : Int).fdiv (2 ^ min 1 64))) (IntKind.i64.wrap (0 - IntKind.i64.wrap (IntKind.u64.wrap (bvAnd 64 (u : Int) 1))))) = unz u := by
 have e1 : (u : Int).fdiv (2 ^ min 1 64) = ((u / 2 : Nat) : Int) := by
  show (u : Int).fdiv 2 = _
  rw [Int.fdiv_eq_ediv_of_nonneg _ (by decide)]; omega
 have e2 : bvAnd 64 (u : Int) 1 = ((u % 2 : Nat) : Int) := by
  have := qjm 64 u 1 (by omega) (by omega)
  rw [show u &&& 1 = u % 2 from Nat.and_two_pow_sub_one_eq_mod u 1] at this
  exact this
 rw [e1, e2, f2 _ (by omega), qu (n := ((u / 2 : Nat) : Int)) (by unfold I64; omega), qu (n := ((u % 2 : Nat) : Int)) (by unfold I64; omega), qu (n := 0 - ((u % 2 : Nat) : Int)) (by unfold I64; omega)]
 unfold bvXor unz
 rcases Nat.mod_two_eq_zero_or_one u with hp | hp
 ·rw [hp, if_pos rfl]
  have : BitVec.ofInt 64 (0 - ((0 : Nat) : Int)) = 0#64 := by decide
  rw [this, BitVec.xor_zero, BitVec.ofInt_natCast, BitVec.toNat_ofNat, Nat.mod_eq_of_lt (by omega), qu (by unfold I64; omega)]
 ·rw [hp, if_neg (by decide)]
  have e3 : BitVec.ofInt 64 (0 - ((1 : Nat) : Int)) = BitVec.ofInt 64 18446744073709551615 := by decide
  rw [e3, ww _ (by omega)]
  simp only [IntKind.wrap, IntKind.bits, IntKind.signed]
  simp
  omega
def SrInt (i u : Nat) (r : Rd) : St := ⟨[(0, true, .d (.ptr 0 0)), (3, true, .d (.int .u64 (u : Nat))), (6, true, .d (.int .i64 (i : Nat)))], [rdO r], [], 1⟩
set_option maxRecDepth 10000 in
theorem qrr (r : Rd) (hr : r.Ok) : ACall Try.prog 106 [.d (.ptr 0 0)] [rdO r] (.d (.int .i64 (rInt r).1)) [rdO (rInt r).2] := by
 refine xdp.go ?_
 try (refine ev ?_; try exact True.intro)
 refine ql (fun i : { x : Nat × Nat × Rd // x.1 ≤ 10 ∧ x.2.1 < 18446744073709551616 ∧ (x.1 ≤ 9 → x.2.1 < 128 ^ x.1) ∧ x.2.2.Ok ∧ rIntG (10 - x.1) x.1 x.2.1 x.2.2 = rInt r } => SrInt i.val.1 i.val.2.1 i.val.2.2) (fun i => 10 - i.val.1) ⟨(0, 0, r), by simp, by simp, by simp, hr, rfl⟩ ?_ (fun i => ?_)
 ·try (refine ev3 @SrInt.eq_1 @Int.ofNat_zero @rdO.eq_1 ?_; try exact True.intro)
 obtain ⟨⟨i, u, rd⟩, hi, hu, hu2, hrd, hx⟩ := i
 simp only at hi hu hu2 hrd hx
 try (refine ev2 @SrInt.eq_1 @rdO.eq_1 ?_; try exact True.intro)
 (repeat (with_reducible refine ob ?_)); refine xk _ (fun h => ?_) (fun h => ?_)
 ·have hil : i < 10 := by simp at h; omega
  have hn := qg0 rd 1 hrd (by decide)
  obtain ⟨hn1, hn2⟩ := v7 hrd 1
  have hk : 10 - i = (10 - (i + 1)) + 1 := by omega
  rw [hk, rIntG] at hx
  try (refine ev ?_; try exact True.intro)
  simp only [rdO] at hn
  (repeat (with_reducible refine ob ?_)); refine clO [0] q7i (hn) ?_
  try (refine ev ?_; try exact True.intro)
  cases hf : (rNext 1 rd).2.failed with
  | true =>
   rw [if_pos hf] at hx
   (repeat (with_reducible refine ob ?_)); refine yo ?_
   try (refine ev2 hx.symm @hf ?_; try exact True.intro)
  | false =>
   rw [if_neg (by rw [hf]; simp)] at hx
   obtain ⟨c, hc⟩ := qjl hf
   rw [hc] at hx ⊢
   simp only [List.headD_cons] at hx
   (repeat (with_reducible refine ob ?_)); refine no_ ?_
   have hcb : byteRows [c] = [[.int .u8 (c.toNat : Nat)]] := rfl
   have hlt := kj c
   have hi9 : i ≤ 9 := by omega
   have hu' : (u + c.toNat % 128 * 128 ^ i) % 18446744073709551616 < 18446744073709551616 := Nat.mod_lt _ (by decide)
   have hu2' : i ≤ 8 → (u + c.toNat % 128 * 128 ^ i) % 18446744073709551616 < 128 ^ (i + 1) := fun h8 => by
    have h1 := hu2 (by omega)
    have h2 : c.toNat % 128 < 128 := Nat.mod_lt _ (by decide)
    have h3 : c.toNat % 128 * 128 ^ i ≤ 127 * 128 ^ i := Nat.mul_le_mul_right _ (by omega)
    have h4 := Nat.mod_le (u + c.toNat % 128 * 128 ^ i) 18446744073709551616
    rw [Nat.pow_succ]
    omega
   have a1 : IntKind.i64.wrap (7 * (i : Int)) = ((7 * i : Nat) : Int) := by rw [qu (by unfold I64; omega)]; omega
   try (refine ev3 @hcb @a1 (quq hi9 (hu2 hi9) hlt) ?_; try exact True.intro)
   refine ⟨by omega, ?_⟩
   generalize (u + c.toNat % 128 * 128 ^ i) % 18446744073709551616 = u' at hx hu' hu2'
   refine xk _ (fun hc => ?_) (fun hc => ?_)
   ·have h128 : c.toNat < 128 := by simp at hc; omega
    simp only [h128, if_true] at hx
    try (refine ev ?_; try exact True.intro)
    have hb : (((c.toNat : Nat) : Int) == 0 && decide ((i : Int) > 0) || ((i : Int) == 9) && decide (((c.toNat : Nat) : Int) > 1)) = (c.toNat == 0 && decide (0 < i) || decide (i = 9) && decide (c.toNat > 1)) := by
     have b1 : (((c.toNat : Nat) : Int) == 0) = (c.toNat == 0) := by rw [Bool.eq_iff_iff]; simp
     have b2 : decide ((i : Int) > 0) = decide (0 < i) := decide_eq_decide.2 (by omega)
     have b3 : ((i : Int) == 9) = decide (i = 9) := by rw [Bool.eq_iff_iff]; simp; omega
     have b4 : decide (((c.toNat : Nat) : Int) > 1) = decide (c.toNat > 1) := decide_eq_decide.2 (by omega)
     rw [b1, b2, b3, b4]
    rw [qur hu', hb, ← hx]
    exact ⟨fun h => ⟨h, fun h2 => by rw [h, h2]; rfl⟩, fun h => by rw [h]; rfl, rfl, (by simp only [go_sem]), rfl, rfl⟩
   ·have h128 : ¬ c.toNat < 128 := by simp at hc; omega
    simp only [h128, if_false] at hx
    try (refine ev ?_; try exact True.intro)
    refine ⟨⟨(i + 1, u', (rNext 1 rd).2), hil, hu', fun h => hu2' (by omega), hn1, hx⟩, ?_, by dsimp only; omega⟩
    try (refine ev4 @SrInt.eq_1 @rdO.eq_1 @hf (qj (show i < 9223372036854775807 by omega)) ?_; try exact True.intro)
 ·have hil : i = 10 := by simp at h; omega
  subst hil
  have : rInt r = (0, { rd with failed := true }) := hx.symm
  try (refine ev2 @this @rdO.eq_1 ?_; try exact True.intro)
end Go.Proofs.Ytinnaedmdoengaa
namespace Go.Proofs.Ytinnaedmdoengaa
open Go.Abs
set_option linter.unusedSimpArgs false
set_option linter.unusedVariables false
attribute [go_sem] exists_eq' List.getD_nil
theorem qjn : ∀ (k i u : Nat) {r : Rd}, r.Ok → (rIntG k i u r).2.Ok ∧ (rIntG k i u r).2.b = r.b
 | 0, i, u, r, h => ⟨⟨h.len, h.pos⟩, rfl⟩
 | k + 1, i, u, r, h => by
  have hn := v7 h 1
  rw [rIntG]
  split
  ·exact hn
  ·split
   ·exact ⟨⟨hn.1.len, hn.1.pos⟩, hn.2⟩
   ·have := qjn k (i + 1) ((u + ((rNext 1 r).1.headD 0).toNat % 128 * 128 ^ i) % 18446744073709551616) hn.1
    exact ⟨this.1, this.2.trans hn.2⟩
theorem qb7 {r : Rd} (h : r.Ok) : (rInt r).2.Ok ∧ (rInt r).2.b = r.b := qjn 10 0 0 h
def Rd.fail (r : Rd) (f : Bool) : Rd := ⟨r.b, r.pos, f⟩
theorem Rd.Ok.fail {r : Rd} (h : r.Ok) (f : Bool) : (r.fail f).Ok := ⟨h.len, h.pos⟩
def rBounded (lo hi : Int) (r : Rd) : Int × Rd := ((rInt r).1, (rInt r).2.fail ((rInt r).2.failed || decide ((rInt r).1 < lo) || decide ((rInt r).1 > hi)))
def rBytes0 (most : Int) (r : Rd) : List UInt8 × Rd := if (rBounded 0 most r).2.failed then ([], (rBounded 0 most r).2) else rNext (rBounded 0 most r).1.toNat (rBounded 0 most r).2
def rBool0 (r : Rd) : Bool × Rd :=
 let f := (rNext 1 r).2.failed || decide (((rNext 1 r).1.headD 0).toNat > 1)
 (!f && ((rNext 1 r).1.headD 0).toNat == 1, (rNext 1 r).2.fail f)
def rPart {α : Type} (z : α) (f : Rd → α × Rd) (r : Rd) : α × Rd := if r.failed then (z, r) else if (f r).2.failed then (z, ⟨(f r).2.b, r.pos, (f r).2.failed⟩) else f r
theorem jg {r : Rd} (h : r.Ok) (lo hi : Int) : (rBounded lo hi r).2.Ok ∧ (rBounded lo hi r).2.b = r.b := ⟨(qb7 h).1.fail _, (qb7 h).2⟩
theorem qdq {r : Rd} {lo hi : Int} (h : (rBounded lo hi r).2.failed = false) : lo ≤ (rBounded lo hi r).1 ∧ (rBounded lo hi r).1 ≤ hi := by
 simp only [rBounded, Rd.fail, Bool.or_eq_false_iff, decide_eq_false_iff_not] at h ⊢
 omega
theorem qdr {r : Rd} (h : r.Ok) (most : Int) : (rBytes0 most r).2.Ok ∧ (rBytes0 most r).2.b = r.b := by
 have h1 := jg h 0 most
 unfold rBytes0
 split
 ·exact h1
 ·have h2 := v7 h1.1 (rBounded 0 most r).1.toNat
  exact ⟨h2.1, h2.2.trans h1.2⟩
theorem qrs {r : Rd} (h : r.Ok) (n : Nat) : (rNext n r).1.length ≤ 1000000000 := by
 have := h.len
 unfold rNext
 split
 ·simp
 ·simp only [List.length_take, List.length_drop]; omega
theorem qls {r : Rd} (h : r.Ok) (most : Int) : (rBytes0 most r).1.length ≤ 1000000000 := by
 unfold rBytes0
 split
 ·simp
 ·exact qrs (jg h 0 most).1 _
theorem qfi {r : Rd} (h : r.Ok) : (rBool0 r).2.Ok ∧ (rBool0 r).2.b = r.b := ⟨(v7 h 1).1.fail _, (v7 h 1).2⟩
theorem qas {α : Type} {z : α} {f : Rd → α × Rd} {r : Rd} (h : r.Ok) (hf : (f r).2.Ok ∧ (f r).2.b = r.b) : (rPart z f r).2.Ok ∧ (rPart z f r).2.b = r.b := by
 unfold rPart
 split
 ·exact ⟨h, rfl⟩
 ·split
  ·exact ⟨⟨hf.1.len, by simp only [hf.2]; exact h.pos⟩, hf.2⟩
  ·exact hf
noncomputable section
set_option maxRecDepth 100000
def s112r0 : List SOper := [
 ⟨some 6, .mov (.k (.d (.int .i64 0))), none⟩]
def s112r1 : List SOper := [
 ⟨some 8, .mov (.t 0), none⟩,
 ⟨some 9, .call (.k (.d (.func (.func 106) [] []))) [(.t 8)], none⟩,
 ⟨some 7, .mov (.t 9), none⟩]
def s112r2 : List SOper := [
 ⟨some 10, .mov (.t 0), none⟩,
 ⟨some 11, .mov (.t 0), none⟩,
 ⟨some 12, .nilCheck (.t 11), none⟩,
 ⟨some 13, .faddr 2 (.t 12), none⟩,
 ⟨some 14, .load none (.t 13), none⟩,
 ⟨some 15, .mov (.t 14), none⟩,
 ⟨some 16, .mov (.t 7), some (15, false)⟩,
 ⟨some 17, .mov (.t 1), some (15, false)⟩,
 ⟨some 18, .bin .lss (.t 16) (.t 17), some (15, false)⟩,
 ⟨some 19, .pick (.t 15) (.k (.d (.bool true))) (.t 18), none⟩,
 ⟨some 20, .mov (.t 19), none⟩,
 ⟨some 21, .mov (.t 7), some (20, false)⟩,
 ⟨some 22, .mov (.t 2), some (20, false)⟩,
 ⟨some 23, .bin .gtr (.t 21) (.t 22), some (20, false)⟩,
 ⟨some 24, .pick (.t 20) (.k (.d (.bool true))) (.t 23), none⟩,
 ⟨some 25, .nilCheck (.t 10), none⟩,
 ⟨some 26, .faddr 2 (.t 25), none⟩,
 ⟨none, .store none (.t 26) (.t 24), none⟩]
def s112r3 : List SOper := [
 ⟨some 27, .mov (.t 7), none⟩,
 ⟨some 6, .mov (.t 27), none⟩]
def s112 : SCode := (.seq (.region s112r0 0 []) (.seq (.region s112r1 0 []) (.seq (.region s112r2 0 []) (.seq (.region s112r3 0 []) .ret))))
theorem xib : CodeIs s112.eq_1 := qc s112.eq_1
theorem q3b : RegIs s112r0.eq_1 := qa
theorem q3c : RegIs s112r1.eq_1 := qa
theorem q3d : RegIs s112r2.eq_1 := qa
theorem q3e : RegIs s112r3.eq_1 := qa
attribute [go_sem] q3b q3c q3d q3e xib
theorem xdq : FnIs Try.prog 112 Try.f112 [] news s112 [.tmp 6] 28 := xe follows Try.func112
def s117r0 : List SOper := [
 ⟨some 4, .mov (.k (.d .nilsl)), none⟩]
def s117r1 : List SOper := [
 ⟨some 6, .mov (.t 0), none⟩,
 ⟨some 7, .mov (.t 1), none⟩,
 ⟨some 8, .call (.k (.d (.func (.func 112) [] []))) [(.t 6), (.k (.d (.int .i64 0))), (.t 7)], none⟩,
 ⟨some 5, .mov (.t 8), none⟩]
def s117r2 : List SOper := [
 ⟨some 9, .mov (.t 0), none⟩,
 ⟨some 10, .nilCheck (.t 9), none⟩,
 ⟨some 11, .faddr 2 (.t 10), none⟩,
 ⟨some 12, .load none (.t 11), none⟩]
def s117r3 : List SOper := [
 ⟨some 4, .mov (.k (.d .nilsl)), none⟩]
def s117r4 : List SOper := [
 ⟨some 13, .mov (.t 0), none⟩,
 ⟨some 14, .mov (.t 5), none⟩,
 ⟨some 15, .call (.k (.d (.func (.func 141) [] []))) [(.t 13), (.t 14)], none⟩,
 ⟨some 4, .mov (.t 15), none⟩]
def s117 : SCode := (.seq (.region s117r0 0 []) (.seq (.region s117r1 0 []) (.seq (.seq (.region s117r2 0 []) (.cond (.t 12) (.seq (.region s117r3 0 []) .ret) .skip)) (.seq (.region s117r4 0 []) .ret))))
theorem xic : CodeIs s117.eq_1 := qc s117.eq_1
theorem q3f : RegIs s117r0.eq_1 := qa
theorem q3g : RegIs s117r1.eq_1 := qa
theorem q3h : RegIs s117r2.eq_1 := qa
theorem q3i : RegIs s117r3.eq_1 := qa
theorem q3j : RegIs s117r4.eq_1 := qa
attribute [go_sem] q3f q3g q3h q3i q3j xic
theorem xg8 : FnIs Try.prog 117 Try.f117 [] news s117 [.tmp 4] 16 := xe follows Try.func117
def s114r0 : List SOper := [
 ⟨some 2, .mov (.k (.d (.bool false))), none⟩]
def s114r1 : List SOper := [
 ⟨some 4, .mov (.t 0), none⟩,
 ⟨some 5, .call (.k (.d (.func (.func 141) [] []))) [(.t 4), (.k (.d (.int .i64 1)))], none⟩,
 ⟨some 3, .mov (.t 5), none⟩]
def s114r2 : List SOper := [
 ⟨some 6, .mov (.t 0), none⟩,
 ⟨some 7, .mov (.t 0), none⟩,
 ⟨some 8, .nilCheck (.t 7), none⟩,
 ⟨some 9, .faddr 2 (.t 8), none⟩,
 ⟨some 10, .load none (.t 9), none⟩,
 ⟨some 11, .mov (.t 10), none⟩,
 ⟨some 12, .mov (.t 3), some (11, false)⟩,
 ⟨some 13, .iaddr 1 (.t 12) (.k (.d (.int .i64 0))), some (11, false)⟩,
 ⟨some 14, .load none (.t 13), some (11, false)⟩,
 ⟨some 15, .bin .gtr (.t 14) (.k (.d (.int .u8 1))), some (11, false)⟩,
 ⟨some 16, .pick (.t 11) (.k (.d (.bool true))) (.t 15), none⟩,
 ⟨some 17, .nilCheck (.t 6), none⟩,
 ⟨some 18, .faddr 2 (.t 17), none⟩,
 ⟨none, .store none (.t 18) (.t 16), none⟩]
def s114r3 : List SOper := [
 ⟨some 19, .mov (.t 0), none⟩,
 ⟨some 20, .nilCheck (.t 19), none⟩,
 ⟨some 21, .faddr 2 (.t 20), none⟩,
 ⟨some 22, .load none (.t 21), none⟩,
 ⟨some 23, .not (.t 22), none⟩,
 ⟨some 24, .mov (.t 23), none⟩,
 ⟨some 25, .mov (.t 3), some (24, true)⟩,
 ⟨some 26, .iaddr 1 (.t 25) (.k (.d (.int .i64 0))), some (24, true)⟩,
 ⟨some 27, .load none (.t 26), some (24, true)⟩,
 ⟨some 28, .bin .eql (.t 27) (.k (.d (.int .u8 1))), some (24, true)⟩,
 ⟨some 29, .pick (.t 24) (.t 28) (.k (.d (.bool false))), none⟩,
 ⟨some 2, .mov (.t 29), none⟩]
def s114 : SCode := (.seq (.region s114r0 0 []) (.seq (.region s114r1 0 []) (.seq (.region s114r2 0 []) (.seq (.region s114r3 0 []) .ret))))
theorem xid : CodeIs s114.eq_1 := qc s114.eq_1
theorem q3k : RegIs s114r0.eq_1 := qa
theorem q3l : RegIs s114r1.eq_1 := qa
theorem q3m : RegIs s114r2.eq_1 := qa
theorem q3n : RegIs s114r3.eq_1 := qa
attribute [go_sem] q3k q3l q3m q3n xid
theorem xg9 : FnIs Try.prog 114 Try.f114 [] news s114 [.tmp 2] 30 := xe follows Try.func114
def s111r0 : List SOper := [
 ⟨some 3, .mov (.k (.d (.int .i64 0))), none⟩]
def s111r1 : List SOper := [
 ⟨some 4, .load none (.t 0), none⟩,
 ⟨some 5, .load none (.t 1), none⟩,
 ⟨some 6, .load none (.t 2), none⟩,
 ⟨some 7, .call (.k (.d (.func (.func 112) [] []))) [(.t 4), (.t 5), (.t 6)], none⟩,
 ⟨some 3, .mov (.t 7), none⟩]
def s111 : SCode := (.seq (.region s111r0 0 []) (.seq (.region s111r1 0 []) .ret))
theorem xie : CodeIs s111.eq_1 := qc s111.eq_1
theorem q3o : RegIs s111r0.eq_1 := qa
theorem q3p : RegIs s111r1.eq_1 := qa
attribute [go_sem] q3o q3p xie
theorem xha : FnIs Try.prog 111 Try.f111 [] news s111 [.tmp 3] 8 := xe follows Try.func111
def s116r0 : List SOper := [
 ⟨some 2, .mov (.k (.d .nilsl)), none⟩]
def s116r1 : List SOper := [
 ⟨some 3, .load none (.t 0), none⟩,
 ⟨some 4, .load none (.t 1), none⟩,
 ⟨some 5, .call (.k (.d (.func (.func 117) [] []))) [(.t 3), (.t 4)], none⟩,
 ⟨some 6, .append false 1 1 (.k (.d .nilsl)) (.t 5), none⟩,
 ⟨some 2, .mov (.t 6), none⟩]
def s116 : SCode := (.seq (.region s116r0 0 []) (.seq (.region s116r1 0 []) .ret))
theorem xif : CodeIs s116.eq_1 := qc s116.eq_1
theorem q3q : RegIs s116r0.eq_1 := qa
theorem q3r : RegIs s116r1.eq_1 := qa
attribute [go_sem] q3q q3r xif
theorem xhb : FnIs Try.prog 116 Try.f116 [] news s116 [.tmp 2] 7 := xe follows Try.func116
def s105r0 : List SOper := [
 ⟨some 4, .mov (.k (.d (.int .i64 0))), none⟩]
def s105r1 : List SOper := [
 ⟨some 5, .mov (.k (.d (.int .i64 0))), none⟩]
def s105r2 : List SOper := [
 ⟨some 8, .mov (.t 0), none⟩,
 ⟨some 9, .eqnil false .ptr (.t 8), none⟩,
 ⟨some 10, .mov (.t 9), none⟩,
 ⟨some 11, .mov (.t 0), some (10, false)⟩,
 ⟨some 12, .nilCheck (.t 11), some (10, false)⟩,
 ⟨some 13, .faddr 2 (.t 12), some (10, false)⟩,
 ⟨some 14, .load none (.t 13), some (10, false)⟩,
 ⟨some 15, .pick (.t 10) (.k (.d (.bool true))) (.t 14), none⟩]
def s105r3 : List SOper := [
 ⟨some 16, .mov (.t 5), none⟩,
 ⟨some 4, .mov (.t 16), none⟩]
def s105r4 : List SOper := [
 ⟨some 17, .mov (.t 0), none⟩,
 ⟨some 18, .nilCheck (.t 17), none⟩,
 ⟨some 19, .faddr 1 (.t 18), none⟩,
 ⟨some 20, .load none (.t 19), none⟩,
 ⟨some 6, .mov (.t 20), none⟩]
def s105r5 : List SOper := [
 ⟨some 21, .mov (.t 1), none⟩,
 ⟨some 22, .call (.t 21) [], none⟩,
 ⟨some 7, .mov (.t 22), none⟩]
def s105r6 : List SOper := [
 ⟨some 23, .mov (.t 0), none⟩,
 ⟨some 24, .nilCheck (.t 23), none⟩,
 ⟨some 25, .faddr 2 (.t 24), none⟩,
 ⟨some 26, .load none (.t 25), none⟩]
def s105r7 : List SOper := [
 ⟨some 27, .mov (.t 0), none⟩,
 ⟨some 28, .mov (.t 6), none⟩,
 ⟨some 29, .nilCheck (.t 27), none⟩,
 ⟨some 30, .faddr 1 (.t 29), none⟩,
 ⟨none, .store none (.t 30) (.t 28), none⟩]
def s105r8 : List SOper := [
 ⟨some 31, .mov (.t 5), none⟩,
 ⟨some 4, .mov (.t 31), none⟩]
def s105r9 : List SOper := [
 ⟨some 32, .mov (.t 7), none⟩,
 ⟨some 4, .mov (.t 32), none⟩]
def s105 : SCode := (.seq (.region s105r0 0 []) (.seq (.region s105r1 0 []) (.seq (.seq (.region s105r2 0 []) (.cond (.t 15) (.seq (.region s105r3 0 []) .ret) .skip)) (.seq (.region s105r4 0 []) (.seq (.region s105r5 0 []) (.seq (.seq (.region s105r6 0 []) (.cond (.t 26) (.seq (.region s105r7 0 []) (.seq (.region s105r8 0 []) .ret)) .skip)) (.seq (.region s105r9 0 []) .ret)))))))
theorem xig : CodeIs s105.eq_1 := qc s105.eq_1
theorem q3s : RegIs s105r0.eq_1 := qa
theorem q3t : RegIs s105r1.eq_1 := qa
theorem q3u : RegIs s105r2.eq_1 := qa
theorem q3v : RegIs s105r3.eq_1 := qa
theorem q3w : RegIs s105r4.eq_1 := qa
theorem q3x : RegIs s105r5.eq_1 := qa
theorem q3y : RegIs s105r6.eq_1 := qa
theorem q3z : RegIs s105r7.eq_1 := qa
theorem q30 : RegIs s105r8.eq_1 := qa
theorem q31 : RegIs s105r9.eq_1 := qa
attribute [go_sem] q3s q3t q3u q3v q3w q3x q3y q3z q30 q31 xig
theorem q7j : FnIs Try.prog 105 Try.f105 [] news s105 [.tmp 4] 33 := xe follows Try.func105
def s113r0 : List SOper := [
 ⟨some 4, .mov (.k (.d (.bool false))), none⟩]
def s113r1 : List SOper := [
 ⟨some 5, .mov (.k (.d (.bool false))), none⟩]
def s113r2 : List SOper := [
 ⟨some 8, .mov (.t 0), none⟩,
 ⟨some 9, .eqnil false .ptr (.t 8), none⟩,
 ⟨some 10, .mov (.t 9), none⟩,
 ⟨some 11, .mov (.t 0), some (10, false)⟩,
 ⟨some 12, .nilCheck (.t 11), some (10, false)⟩,
 ⟨some 13, .faddr 2 (.t 12), some (10, false)⟩,
 ⟨some 14, .load none (.t 13), some (10, false)⟩,
 ⟨some 15, .pick (.t 10) (.k (.d (.bool true))) (.t 14), none⟩]
def s113r3 : List SOper := [
 ⟨some 16, .mov (.t 5), none⟩,
 ⟨some 4, .mov (.t 16), none⟩]
def s113r4 : List SOper := [
 ⟨some 17, .mov (.t 0), none⟩,
 ⟨some 18, .nilCheck (.t 17), none⟩,
 ⟨some 19, .faddr 1 (.t 18), none⟩,
 ⟨some 20, .load none (.t 19), none⟩,
 ⟨some 6, .mov (.t 20), none⟩]
def s113r5 : List SOper := [
 ⟨some 21, .mov (.t 1), none⟩,
 ⟨some 22, .call (.t 21) [], none⟩,
 ⟨some 7, .mov (.t 22), none⟩]
def s113r6 : List SOper := [
 ⟨some 23, .mov (.t 0), none⟩,
 ⟨some 24, .nilCheck (.t 23), none⟩,
 ⟨some 25, .faddr 2 (.t 24), none⟩,
 ⟨some 26, .load none (.t 25), none⟩]
def s113r7 : List SOper := [
 ⟨some 27, .mov (.t 0), none⟩,
 ⟨some 28, .mov (.t 6), none⟩,
 ⟨some 29, .nilCheck (.t 27), none⟩,
 ⟨some 30, .faddr 1 (.t 29), none⟩,
 ⟨none, .store none (.t 30) (.t 28), none⟩]
def s113r8 : List SOper := [
 ⟨some 31, .mov (.t 5), none⟩,
 ⟨some 4, .mov (.t 31), none⟩]
def s113r9 : List SOper := [
 ⟨some 32, .mov (.t 7), none⟩,
 ⟨some 4, .mov (.t 32), none⟩]
def s113 : SCode := (.seq (.region s113r0 0 []) (.seq (.region s113r1 0 []) (.seq (.seq (.region s113r2 0 []) (.cond (.t 15) (.seq (.region s113r3 0 []) .ret) .skip)) (.seq (.region s113r4 0 []) (.seq (.region s113r5 0 []) (.seq (.seq (.region s113r6 0 []) (.cond (.t 26) (.seq (.region s113r7 0 []) (.seq (.region s113r8 0 []) .ret)) .skip)) (.seq (.region s113r9 0 []) .ret)))))))
theorem xih : CodeIs s113.eq_1 := qc s113.eq_1
theorem q32 : RegIs s113r0.eq_1 := qa
theorem q33 : RegIs s113r1.eq_1 := qa
theorem q34 : RegIs s113r2.eq_1 := qa
theorem q35 : RegIs s113r3.eq_1 := qa
theorem q36 : RegIs s113r4.eq_1 := qa
theorem q37 : RegIs s113r5.eq_1 := qa
theorem q38 : RegIs s113r6.eq_1 := qa
theorem q39 : RegIs s113r7.eq_1 := qa
theorem q4a : RegIs s113r8.eq_1 := qa
theorem q4b : RegIs s113r9.eq_1 := qa
attribute [go_sem] q32 q33 q34 q35 q36 q37 q38 q39 q4a q4b xih
theorem xhc : FnIs Try.prog 113 Try.f113 [] news s113 [.tmp 4] 33 := xe follows Try.func113
def s115r0 : List SOper := [
 ⟨some 4, .mov (.k (.d .nilsl)), none⟩]
def s115r1 : List SOper := [
 ⟨some 5, .mov (.k (.d .nilsl)), none⟩]
def s115r2 : List SOper := [
 ⟨some 8, .mov (.t 0), none⟩,
 ⟨some 9, .eqnil false .ptr (.t 8), none⟩,
 ⟨some 10, .mov (.t 9), none⟩,
 ⟨some 11, .mov (.t 0), some (10, false)⟩,
 ⟨some 12, .nilCheck (.t 11), some (10, false)⟩,
 ⟨some 13, .faddr 2 (.t 12), some (10, false)⟩,
 ⟨some 14, .load none (.t 13), some (10, false)⟩,
 ⟨some 15, .pick (.t 10) (.k (.d (.bool true))) (.t 14), none⟩]
def s115r3 : List SOper := [
 ⟨some 16, .mov (.t 5), none⟩,
 ⟨some 4, .mov (.t 16), none⟩]
def s115r4 : List SOper := [
 ⟨some 17, .mov (.t 0), none⟩,
 ⟨some 18, .nilCheck (.t 17), none⟩,
 ⟨some 19, .faddr 1 (.t 18), none⟩,
 ⟨some 20, .load none (.t 19), none⟩,
 ⟨some 6, .mov (.t 20), none⟩]
def s115r5 : List SOper := [
 ⟨some 21, .mov (.t 1), none⟩,
 ⟨some 22, .call (.t 21) [], none⟩,
 ⟨some 7, .mov (.t 22), none⟩]
def s115r6 : List SOper := [
 ⟨some 23, .mov (.t 0), none⟩,
 ⟨some 24, .nilCheck (.t 23), none⟩,
 ⟨some 25, .faddr 2 (.t 24), none⟩,
 ⟨some 26, .load none (.t 25), none⟩]
def s115r7 : List SOper := [
 ⟨some 27, .mov (.t 0), none⟩,
 ⟨some 28, .mov (.t 6), none⟩,
 ⟨some 29, .nilCheck (.t 27), none⟩,
 ⟨some 30, .faddr 1 (.t 29), none⟩,
 ⟨none, .store none (.t 30) (.t 28), none⟩]
def s115r8 : List SOper := [
 ⟨some 31, .mov (.t 5), none⟩,
 ⟨some 4, .mov (.t 31), none⟩]
def s115r9 : List SOper := [
 ⟨some 32, .mov (.t 7), none⟩,
 ⟨some 4, .mov (.t 32), none⟩]
def s115 : SCode := (.seq (.region s115r0 0 []) (.seq (.region s115r1 0 []) (.seq (.seq (.region s115r2 0 []) (.cond (.t 15) (.seq (.region s115r3 0 []) .ret) .skip)) (.seq (.region s115r4 0 []) (.seq (.region s115r5 0 []) (.seq (.seq (.region s115r6 0 []) (.cond (.t 26) (.seq (.region s115r7 0 []) (.seq (.region s115r8 0 []) .ret)) .skip)) (.seq (.region s115r9 0 []) .ret)))))))
theorem xii : CodeIs s115.eq_1 := qc s115.eq_1
theorem q4c : RegIs s115r0.eq_1 := qa
theorem q4d : RegIs s115r1.eq_1 := qa
theorem q4e : RegIs s115r2.eq_1 := qa
theorem q4f : RegIs s115r3.eq_1 := qa
theorem q4g : RegIs s115r4.eq_1 := qa
theorem q4h : RegIs s115r5.eq_1 := qa
theorem q4i : RegIs s115r6.eq_1 := qa
theorem q4j : RegIs s115r7.eq_1 := qa
theorem q4k : RegIs s115r8.eq_1 := qa
theorem q4l : RegIs s115r9.eq_1 := qa
attribute [go_sem] q4c q4d q4e q4f q4g q4h q4i q4j q4k q4l xii
theorem xhd : FnIs Try.prog 115 Try.f115 [] news s115 [.tmp 4] 33 := xe follows Try.func115
def s62r0 : List SOper := [
 ⟨some 2, .mov (.k (.d (.int .i64 0))), none⟩]
def s62r1 : List SOper := [
 ⟨some 3, .mov (.t 0), none⟩,
 ⟨some 4, .mov (.t 0), none⟩,
 ⟨some 5, .mkFunc (.func 106) [(.t 4)] [], none⟩,
 ⟨some 6, .call (.k (.d (.func (.func 105) [] []))) [(.t 3), (.t 5)], none⟩,
 ⟨some 2, .mov (.t 6), none⟩]
def s62 : SCode := (.seq (.region s62r0 0 []) (.seq (.region s62r1 0 []) .ret))
theorem e62 : CodeIs s62.eq_1 := qc s62.eq_1
theorem xdr : RegIs s62r0.eq_1 := qa
theorem xds : RegIs s62r1.eq_1 := qa
attribute [go_sem] xdr xds e62
theorem F62 : FnIs Try.prog 62 Try.f62 [] news s62 [.tmp 2] 7 := xe follows Try.func62
def s80r0 : List SOper := [
 ⟨some 3, .box 3 (.t 0), none⟩,
 ⟨some 4, .box 2 (.t 1), none⟩,
 ⟨some 5, .box 1 (.t 2), none⟩,
 ⟨some 6, .mov (.k (.d (.int .i64 0))), none⟩]
def s80r1 : List SOper := [
 ⟨some 7, .load none (.t 3), none⟩,
 ⟨some 8, .mkFunc (.func 111) [] [(.t 3), (.t 4), (.t 5)], none⟩,
 ⟨some 9, .call (.k (.d (.func (.func 105) [] []))) [(.t 7), (.t 8)], none⟩,
 ⟨some 6, .mov (.t 9), none⟩]
def s80 : SCode := (.seq (.region s80r0 3 []) (.seq (.region s80r1 0 []) .ret))
theorem e80 : CodeIs s80.eq_1 := qc s80.eq_1
theorem xdt : RegIs s80r0.eq_1 := qa
theorem xdu : RegIs s80r1.eq_1 := qa
attribute [go_sem] xdt xdu e80
theorem F80 : FnIs Try.prog 80 Try.f80 [] news s80 [.tmp 6] 10 := xe follows Try.func80
def s82r0 : List SOper := [
 ⟨some 2, .mov (.k (.d (.bool false))), none⟩]
def s82r1 : List SOper := [
 ⟨some 3, .mov (.t 0), none⟩,
 ⟨some 4, .mov (.t 0), none⟩,
 ⟨some 5, .mkFunc (.func 114) [(.t 4)] [], none⟩,
 ⟨some 6, .call (.k (.d (.func (.func 113) [] []))) [(.t 3), (.t 5)], none⟩,
 ⟨some 2, .mov (.t 6), none⟩]
def s82 : SCode := (.seq (.region s82r0 0 []) (.seq (.region s82r1 0 []) .ret))
theorem e82 : CodeIs s82.eq_1 := qc s82.eq_1
theorem xdv : RegIs s82r0.eq_1 := qa
theorem xdw : RegIs s82r1.eq_1 := qa
attribute [go_sem] xdv xdw e82
theorem F82 : FnIs Try.prog 82 Try.f82 [] news s82 [.tmp 2] 7 := xe follows Try.func82
def s83r0 : List SOper := [
 ⟨some 2, .box 2 (.t 0), none⟩,
 ⟨some 3, .box 1 (.t 1), none⟩,
 ⟨some 4, .mov (.k (.d .nilsl)), none⟩]
def s83r1 : List SOper := [
 ⟨some 5, .load none (.t 2), none⟩,
 ⟨some 6, .mkFunc (.func 116) [] [(.t 2), (.t 3)], none⟩,
 ⟨some 7, .call (.k (.d (.func (.func 115) [] []))) [(.t 5), (.t 6)], none⟩,
 ⟨some 4, .mov (.t 7), none⟩]
def s83 : SCode := (.seq (.region s83r0 2 []) (.seq (.region s83r1 0 []) .ret))
theorem e83 : CodeIs s83.eq_1 := qc s83.eq_1
theorem xdx : RegIs s83r0.eq_1 := qa
theorem xdy : RegIs s83r1.eq_1 := qa
attribute [go_sem] xdx xdy e83
theorem F83 : FnIs Try.prog 83 Try.f83 [] news s83 [.tmp 4] 8 := xe follows Try.func83
def s81r0 : List SOper := [
 ⟨some 4, .mov (.k (.d (.str []))), none⟩]
def s81r1 : List SOper := [
 ⟨some 5, .mov (.t 0), none⟩,
 ⟨some 6, .mov (.t 1), none⟩,
 ⟨some 7, .call (.k (.d (.func (.func 83) [] []))) [(.t 5), (.t 6)], none⟩,
 ⟨some 8, .b2s (.t 7), none⟩,
 ⟨some 4, .mov (.t 8), none⟩]
def s81 : SCode := (.seq (.region s81r0 0 []) (.seq (.region s81r1 0 []) .ret))
theorem e81 : CodeIs s81.eq_1 := qc s81.eq_1
theorem xdz : RegIs s81r0.eq_1 := qa
theorem xd0 : RegIs s81r1.eq_1 := qa
attribute [go_sem] xdz xd0 e81
theorem F81 : FnIs Try.prog 81 Try.f81 [] news s81 [.tmp 4] 9 := xe follows Try.func81
end
theorem qds (r : Rd) (lo hi : Int) (hr : r.Ok) : ACall Try.prog 112 [.d (.ptr 0 0), .d (.int .i64 lo), .d (.int .i64 hi)] [rdO r] (.d (.int .i64 (rBounded lo hi r).1)) [rdO (rBounded lo hi r).2] := by
 have hc := qrr r hr
 simp only [rdO] at hc
 refine xdq.go ?_
 try (refine ev3 @rdO.eq_1 @rBounded.eq_1 @Rd.fail.eq_1 ?_; try exact True.intro)
 generalize rInt r = x at hc ⊢
 obtain ⟨n, b, p, f⟩ := x
 (repeat (with_reducible refine ob ?_)); refine clO [0] xdp (hc) ?_
 try (refine ev ?_; try exact True.intro)
 cases f <;> simp
theorem qox (r : Rd) (most : Nat) (hr : r.Ok) (hm : most ≤ 1000000000) : ACall Try.prog 117 [.d (.ptr 0 0), .d (.int .i64 most)] [rdO r] (.d (.sl 1 (byteRows (rBytes0 most r).1))) [rdO (rBytes0 most r).2] := by
 have hc := qds r 0 most hr
 have hin := qdq (r := r) (lo := 0) (hi := most)
 have hinv := (jg hr 0 most).1
 refine xg8.go ?_
 try (refine ev1 @rBytes0.eq_1 ?_; try exact True.intro)
 generalize rBounded 0 most r = x at hc hin hinv ⊢
 obtain ⟨n, r1⟩ := x
 simp only [rdO] at hc
 try (refine ev1 @rdO.eq_1 ?_; try exact True.intro)
 (repeat (with_reducible refine ob ?_)); refine clO [0] xdq (hc) ?_
 try (refine ev ?_; try exact True.intro)
 cases hf : r1.failed
 ·obtain ⟨h1, h2⟩ := hin hf
  simp only at h1 h2
  have hn := qg0 r1 n.toNat hinv (by omega)
  rw [Int.toNat_of_nonneg h1] at hn
  simp only [rdO, hf] at hn
  (repeat (with_reducible refine ob ?_)); refine no_ ?_
  try (refine ev ?_; try exact True.intro)
  (repeat (with_reducible refine ob ?_)); refine clO [0] q7i (hn) ?_
  try (refine ev ?_; try exact True.intro)
 ·(repeat (with_reducible refine ob ?_)); refine yo ?_
  try (refine ev2 @hf @qk ?_; try exact True.intro)
theorem qoy {r : Rd} {n : Nat} (h : (rNext n r).2.failed = true) : (rNext n r).1 = [] := by
 unfold rNext at h ⊢
 split
 ·rfl
 ·rename_i hn
  rw [if_neg hn] at h
  simp only [Bool.or_eq_true, not_or] at hn
  exact absurd h hn.1
theorem qvg (c : UInt8) : decide (((c.toNat : Nat) : Int) > 1) = decide (c.toNat > 1) := decide_eq_decide.2 (by omega)
theorem qvh (c : UInt8) : (((c.toNat : Nat) : Int) == 1) = (c.toNat == 1) := by rw [Bool.eq_iff_iff]; simp; omega
theorem qrt (r : Rd) (hr : r.Ok) : ACall Try.prog 114 [.d (.ptr 0 0)] [rdO r] (.d (.bool (rBool0 r).1)) [rdO (rBool0 r).2] := by
 have hc := qg0 r 1 hr (by decide)
 have h1 := qjl (r := r)
 have h0 := qoy (r := r) (n := 1)
 refine xg9.go ?_
 try (refine ev3 @rdO.eq_1 @rBool0.eq_1 @Rd.fail.eq_1 ?_; try exact True.intro)
 generalize rNext 1 r = x at hc h1 h0 ⊢
 obtain ⟨s, r1⟩ := x
 simp only [rdO] at hc
 try (refine ev ?_; try exact True.intro)
 (repeat (with_reducible refine ob ?_)); refine clO [0] q7i (hc) ?_
 simp only at h1
 cases hf : r1.failed
 ·obtain ⟨c, rfl⟩ := h1 hf
  have hcb : byteRows [c] = [[.int .u8 (c.toNat : Nat)]] := rfl
  try (refine ev2 @hcb @List.headD_cons.{0} ?_; try exact True.intro)
  exact ⟨by rw [qvg, qvh] <;> rfl, qvg c⟩
 ·have hs := h0 hf
  simp only at hs
  subst hs
  try (refine ev2 @qk @List.getD_nil.{0} ?_; try exact True.intro)
theorem qlt (r : Rd) (lo hi : Int) (hr : r.Ok) : ACall Try.prog 111 [.d (.ptr 1 0), .d (.ptr 2 0), .d (.ptr 3 0)] [rdO r, .row [.d (.ptr 0 0)], .row [.d (.int .i64 lo)], .row [.d (.int .i64 hi)]] (.d (.int .i64 (rBounded lo hi r).1)) [rdO (rBounded lo hi r).2, .row [.d (.ptr 0 0)], .row [.d (.int .i64 lo)], .row [.d (.int .i64 hi)]] := by
 have hc := qds r lo hi hr
 simp only [rdO] at hc
 refine xha.go ?_
 try (refine ev1 @rdO.eq_1 ?_; try exact True.intro)
 (repeat (with_reducible refine ob ?_)); refine clO [0] xdq (hc) ?_
 try (refine ev ?_; try exact True.intro)
theorem qru (r : Rd) (most : Nat) (hr : r.Ok) (hm : most ≤ 1000000000) : ACall Try.prog 116 [.d (.ptr 1 0), .d (.ptr 2 0)] [rdO r, .row [.d (.ptr 0 0)], .row [.d (.int .i64 most)]] (.d (.sl 1 (byteRows (rBytes0 most r).1))) [rdO (rBytes0 most r).2, .row [.d (.ptr 0 0)], .row [.d (.int .i64 most)]] := by
 have hc := qox r most hr hm
 have hln := qls hr most
 simp only [rdO] at hc
 refine xhb.go ?_
 try (refine ev1 @rdO.eq_1 ?_; try exact True.intro)
 (repeat (with_reducible refine ob ?_)); refine clO [0] xg8 (hc) ?_
 try (refine ev ?_; try exact True.intro)
 omega
def rIntP := rPart (0 : Int) rInt
def rBoundedP (lo hi : Int) := rPart (0 : Int) (rBounded lo hi)
def rBoolP := rPart false rBool0
def rBytesP (most : Int) := rPart ([] : List UInt8) (rBytes0 most)
theorem qoz (r : Rd) (hr : r.Ok) : ACall Try.prog 105 [.d (.ptr 0 0), .d (.func (.func 106) [.ptr 0 0] [])] [rdO r] (.d (.int .i64 (rIntP r).1)) [rdO (rIntP r).2] := by
 have hc := qrr r hr
 unfold rIntP
 unfold rPart
 obtain ⟨b, p, f⟩ := r
 simp only [rdO] at hc
 refine q7j.go ?_
 try (refine ev1 @rdO.eq_1 ?_; try exact True.intro)
 cases f
 ·try (refine ev ?_; try exact True.intro)
  (repeat (with_reducible refine ob ?_)); refine no_ ?_
  try (refine ev ?_; try exact True.intro)
  (repeat (with_reducible refine ob ?_)); refine clO [0] xdp (hc) ?_
  try (refine ev ?_; try exact True.intro)
  cases hf : (rInt ⟨b, p, false⟩).2.failed
  ·try (refine ev ?_; try exact True.intro)
   (repeat (with_reducible refine ob ?_)); refine no_ ?_
   try simp only [hf, if_false, go_sem, Nat.reduceAdd, Nat.reduceMul, Nat.reduceSub, Nat.reduceEqDiff, Nat.reduceLT, Nat.reduceLeDiff, Nat.reduceBEq, reduceIte, reduceCtorEq, Int.reduceAdd, Int.reduceLT, Int.reduceLE, Int.reduceGT, Int.reduceGE, Int.reduceEq, Int.reduceNe, Int.reduceBEq, Int.reduceBNe, Int.reduceToNat, Int.reduceNeg]
  ·try (refine ev ?_; try exact True.intro)
   (repeat (with_reducible refine ob ?_)); refine yo ?_
   try (refine ev1 @hf ?_; try exact True.intro)
 ·try (refine ev ?_; try exact True.intro)
  (repeat (with_reducible refine ob ?_)); refine yo ?_
  try (refine ev ?_; try exact True.intro)
theorem qek (r : Rd) (lo hi : Int) (hr : r.Ok) : ACall Try.prog 105 [.d (.ptr 0 0), .d (.func (.func 111) [] [.ptr 1 0, .ptr 2 0, .ptr 3 0])] [rdO r, .row [.d (.ptr 0 0)], .row [.d (.int .i64 lo)], .row [.d (.int .i64 hi)]] (.d (.int .i64 (rBoundedP lo hi r).1)) [rdO (rBoundedP lo hi r).2, .row [.d (.ptr 0 0)], .row [.d (.int .i64 lo)], .row [.d (.int .i64 hi)]] := by
 have hc := qlt r lo hi hr
 unfold rBoundedP
 unfold rPart
 obtain ⟨b, p, f⟩ := r
 simp only [rdO] at hc
 refine q7j.go ?_
 try (refine ev1 @rdO.eq_1 ?_; try exact True.intro)
 cases f
 ·try (refine ev ?_; try exact True.intro)
  (repeat (with_reducible refine ob ?_)); refine no_ ?_
  try (refine ev ?_; try exact True.intro)
  (repeat (with_reducible refine ob ?_)); refine clO [0, 1, 2, 3] xha (hc) ?_
  try (refine ev ?_; try exact True.intro)
  cases hf : (rBounded lo hi ⟨b, p, false⟩).2.failed
  ·try (refine ev ?_; try exact True.intro)
   (repeat (with_reducible refine ob ?_)); refine no_ ?_
   try simp only [hf, if_false, go_sem, Nat.reduceAdd, Nat.reduceMul, Nat.reduceSub, Nat.reduceEqDiff, Nat.reduceLT, Nat.reduceLeDiff, Nat.reduceBEq, reduceIte, reduceCtorEq, Int.reduceAdd, Int.reduceLT, Int.reduceLE, Int.reduceGT, Int.reduceGE, Int.reduceEq, Int.reduceNe, Int.reduceBEq, Int.reduceBNe, Int.reduceToNat, Int.reduceNeg]
  ·try (refine ev ?_; try exact True.intro)
   (repeat (with_reducible refine ob ?_)); refine yo ?_
   try (refine ev1 @hf ?_; try exact True.intro)
 ·try (refine ev ?_; try exact True.intro)
  (repeat (with_reducible refine ob ?_)); refine yo ?_
  try (refine ev ?_; try exact True.intro)
theorem qlu (r : Rd) (hr : r.Ok) : ACall Try.prog 113 [.d (.ptr 0 0), .d (.func (.func 114) [.ptr 0 0] [])] [rdO r] (.d (.bool (rBoolP r).1)) [rdO (rBoolP r).2] := by
 have hc := qrt r hr
 unfold rBoolP
 unfold rPart
 obtain ⟨b, p, f⟩ := r
 simp only [rdO] at hc
 refine xhc.go ?_
 try (refine ev1 @rdO.eq_1 ?_; try exact True.intro)
 cases f
 ·try (refine ev ?_; try exact True.intro)
  (repeat (with_reducible refine ob ?_)); refine no_ ?_
  try (refine ev ?_; try exact True.intro)
  (repeat (with_reducible refine ob ?_)); refine clO [0] xg9 (hc) ?_
  try (refine ev ?_; try exact True.intro)
  cases hf : (rBool0 ⟨b, p, false⟩).2.failed
  ·try (refine ev ?_; try exact True.intro)
   (repeat (with_reducible refine ob ?_)); refine no_ ?_
   try simp only [hf, if_false, go_sem, Nat.reduceAdd, Nat.reduceMul, Nat.reduceSub, Nat.reduceEqDiff, Nat.reduceLT, Nat.reduceLeDiff, Nat.reduceBEq, reduceIte, reduceCtorEq, Int.reduceAdd, Int.reduceLT, Int.reduceLE, Int.reduceGT, Int.reduceGE, Int.reduceEq, Int.reduceNe, Int.reduceBEq, Int.reduceBNe, Int.reduceToNat, Int.reduceNeg]
  ·try (refine ev ?_; try exact True.intro)
   (repeat (with_reducible refine ob ?_)); refine yo ?_
   try (refine ev1 @hf ?_; try exact True.intro)
 ·try (refine ev ?_; try exact True.intro)
  (repeat (with_reducible refine ob ?_)); refine yo ?_
  try (refine ev ?_; try exact True.intro)
theorem qjo (r : Rd) (most : Nat) (hr : r.Ok) (hm : most ≤ 1000000000) : ACall Try.prog 115 [.d (.ptr 0 0), .d (.func (.func 116) [] [.ptr 1 0, .ptr 2 0])] [rdO r, .row [.d (.ptr 0 0)], .row [.d (.int .i64 most)]] (.d (.sl 1 (byteRows (rBytesP most r).1))) [rdO (rBytesP most r).2, .row [.d (.ptr 0 0)], .row [.d (.int .i64 most)]] := by
 have hc := qru r most hr hm
 unfold rBytesP
 unfold rPart
 obtain ⟨b, p, f⟩ := r
 simp only [rdO] at hc
 refine xhd.go ?_
 try (refine ev1 @rdO.eq_1 ?_; try exact True.intro)
 cases f
 ·try (refine ev ?_; try exact True.intro)
  (repeat (with_reducible refine ob ?_)); refine no_ ?_
  try (refine ev ?_; try exact True.intro)
  (repeat (with_reducible refine ob ?_)); refine clO [0, 1, 2] xhb (hc) ?_
  try (refine ev ?_; try exact True.intro)
  cases hf : (rBytes0 most ⟨b, p, false⟩).2.failed
  ·try (refine ev ?_; try exact True.intro)
   (repeat (with_reducible refine ob ?_)); refine no_ ?_
   try simp only [hf, if_false, go_sem, Nat.reduceAdd, Nat.reduceMul, Nat.reduceSub, Nat.reduceEqDiff, Nat.reduceLT, Nat.reduceLeDiff, Nat.reduceBEq, reduceIte, reduceCtorEq, Int.reduceAdd, Int.reduceLT, Int.reduceLE, Int.reduceGT, Int.reduceGE, Int.reduceEq, Int.reduceNe, Int.reduceBEq, Int.reduceBNe, Int.reduceToNat, Int.reduceNeg]
  ·try (refine ev ?_; try exact True.intro)
   (repeat (with_reducible refine ob ?_)); refine yo ?_
   try (refine ev1 @hf ?_; try exact True.intro)
 ·try (refine ev ?_; try exact True.intro)
  (repeat (with_reducible refine ob ?_)); refine yo ?_
  try (refine ev ?_; try exact True.intro)
theorem q7k (r : Rd) (hr : r.Ok) : ACall Try.prog 62 [.d (.ptr 0 0)] [rdO r] (.d (.int .i64 (rIntP r).1)) [rdO (rIntP r).2] := by
 have hc := qoz r hr
 simp only [rdO] at hc
 refine F62.go ?_
 try (refine ev1 @rdO.eq_1 ?_; try exact True.intro)
 (repeat (with_reducible refine ob ?_)); refine clO [0] q7j (hc) ?_
 try (refine ev ?_; try exact True.intro)
theorem qjp (r : Rd) (lo hi : Int) (hr : r.Ok) : ACall Try.prog 80 [.d (.ptr 0 0), .d (.int .i64 lo), .d (.int .i64 hi)] [rdO r] (.d (.int .i64 (rBoundedP lo hi r).1)) [rdO (rBoundedP lo hi r).2] := by
 have hc := qek r lo hi hr
 simp only [rdO] at hc
 refine F80.go ?_
 try (refine ev1 @rdO.eq_1 ?_; try exact True.intro)
 refine clO [0, 1, 2, 3] q7j hc ?_
 try (refine ev ?_; try exact True.intro)
theorem qrv (r : Rd) (hr : r.Ok) : ACall Try.prog 82 [.d (.ptr 0 0)] [rdO r] (.d (.bool (rBoolP r).1)) [rdO (rBoolP r).2] := by
 have hc := qlu r hr
 simp only [rdO] at hc
 refine F82.go ?_
 try (refine ev1 @rdO.eq_1 ?_; try exact True.intro)
 (repeat (with_reducible refine ob ?_)); refine clO [0] xhc (hc) ?_
 try (refine ev ?_; try exact True.intro)
theorem qfj (r : Rd) (most : Nat) (hr : r.Ok) (hm : most ≤ 1000000000) : ACall Try.prog 83 [.d (.ptr 0 0), .d (.int .i64 most)] [rdO r] (.d (.sl 1 (byteRows (rBytesP most r).1))) [rdO (rBytesP most r).2] := by
 have hc := qjo r most hr hm
 simp only [rdO] at hc
 refine F83.go ?_
 try (refine ev1 @rdO.eq_1 ?_; try exact True.intro)
 refine clO [0, 1, 2] xhd hc ?_
 try (refine ev ?_; try exact True.intro)
theorem qrw (r : Rd) (most : Nat) (hr : r.Ok) (hm : most ≤ 1000000000) : ACall Try.prog 81 [.d (.ptr 0 0), .d (.int .i64 most)] [rdO r] (.d (.str (rBytesP most r).1)) [rdO (rBytesP most r).2] := by
 have hc := qfj r most hr hm
 simp only [rdO] at hc
 refine F81.go ?_
 try (refine ev1 @rdO.eq_1 ?_; try exact True.intro)
 (repeat (with_reducible refine ob ?_)); refine clO [0] F83 (hc) ?_
 try (refine ev ?_; try exact True.intro)
end Go.Proofs.Ytinnaedmdoengaa
namespace Go.Proofs.Ytinnaedmdoengaa
open Go.Abs
set_option linter.unusedSimpArgs false
set_option linter.unusedVariables false
theorem q4m {r : Rd} (h : r.Ok) : (rIntP r).2.Ok ∧ (rIntP r).2.b = r.b := qas h (qb7 h)
theorem qat {r : Rd} (h : r.Ok) (lo hi : Int) : (rBoundedP lo hi r).2.Ok ∧ (rBoundedP lo hi r).2.b = r.b := qas h (jg h lo hi)
theorem qbd {r : Rd} (h : r.Ok) : (rBoolP r).2.Ok ∧ (rBoolP r).2.b = r.b := qas h (qfi h)
theorem vg {r : Rd} (h : r.Ok) (most : Int) : (rBytesP most r).2.Ok ∧ (rBytesP most r).2.b = r.b := qas h (qdr h most)
theorem qbx (r : Rd) (lo hi : Int) : (rBoundedP lo hi r).1 = 0 ∨ (lo ≤ (rBoundedP lo hi r).1 ∧ (rBoundedP lo hi r).1 ≤ hi) := by
 unfold rBoundedP rPart
 split
 ·exact .inl rfl
 ·split
  ·exact .inl rfl
  ·rename_i h
   exact .inr (qdq (by simpa using h))
def rOp (r : Rd) : OpS × Rd :=
 (⟨(rBytesP 40 r).1, (rBoolP (rBytesP 40 r).2).1, (rBytesP 900 (rBoolP (rBytesP 40 r).2).2).1⟩, (rBytesP 900 (rBoolP (rBytesP 40 r).2).2).2)
def rOpsA : Nat → Rd → List OpS × Rd
 | 0, r => ([], r)
 | n + 1, r => ((rOpsA n r).1 ++ [(rOp (rOpsA n r).2).1], (rOp (rOpsA n r).2).2)
theorem qxb {r : Rd} (h : r.Ok) : (rOp r).2.Ok ∧ (rOp r).2.b = r.b := by
 have h1 := vg h 40
 have h2 := qbd h1.1
 have h3 := vg h2.1 900
 exact ⟨h3.1, h3.2.trans (h2.2.trans h1.2)⟩
theorem qau {r : Rd} (h : r.Ok) : ∀ n, (rOpsA n r).2.Ok ∧ (rOpsA n r).2.b = r.b ∧ (rOpsA n r).1.length = n
 | 0 => ⟨h, rfl, rfl⟩
 | n + 1 => by
  have ih := qau h n
  have := qxb ih.1
  exact ⟨this.1, this.2.trans ih.2.1, by simp only [rOpsA, List.length_append, ih.2.2, List.length_singleton]⟩
def decRd (b : List UInt8) : List OpS × Rd := rOpsA (rBoundedP 1 20 ⟨b, 0, false⟩).1.toNat (rBoundedP 1 20 ⟨b, 0, false⟩).2
def sDecode (b : List UInt8) : List OpS × Int := if rEnd (decRd b).2 ≠ 0 then ([], 4) else if (sEncode (decRd b).1).2 ≠ 0 then ([], 4) else ((decRd b).1, 0)
noncomputable section
set_option maxRecDepth 100000
def s32r0 : List SOper := [
 ⟨some 2, .mov (.k (.d .nilsl)), none⟩,
 ⟨some 3, .mov (.k (.d (.int .i64 0))), none⟩]
def s32r1 : List SOper := [
 ⟨some 10, .mov (.t 0), none⟩,
 ⟨some 11, .call (.k (.d (.func (.func 61) [] []))) [(.t 10)], none⟩,
 ⟨some 4, .mov (.t 11), none⟩]
def s32r2 : List SOper := [
 ⟨some 12, .mov (.t 4), none⟩,
 ⟨some 13, .call (.k (.d (.func (.func 80) [] []))) [(.t 12), (.k (.d (.int .i64 1))), (.k (.d (.int .i64 20)))], none⟩,
 ⟨some 5, .mov (.t 13), none⟩]
def s32r3 : List SOper := [
 ⟨some 6, .mov (.k (.d .nilsl)), none⟩]
def s32r4 : List SOper := [
 ⟨some 14, .mov (.t 5), none⟩,
 ⟨some 15, .mov (.k (.d (.int .i64 0))), none⟩]
def s32r5 : List SOper := [
 ⟨some 16, .bin .lss (.t 15) (.t 14), none⟩]
def s32r6 : List SOper := [
 ⟨some 17, .mov (.t 4), none⟩,
 ⟨some 18, .call (.k (.d (.func (.func 81) [] []))) [(.t 17), (.k (.d (.int .i64 40)))], none⟩,
 ⟨some 19, .build [(.str []), (.bool false), .nilsl] [(0, 1, (.t 18))], none⟩,
 ⟨some 7, .alloc 1 [(.d (.str [])), (.d (.bool false)), (.d .nilsl)], none⟩,
 ⟨none, .store (some 3) (.t 7) (.t 19), none⟩]
def s32r7 : List SOper := [
 ⟨some 20, .mov (.t 4), none⟩,
 ⟨some 21, .call (.k (.d (.func (.func 82) [] []))) [(.t 20)], none⟩,
 ⟨some 22, .faddr 1 (.t 7), none⟩,
 ⟨none, .store none (.t 22) (.t 21), none⟩]
def s32r8 : List SOper := [
 ⟨some 23, .mov (.t 4), none⟩,
 ⟨some 24, .call (.k (.d (.func (.func 83) [] []))) [(.t 23), (.k (.d (.int .i64 900)))], none⟩,
 ⟨some 25, .faddr 2 (.t 7), none⟩,
 ⟨none, .store none (.t 25) (.t 24), none⟩]
def s32r9 : List SOper := [
 ⟨some 26, .mov (.t 6), none⟩,
 ⟨some 27, .load (some 3) (.t 7), none⟩,
 ⟨some 28, .buildSlice false 3 1 [(.str []), (.bool false), .nilsl] [(0, 3, (.t 27))], none⟩,
 ⟨some 29, .append false 3 48 (.t 26) (.t 28), none⟩,
 ⟨some 6, .mov (.t 29), none⟩]
def s32r10 : List SOper := [
 ⟨some 30, .bin .add (.t 15) (.k (.d (.int .i64 1))), none⟩,
 ⟨some 15, .mov (.t 30), none⟩]
def s32l11 : SCode := (.seq (.region s32r5 0 []) (.seq (.cond (.t 16) .skip (.exit 0)) (.seq (.block 1 (.seq (.region s32r6 1 []) (.seq (.region s32r7 0 []) (.seq (.region s32r8 0 []) (.region s32r9 0 []))))) (.region s32r10 0 []))))
theorem q4n : CodeIs s32l11.eq_1 := qc s32l11.eq_1
def s32r12 : List SOper := [
 ⟨some 31, .mov (.t 4), none⟩,
 ⟨some 32, .call (.k (.d (.func (.func 84) [] []))) [(.t 31)], none⟩,
 ⟨some 33, .bin .neq (.t 32) (.k (.d (.int .i64 0))), none⟩]
def s32r13 : List SOper := [
 ⟨some 2, .mov (.k (.d .nilsl)), none⟩,
 ⟨some 3, .mov (.k (.d (.int .i64 4))), none⟩]
def s32r14 : List SOper := [
 ⟨some 35, .mov (.t 6), none⟩,
 ⟨some 36, .call (.k (.d (.func (.func 30) [] []))) [(.t 35)], none⟩,
 ⟨some 34, .mov (.t 36), none⟩,
 ⟨some 37, .extract 0 (.t 34), none⟩,
 ⟨some 38, .extract 1 (.t 34), none⟩,
 ⟨some 8, .mov (.t 37), none⟩,
 ⟨some 9, .mov (.t 38), none⟩]
def s32r15 : List SOper := [
 ⟨some 39, .mov (.t 9), none⟩,
 ⟨some 40, .bin .neq (.t 39) (.k (.d (.int .i64 0))), none⟩]
def s32r16 : List SOper := [
 ⟨some 2, .mov (.k (.d .nilsl)), none⟩,
 ⟨some 3, .mov (.k (.d (.int .i64 4))), none⟩]
def s32r17 : List SOper := [
 ⟨some 41, .mov (.t 6), none⟩,
 ⟨some 2, .mov (.t 41), none⟩,
 ⟨some 3, .mov (.k (.d (.int .i64 0))), none⟩]
def s32 : SCode := (.seq (.region s32r0 0 []) (.seq (.region s32r1 1 []) (.seq (.region s32r2 0 []) (.seq (.region s32r3 0 []) (.seq (.seq (.region s32r4 0 []) (.block 0 (.loop s32l11))) (.seq (.seq (.region s32r12 0 []) (.cond (.t 33) (.seq (.region s32r13 0 []) .ret) .skip)) (.seq (.seq (.region s32r14 0 []) (.seq (.region s32r15 0 []) (.cond (.t 40) (.seq (.region s32r16 0 []) .ret) .skip))) (.seq (.region s32r17 0 []) .ret))))))))
theorem e32 : CodeIs s32.eq_1 := qc s32.eq_1
theorem xd1 : RegIs s32r0.eq_1 := qa
theorem xd2 : RegIs s32r1.eq_1 := qa
theorem xd3 : RegIs s32r2.eq_1 := qa
theorem xd4 : RegIs s32r3.eq_1 := qa
theorem xd5 : RegIs s32r4.eq_1 := qa
theorem xd6 : RegIs s32r5.eq_1 := qa
theorem xd7 : RegIs s32r6.eq_1 := qa
theorem xd8 : RegIs s32r7.eq_1 := qa
theorem xd9 : RegIs s32r8.eq_1 := qa
theorem xea : RegIs s32r9.eq_1 := qa
theorem q4o : RegIs s32r10.eq_1 := qa
theorem q4p : RegIs s32r12.eq_1 := qa
theorem q4q : RegIs s32r13.eq_1 := qa
theorem q4r : RegIs s32r14.eq_1 := qa
theorem q4s : RegIs s32r15.eq_1 := qa
theorem q4t : RegIs s32r16.eq_1 := qa
theorem q4u : RegIs s32r17.eq_1 := qa
attribute [go_sem] xd1 xd2 xd3 xd4 xd5 xd6 xd7 xd8 xd9 xea q4o q4n q4p q4q q4r q4s q4t q4u e32
theorem F32 : FnIs Try.prog 32 Try.f32 [] news s32 [.tmp 2, .tmp 3] 42 := xe follows Try.func32
end
def Sdec (n : Nat) (r : Rd) (i : { i : Nat // i ≤ n }) : St :=
 ⟨[(4, true, .d (.ptr 0 0)), (6, true, .own 0 3 ((rOpsA i.val r).1.map encOp)), (14, true, .d (.int .i64 (n : Nat))), (15, true, .d (.int .i64 (i.val : Nat)))], [rdO (rOpsA i.val r).2], [0], 1⟩
set_option maxRecDepth 10000 in
theorem qfk (b : List UInt8) (hb : b.length ≤ 1000000000) : ACall Try.prog 32 [.d (.sl 1 (byteRows b))] [] (.tup [.d (.sl 3 ((sDecode b).1.map encOp)), .d (.int .i64 (sDecode b).2)]) [] := by
 have hnew := qun b hb
 have hr0 : (⟨b, 0, false⟩ : Rd).Ok := ⟨hb, Nat.zero_le _⟩
 have hbd := qjp ⟨b, 0, false⟩ 1 20 hr0
 have hin := qbx ⟨b, 0, false⟩ 1 20
 have hinv := (qat hr0 1 20).1
 unfold sDecode decRd
 generalize rBoundedP 1 20 ⟨b, 0, false⟩ = x at hbd hin hinv ⊢
 obtain ⟨n, r⟩ := x
 simp only at hin hinv
 have hn0 : n = ((n.toNat : Nat) : Int) := by omega
 generalize n.toNat = m at hn0
 subst hn0
 simp only [rdO] at hnew hbd
 refine F32.goT ?_
 try (refine ev ?_; try exact True.intro)
 (repeat (with_reducible refine ob ?_)); refine clO [0] F61 (hnew) ?_ (hfit := by first | exact ⟨qb, trivial⟩ | exact ⟨qb, qb, trivial⟩ | simp only [encOp, encEn, encStep, go_sem, Nat.reduceAdd, Nat.reduceMul, Nat.reduceSub, Nat.reduceEqDiff, Nat.reduceLT, Nat.reduceLeDiff, Nat.reduceBEq, reduceIte, reduceCtorEq, Int.reduceAdd, Int.reduceLT, Int.reduceLE, Int.reduceGT, Int.reduceGE, Int.reduceEq, Int.reduceNe, Int.reduceBEq, Int.reduceBNe, Int.reduceToNat, Int.reduceNeg])
 try (refine ev ?_; try exact True.intro)
 (repeat (with_reducible refine ob ?_)); refine clO [0] F80 (hbd) ?_ (hfit := by first | exact ⟨qb, trivial⟩ | exact ⟨qb, qb, trivial⟩ | simp only [encOp, encEn, encStep, go_sem, Nat.reduceAdd, Nat.reduceMul, Nat.reduceSub, Nat.reduceEqDiff, Nat.reduceLT, Nat.reduceLeDiff, Nat.reduceBEq, reduceIte, reduceCtorEq, Int.reduceAdd, Int.reduceLT, Int.reduceLE, Int.reduceGT, Int.reduceGE, Int.reduceEq, Int.reduceNe, Int.reduceBEq, Int.reduceBNe, Int.reduceToNat, Int.reduceNeg])
 try (refine ev ?_; try exact True.intro)
 refine ql (Sdec m r) (fun i => m - i.val) ⟨0, Nat.zero_le _⟩ ?_ (fun i => ?_)
 ·try simp only [Sdec, rdO, rOpsA, List.map_nil, Int.ofNat_zero, go_sem, Nat.reduceAdd, Nat.reduceMul, Nat.reduceSub, Nat.reduceEqDiff, Nat.reduceLT, Nat.reduceLeDiff, Nat.reduceBEq, reduceIte, reduceCtorEq, Int.reduceAdd, Int.reduceLT, Int.reduceLE, Int.reduceGT, Int.reduceGE, Int.reduceEq, Int.reduceNe, Int.reduceBEq, Int.reduceBNe, Int.reduceToNat, Int.reduceNeg]
 obtain ⟨i, hi⟩ := i
 have hri := qau hinv i
 try (refine ev2 @Sdec.eq_1 @rdO.eq_1 ?_; try exact True.intro)
 (repeat (with_reducible refine ob ?_)); refine xk _ (fun h => ?_) (fun h => ?_)
 ·have hil : i < m := by simp at h; omega
  have hT := qrw (rOpsA i r).2 40 hri.1 (by decide)
  have hiT := vg hri.1 40
  have hB := qrv _ hiT.1
  have hiB := qbd hiT.1
  have hV := qfj _ 900 hiB.1 (by decide)
  simp only [rdO] at hT hB hV
  try (refine ev ?_; try exact True.intro)
  (repeat (with_reducible refine ob ?_)); refine clO [0] F81 (hT) ?_ (hfit := by first | exact ⟨qb, trivial⟩ | exact ⟨qb, qb, trivial⟩ | simp only [encOp, encEn, encStep, go_sem, Nat.reduceAdd, Nat.reduceMul, Nat.reduceSub, Nat.reduceEqDiff, Nat.reduceLT, Nat.reduceLeDiff, Nat.reduceBEq, reduceIte, reduceCtorEq, Int.reduceAdd, Int.reduceLT, Int.reduceLE, Int.reduceGT, Int.reduceGE, Int.reduceEq, Int.reduceNe, Int.reduceBEq, Int.reduceBNe, Int.reduceToNat, Int.reduceNeg])
  try (refine ev ?_; try exact True.intro)
  (repeat (with_reducible refine ob ?_)); refine clO [0] F82 (hB) ?_ (hfit := by first | exact ⟨qb, trivial⟩ | exact ⟨qb, qb, trivial⟩ | simp only [encOp, encEn, encStep, go_sem, Nat.reduceAdd, Nat.reduceMul, Nat.reduceSub, Nat.reduceEqDiff, Nat.reduceLT, Nat.reduceLeDiff, Nat.reduceBEq, reduceIte, reduceCtorEq, Int.reduceAdd, Int.reduceLT, Int.reduceLE, Int.reduceGT, Int.reduceGE, Int.reduceEq, Int.reduceNe, Int.reduceBEq, Int.reduceBNe, Int.reduceToNat, Int.reduceNeg])
  try (refine ev ?_; try exact True.intro)
  (repeat (with_reducible refine ob ?_)); refine clO [0] F83 (hV) ?_ (hfit := by first | exact ⟨qb, trivial⟩ | exact ⟨qb, qb, trivial⟩ | simp only [encOp, encEn, encStep, go_sem, Nat.reduceAdd, Nat.reduceMul, Nat.reduceSub, Nat.reduceEqDiff, Nat.reduceLT, Nat.reduceLeDiff, Nat.reduceBEq, reduceIte, reduceCtorEq, Int.reduceAdd, Int.reduceLT, Int.reduceLE, Int.reduceGT, Int.reduceGE, Int.reduceEq, Int.reduceNe, Int.reduceBEq, Int.reduceBNe, Int.reduceToNat, Int.reduceNeg])
  try (refine ev ?_; try exact True.intro)
  (repeat (with_reducible refine ob ?_))
  refine ⟨⟨i + 1, hil⟩, ?_, by dsimp only; omega⟩
  try simp only [Sdec, rdO, rOpsA, rOp, List.map_append, List.map_cons, List.map_nil, encOp, qj (show i < 9223372036854775807 by omega), go_sem, Nat.reduceAdd, Nat.reduceMul, Nat.reduceSub, Nat.reduceEqDiff, Nat.reduceLT, Nat.reduceLeDiff, Nat.reduceBEq, reduceIte, reduceCtorEq, Int.reduceAdd, Int.reduceLT, Int.reduceLE, Int.reduceGT, Int.reduceGE, Int.reduceEq, Int.reduceNe, Int.reduceBEq, Int.reduceBNe, Int.reduceToNat, Int.reduceNeg]
 ·have hil : i = m := by simp at h; omega
  subst hil
  have hE := qw4 (rOpsA i r).2 hri.1
  simp only [rdO] at hE
  try (refine ev ?_; try exact True.intro)
  (repeat (with_reducible refine ob ?_)); refine clO [0] F84 (hE) ?_ (hfit := by first | exact ⟨qb, trivial⟩ | exact ⟨qb, qb, trivial⟩ | simp only [encOp, encEn, encStep, go_sem, Nat.reduceAdd, Nat.reduceMul, Nat.reduceSub, Nat.reduceEqDiff, Nat.reduceLT, Nat.reduceLeDiff, Nat.reduceBEq, reduceIte, reduceCtorEq, Int.reduceAdd, Int.reduceLT, Int.reduceLE, Int.reduceGT, Int.reduceGE, Int.reduceEq, Int.reduceNe, Int.reduceBEq, Int.reduceBNe, Int.reduceToNat, Int.reduceNeg])
  try (refine ev ?_; try exact True.intro)
  refine xk _ (fun h => ?_) (fun h => ?_)
  ·rw [if_pos (show rEnd (rOpsA i r).2 ≠ 0 by simpa using h)]
   try (refine ev ?_; try exact True.intro)
  ·rw [if_neg (show ¬ rEnd (rOpsA i r).2 ≠ 0 by simpa using h)]
   try (refine ev ?_; try exact True.intro)
   (repeat (with_reducible refine ob ?_)); first | refine cl F30 (we (rOpsA i r).1 (by omega)) ?_ | refine clF F30 (we (rOpsA i r).1 (by omega)) (fun _ => by simp only [encOp, encEn, encStep, go_sem, Nat.reduceAdd, Nat.reduceMul, Nat.reduceSub, Nat.reduceEqDiff, Nat.reduceLT, Nat.reduceLeDiff, Nat.reduceBEq, reduceIte, reduceCtorEq, Int.reduceAdd, Int.reduceLT, Int.reduceLE, Int.reduceGT, Int.reduceGE, Int.reduceEq, Int.reduceNe, Int.reduceBEq, Int.reduceBNe, Int.reduceToNat, Int.reduceNeg]) ?_
   try (refine ev ?_; try exact True.intro)
   refine xk _ (fun h => ?_) (fun h => ?_)
   ·rw [if_pos (show (sEncode (rOpsA i r).1).2 ≠ 0 by simpa using h)]
    try (refine ev ?_; try exact True.intro)
   ·rw [if_neg (show ¬ (sEncode (rOpsA i r).1).2 ≠ 0 by simpa using h)]
    try (refine ev ?_; try exact True.intro)
end Go.Proofs.Ytinnaedmdoengaa
namespace Go.Proofs.Ytinnaedmdoengaa
open Go.Abs
set_option linter.unusedSimpArgs false
set_option linter.unusedVariables false
def dG : Nat → Nat → Nat → List UInt8 → Option (Int × List UInt8)
 | 0, _, _, _ => none
 | _ + 1, _, _, [] => none
 | k + 1, j, u, c :: l =>
  if c.toNat < 128 then (if ((c.toNat == 0 && decide (0 < j)) || (decide (j = 9) && decide (c.toNat > 1))) = true then none else some (unz (u + c.toNat * 128 ^ j), l))
  else dG k (j + 1) (u + c.toNat % 128 * 128 ^ j) l
def dInt (l : List UInt8) : Option (Int × List UInt8) := dG 10 0 0 l
def Got {α : Type} (o : Option (α × List UInt8)) (b : List UInt8) (x : α × Rd) : Prop := match o with
 | some (v, l) => x = (v, ⟨b, b.length - l.length, false⟩)
 | none => x.2.failed = true
def Reads {α : Type} (z : α) (f : Rd → α × Rd) (d : List UInt8 → Option (α × List UInt8)) : Prop :=
 ∀ r : Rd, r.Ok → f r = if r.failed = true then (z, r) else match d (r.b.drop r.pos) with
  | some (v, l) => (v, ⟨r.b, r.b.length - l.length, false⟩)
  | none => (z, ⟨r.b, r.pos, true⟩)
def Tails {α : Type} (d : List UInt8 → Option (α × List UInt8)) : Prop := ∀ l0 v l, d l0 = some (v, l) → ∃ p, l0 = p ++ l
theorem ky {b : List UInt8} {p : Nat} {q l : List UInt8} (hp : p ≤ b.length) (h : b.drop p = q ++ l) : b.drop (b.length - l.length) = l ∧ l.length ≤ b.length := by
 have h1 := congrArg List.length h
 simp only [List.length_drop, List.length_append] at h1
 have h2 : b.drop (p + q.length) = l := by rw [← List.drop_drop, h, List.drop_left]
 have e : b.length - l.length = p + q.length := by omega
 rw [e]; exact ⟨h2, by omega⟩
theorem qrx : ∀ (k j u : Nat) {l0 : List UInt8} {v : Int} {l : List UInt8}, dG k j u l0 = some (v, l) → ∃ p, l0 = p ++ l
 | 0, _, _, _, _, _, h => by simp [dG] at h
 | k + 1, j, u, [], _, _, h => by simp [dG] at h
 | k + 1, j, u, c :: l0, v, l, h => by
  rw [dG] at h
  split at h
  ·split at h
   ·cases h
   ·cases h; exact ⟨[c], rfl⟩
  ·obtain ⟨p, rfl⟩ := qrx k (j + 1) _ h
   exact ⟨c :: p, rfl⟩
theorem qry : Tails dInt := fun _ _ _ h => qrx 10 0 0 h
theorem qfl {r : Rd} (hr : r.Ok) (hf : r.failed = false) {c : UInt8} {l : List UInt8} (h : r.b.drop r.pos = c :: l) : rNext 1 r = ([c], ⟨r.b, r.pos + 1, false⟩) ∧ r.b.drop (r.pos + 1) = l := by
 have hl := congrArg List.length h
 simp only [List.length_drop, List.length_cons] at hl
 have h2 : r.b.drop (r.pos + 1) = l := by rw [← List.drop_drop, h]; rfl
 refine ⟨?_, h2⟩
 unfold rNext
 rw [if_neg (by simp [hf]; omega), h, hf]; rfl
theorem qjq {r : Rd} (hf : r.failed = false) (h : r.b.drop r.pos = []) : rNext 1 r = ([], ⟨r.b, r.pos, true⟩) := by
 have hl := congrArg List.length h
 simp only [List.length_drop, List.length_nil] at hl
 unfold rNext
 rw [if_pos (by simp [hf]; omega)]
theorem v8 {j : Nat} (h : j ≤ 8) : 128 ^ (j + 1) ≤ 9223372036854775808 := by
 have h1 : 128 ^ (j + 1) ≤ 128 ^ 9 := Nat.pow_le_pow_right (by decide) (by omega)
 have h2 : (128 : Nat) ^ 9 = 9223372036854775808 := by decide
 omega
theorem qrz : ∀ (k j u : Nat) {r : Rd}, j + k = 10 → u < 128 ^ j → r.Ok → r.failed = false →
  Got (dG k j u (r.b.drop r.pos)) r.b (rIntG k j u r)
 | 0, j, u, r, _, _, _, _ => by simp only [Got, dG, rIntG]
 | k + 1, j, u, r, hj, hu, hr, hf => by
  cases hd : r.b.drop r.pos with
  | nil =>
   simp only [dG]
   rw [rIntG, qjq hf hd, if_pos rfl]
   exact (rfl : true = true)
  | cons c l =>
   obtain ⟨h1, h2⟩ := qfl hr hf hd
   have hlt := kj c
   have hlen := congrArg List.length hd
   simp only [List.length_drop, List.length_cons] at hlen
   rw [rIntG, h1, dG]
   simp only [Bool.false_eq_true, if_false, List.headD_cons]
   by_cases hc : c.toNat < 128
   ·simp only [hc, if_true]
    by_cases hb : ((c.toNat == 0 && decide (0 < j)) || (decide (j = 9) && decide (c.toNat > 1))) = true
    ·rw [if_pos hb]
     exact hb
    ·rw [if_neg hb]
     simp only [Bool.not_eq_true] at hb
     have hm : c.toNat % 128 = c.toNat := Nat.mod_eq_of_lt hc
     have hs : u + c.toNat * 128 ^ j < 18446744073709551616 := by
      rcases Nat.lt_or_ge j 9 with h9 | h9
      ·have hp := v8 (j := j) (by omega)
       rw [Nat.pow_succ] at hp
       have : c.toNat * 128 ^ j ≤ 127 * 128 ^ j := Nat.mul_le_mul_right _ (by omega)
       omega
      ·have : j = 9 := by omega
       subst this
       simp at hb
       have e : (128 : Nat) ^ 9 = 9223372036854775808 := by decide
       rw [e] at hu ⊢
       omega
     rw [hm, Nat.mod_eq_of_lt hs]
     simp only [Got, Prod.mk.injEq, Rd.mk.injEq]
     exact ⟨trivial, trivial, by omega, hb⟩
   ·simp only [hc, if_false]
    cases k with
    | zero => simp only [Got, dG, rIntG]
    | succ k =>
     have hp := v8 (j := j) (by omega)
     have hu2 : u + c.toNat % 128 * 128 ^ j < 128 ^ (j + 1) := by
      have h3 : c.toNat % 128 * 128 ^ j ≤ 127 * 128 ^ j := Nat.mul_le_mul_right _ (by omega)
      rw [Nat.pow_succ]
      omega
     rw [Nat.mod_eq_of_lt (show u + c.toNat % 128 * 128 ^ j < 18446744073709551616 by omega)]
     have ih := qrz (k + 1) (j + 1) (u + c.toNat % 128 * 128 ^ j) (r := ⟨r.b, r.pos + 1, false⟩) (by omega) hu2 ⟨hr.len, by have := hr.pos; simp only; omega⟩ rfl
     rw [show (⟨r.b, r.pos + 1, false⟩ : Rd).b.drop (⟨r.b, r.pos + 1, false⟩ : Rd).pos = l from h2] at ih
     exact ih
theorem qvi {r : Rd} (hr : r.Ok) (hf : r.failed = false) : Got (dInt (r.b.drop r.pos)) r.b (rInt r) := qrz 10 0 0 rfl (by decide) hr hf
theorem wm {α : Type} {z : α} {f : Rd → α × Rd} {d : List UInt8 → Option (α × List UInt8)} (hi : ∀ r : Rd, r.Ok → (f r).2.b = r.b)
  (h : ∀ r : Rd, r.Ok → r.failed = false → Got (d (r.b.drop r.pos)) r.b (f r)) : Reads z (rPart z f) d := by
 intro r hr
 unfold rPart
 by_cases hf : r.failed = true
 ·rw [if_pos hf, if_pos hf]
 ·rw [if_neg hf, if_neg hf]
  have := h r hr (by simpa using hf)
  cases hd : d (r.b.drop r.pos) with
  | none =>
   rw [hd] at this
   simp only [Got] at this
   rw [if_pos this, hi r hr, this]
  | some x =>
   obtain ⟨v, l⟩ := x
   rw [hd] at this
   simp only [Got] at this
   rw [this, if_neg (by simp)]
theorem qr0 : Reads 0 rIntP dInt := wm (fun r hr => (qb7 hr).2) (fun r hr hf => qvi hr hf)
def dBounded (lo hi : Int) (l0 : List UInt8) : Option (Int × List UInt8) := match dInt l0 with
 | some (n, l) => if n < lo ∨ n > hi then none else some (n, l)
 | none => none
theorem jn (lo hi : Int) : Tails (dBounded lo hi) := by
 intro l0 v l h
 unfold dBounded at h
 split at h
 ·rename_i hd
  split at h
  ·cases h
  ·cases h; exact qry _ _ _ hd
 ·cases h
theorem qfm (lo hi : Int) {r : Rd} (hr : r.Ok) (hf : r.failed = false) : Got (dBounded lo hi (r.b.drop r.pos)) r.b (rBounded lo hi r) := by
 have h := qvi hr hf
 unfold dBounded
 cases hd : dInt (r.b.drop r.pos) with
 | none =>
  rw [hd] at h
  simp only [Got] at h ⊢
  simp only [rBounded, Rd.fail, h, Bool.true_or]
 | some x =>
  obtain ⟨n, l⟩ := x
  rw [hd] at h
  simp only [Got] at h ⊢
  by_cases hn : n < lo ∨ n > hi
  ·rw [if_pos hn]
   simp only [rBounded, Rd.fail, h, Bool.false_or]
   simpa using hn
  ·rw [if_neg hn]
   simp only [rBounded, Rd.fail, h, Bool.false_or]
   have : (decide (n < lo) || decide (n > hi)) = false := by simpa using hn
   rw [this]
theorem ym (lo hi : Int) : Reads 0 (rBoundedP lo hi) (dBounded lo hi) := wm (fun r hr => (jg hr lo hi).2) (fun r hr hf => qfm lo hi hr hf)
def dBytes (most : Int) (l0 : List UInt8) : Option (List UInt8 × List UInt8) := match dBounded 0 most l0 with
 | some (n, l) => if l.length < n.toNat then none else some (l.take n.toNat, l.drop n.toNat)
 | none => none
theorem qlv (most : Int) : Tails (dBytes most) := by
 intro l0 v l h
 unfold dBytes at h
 split at h
 ·rename_i n l1 hd
  split at h
  ·cases h
  ·cases h
   obtain ⟨p, rfl⟩ := jn _ _ _ _ _ hd
   exact ⟨p ++ l1.take n.toNat, by rw [List.append_assoc, List.take_append_drop]⟩
 ·cases h
theorem qr1 (most : Int) {r : Rd} (hr : r.Ok) (hf : r.failed = false) : Got (dBytes most (r.b.drop r.pos)) r.b (rBytes0 most r) := by
 have h := qfm 0 most hr hf
 unfold dBytes
 cases hd : dBounded 0 most (r.b.drop r.pos) with
 | none =>
  rw [hd] at h
  simp only [Got] at h ⊢
  unfold rBytes0
  rw [if_pos h]; exact h
 | some x =>
  obtain ⟨n, l⟩ := x
  rw [hd] at h
  simp only [Got] at h ⊢
  obtain ⟨p, hp⟩ := jn _ _ _ _ _ hd
  obtain ⟨t1, t2⟩ := ky hr.pos hp
  have e : r.b.length - (r.b.length - l.length) = l.length := by omega
  by_cases hn : l.length < n.toNat
  ·rw [if_pos hn]
   simp only [rBytes0, h, Bool.false_eq_true, if_false, rNext, Bool.false_or]
   rw [e, if_pos (by simpa using hn)]
  ·rw [if_neg hn]
   simp only [rBytes0, h, Bool.false_eq_true, if_false, rNext, Bool.false_or]
   rw [e, if_neg (by simpa using hn), t1]
   have : r.b.length - l.length + n.toNat = r.b.length - (l.drop n.toNat).length := by rw [List.length_drop]; omega
   rw [this]
theorem zt (most : Int) : Reads [] (rBytesP most) (dBytes most) := wm (fun r hr => (qdr hr most).2) (fun r hr hf => qr1 most hr hf)
def dBool : List UInt8 → Option (Bool × List UInt8)
 | [] => none
 | c :: l => if c.toNat > 1 then none else some (c.toNat == 1, l)
theorem qo0 : Tails dBool := by
 intro l0 v l h
 cases l0 with
 | nil => cases h
 | cons c l1 =>
  rw [dBool] at h
  split at h
  ·cases h
  ·cases h; exact ⟨[c], rfl⟩
theorem qus {r : Rd} (hr : r.Ok) (hf : r.failed = false) : Got (dBool (r.b.drop r.pos)) r.b (rBool0 r) := by
 cases hd : r.b.drop r.pos with
 | nil => simp only [Got, dBool, rBool0, qjq hf hd, Rd.fail, Bool.true_or]
 | cons c l =>
  obtain ⟨h1, h2⟩ := qfl hr hf hd
  have hlen := congrArg List.length hd
  simp only [List.length_drop, List.length_cons] at hlen
  simp only [Got, dBool]
  by_cases hc : c.toNat > 1
  ·rw [if_pos hc]
   simp only [rBool0, h1, Rd.fail, Bool.false_or, List.headD_cons, decide_eq_true hc]
  ·rw [if_neg hc]
   simp only [rBool0, h1, Rd.fail, Bool.false_or, List.headD_cons, decide_eq_false hc, Bool.not_false, Bool.true_and]
   have : r.b.length - l.length = r.pos + 1 := by omega
   rw [this]
theorem qav : Reads false rBoolP dBool := wm (fun r hr => (qfi hr).2) (fun r hr hf => qus hr hf)
end Go.Proofs.Ytinnaedmdoengaa
