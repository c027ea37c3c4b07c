/- Texts Wk, Wl, Wm, Za, Zb, Zc, Wn, Zd, Ze, Yd, Ya, Yb, Yc, Ye. -/
import Derived.Test.YtinnaedmdoengaaMgn
import Derived.Calls
import Derived.Orders
import Derived.Tactics
import Derived.Laws.AppendOwn
import Derived.Laws.Slices
import Derived.Laws.Closers25
import Derived.Laws.StructEq
import Derived.Laws.BytesString
import Derived.Laws.CopyRow
import Derived.MapKept
import Derived.Maps.RangeRun
import Derived.TacticsIn
import Derived.OrdersIn
import Derived.RangeFuncRecord
import Derived.RangeFuncLeaves
import Derived.IntWalk
import Derived.ProofKit
import Derived.OpenShut
import Derived.Carry
import Derived.Test.YtinnaedmdoengaaProg
import Derived.KernelRfl
import Derived.OwnWalkIn
import Derived.TacticsInMore
import Derived.LoopIn
import Derived.WalkKit
import Derived.Lib.Strings
import Derived.Lib.Slices
import Derived.Lib.Walk
import Derived.Lib.Bytealg
import Derived.Shelf.SlSortCmp.WholeK
import Derived.Shelf.SlSortCmp.NoneTotal

namespace Go.Proofs.Ytinnaedmdoengaa
open Go.Abs Go.Shelf Go.RowKit Go.Lib Go.Sort
set_option linter.unusedSimpArgs false
set_option linter.unusedVariables false
theorem q0s : (Try.prog.funcs[45]?).any (fun fn => fn.body.isSome && !(fn.name == "runtime.NumGoroutine")) = true := by rw [Try.func45]; rfl
theorem qt3 (x : RowE) : (encR x).length = 2 := rfl
theorem qt4 (x : RowE) : ∀ v ∈ encR x, v.oneCell' = true := by
 intro v hv
 simp [encR] at hv
 rcases hv with rfl | rfl
 ·rfl
 ·exact x.2.2
set_option maxHeartbeats 1000000 in
theorem qwd (l : List En) (hn : (l.map (·.1)).Nodup) (hl : l.length ≤ 1000000) :
  ACall Try.prog 45 [.d (.ref 0 0 2 l.length), .d (.func (.func 46) [] [])] [.row ((flatEn l).map .d)] (.tup []) [.row ((flatEn (sortEn l)).map .d)] := by
 intro g w vs hd hlen hv ho
 match vs, hlen with
 | [v0, v1], _ =>
 have h1 := xj (qs (hv 1 v1 _ rfl rfl))
 have hf1 : v1 = .func (.func 46) #[] #[] := by
  cases h1 with
  | func _ vf vc _ _ hf hc =>
   have e1 : vf = [] := List.eq_nil_of_length_eq_zero (by simpa using hf)
   have e2 : vc = [] := List.eq_nil_of_length_eq_zero (by simpa using hc)
   subst e1; subst e2; rfl
 subst hf1
 have h0 := xj (qs (hv 0 v0 _ rfl rfl))
 generalize hln : l.length = n at h0
 have none_ : ∀ (p : Option Addr) (cap : Nat), n = 0 → v0 = .slice p 0 cap → Calls Try.prog 45 [v0, .func (.func 46) #[] #[]].toArray w fun e w' =>
   ∃ v g' live', e = .returned v ∧ G g w g' w' ∧ Dom g' w' ∧ (∀ t ∈ (ASlot.tup []).toks, t ∈ live') ∧ RS g' w' live' v (.tup []) ∧ ObjsOk g' w' live' [.row ((flatEn (sortEn l)).map .d)] := by
  intro p cap h0 hv0
  have hl0 : l = [] := List.eq_nil_of_length_eq_zero (by omega)
  subst hl0; subst hv0
  have hcon := AnyF.slices_SortFunc_none q0r p cap (.func (.func 46) #[] #[]) w
  change Calls Try.prog 45 _ _ _ at hcon
  refine hcon.mono ?_
  rintro e w' ⟨rfl, rfl⟩
  have hs0 : sortEn [] = [] := by simp [sortEn]
  rw [hs0]
  exact ⟨_, g, [], rfl, .refl _ _, hd, by simp [ASlot.toks], ⟨[], rfl, rfl, fun i u s hu => by simp at hu⟩, ho⟩
 cases h0 with
 | refnil a => exact none_ a 0 rfl rfl
 | ref b _ _ _ _ cap hg hcap hmx hsz =>
 by_cases hn0 : n = 0
 ·subst hn0; exact none_ _ cap rfl rfl
 obtain ⟨b', hb', c, et, hh, hcs, hcc⟩ := (ho.objs 0 _ rfl (by simp)).resolve_right (fun h => by
  have := h.1
  simp at this
  have := congrArg List.length this
  simp [wd] at this; omega)
 have : b' = b := ho.inj b' b 0 hb' hg
 subst this
 rw [List.length_map, wd] at hcs
 have hcell : ∀ (i : Nat) (e : En), l[i]? = some e → c[2 * i]? = some (.string ⟨e.1.toArray⟩) ∧ ∃ v, c[2 * i + 1]? = some v ∧ v.oneCell' = true ∧ RV g w v (.sl 1 (byteRows e.2)) := by
  intro i e he
  obtain ⟨k1, k2⟩ := qe3 l i e he
  obtain ⟨u, u1, _, u3⟩ := hcc (2 * i) (.d (.str e.1)) (by rw [List.getElem?_map, k1]; rfl)
  obtain ⟨v, v1, v2, v3⟩ := hcc (2 * i + 1) (.d (.sl 1 (byteRows e.2))) (by rw [List.getElem?_map, k2]; rfl)
  have hu := jz (show RV g w u (.str e.1) from u3)
  subst hu
  exact ⟨u1, v, v1, v2, v3⟩
 let mkR : Nat → RowE := fun i => match l[i]?, c[2 * i + 1]? with
  | some e, some v => if h : v.oneCell' = true then (e.1, ⟨v, h⟩) else default
  | _, _ => default
 let P : List (RowE × En) := (List.range n).map fun i => (mkR i, l.getD i ([], []))
 have hPR : ∀ z ∈ P, z.1.1 = z.2.1 ∧ RV g w z.1.2.1 (.sl 1 (byteRows z.2.2)) := by
  intro z hz
  obtain ⟨i, hi, rfl⟩ := List.mem_map.1 hz
  have hil : i < l.length := by rw [hln]; exact List.mem_range.1 hi
  have he := List.getElem?_eq_getElem hil
  obtain ⟨_, v, v1, v2, v3⟩ := hcell i _ he
  have : mkR i = (l[i].1, ⟨v, v2⟩) := by simp only [mkR, he, v1, dif_pos v2]
  have e2 : l.getD i ([], []) = l[i] := by simp [List.getD, he]
  simp only [this, e2]
  exact ⟨trivial, v3⟩
 have hPs : P.map (·.2) = l := by
  apply List.ext_getElem?
  intro i
  simp only [P, List.map_map, List.getElem?_map]
  rcases Nat.lt_or_ge i n with h | h
  ·rw [List.getElem?_range h]
   have he := List.getElem?_eq_getElem (show i < l.length by omega)
   simp [he, List.getD]
  ·rw [List.getElem?_eq_none (by simpa using h), List.getElem?_eq_none (by omega)]; rfl
 obtain ⟨d, hdd⟩ : ∃ d : Array RowE, d = (P.map (·.1)).toArray := ⟨_, rfl⟩
 have hds : d.size = n := by rw [hdd]; simp [P]
 have hdi : ∀ i, i < n → d[i]! = mkR i := fun i hi => by rw [hdd]; simp [P, hi]
 have hblk : b' < w.heap.size := (Array.getElem?_eq_some_iff.1 hh).1
 have hfl : ∀ t, t < n * 2 → (flatK encR 2 d)[t]! = c.getD t default := by
  intro t ht
  rw [get_flatK encR 2 d t (by rw [hds]; exact ht), hdi _ (by omega)]
  have hil : t / 2 < l.length := by omega
  have he := List.getElem?_eq_getElem hil
  obtain ⟨k1, v, v1, v2, v3⟩ := hcell (t / 2) _ he
  have hm : mkR (t / 2) = (l[t / 2].1, ⟨v, v2⟩) := by simp only [mkR, he, v1, dif_pos v2]
  rw [hm]
  rcases Nat.mod_two_eq_zero_or_one t with hp | hp
  ·have e1 : 2 * (t / 2) = t := by omega
   rw [e1] at k1
   rw [hp, Array.getD_eq_getD_getElem?, k1]
   rfl
  ·have e1 : 2 * (t / 2) + 1 = t := by omega
   rw [e1] at v1
   rw [hp, Array.getD_eq_getD_getElem?, v1]
   rfl
 have hH : HoldsK encR 2 w b' 0 d := by
  intro j hj
  rw [size_flatK, hds] at hj
  refine ⟨?_, by simp [World.frozen?, hh]⟩
  rw [hfl j hj]
  have hjc : j < c.size := by omega
  simp [World.cell?, hh, hjc]
 have eg : ∀ args w, (callFunc 46 args).run Try.prog w = .ok (.enter 46 args) w := enters_of Try.func46 (by kernel_rfl) rfl
 have hcon := AnyQ.slices_SortFunc q0r 2 Try.isAgg99 Try.sizeOf99 encR qt3 qt4 cmpR xgn 46 #[] b' 0 cap d w eg (fun _ _ _ _ x y => qt2 x y _) hH hblk (by omega)
 change Calls Try.prog 45 _ _ _ at hcon
 rw [hds] at hcon
 refine hcon.mono ?_
 rintro e w' ⟨rfl, d', m, os, hperm, hsort, hw'⟩
 obtain ⟨hps, _, hpl⟩ := hperm
 rw [hds] at hps
 have hp2 : d'.toList.Perm (P.map (·.1)) := by
  have e1 : d'.extract 0 n = d' := by rw [← hps]; simp
  have e2 : d.extract 0 n = d := by rw [← hds]; simp
  rw [e1, e2] at hpl
  rw [hdd] at hpl
  simpa using hpl
 obtain ⟨Q, q1, q2⟩ := qqp (fun z : RowE × En => z.1) hp2 rfl
 have hQl : Q.length = n := by rw [q1.length_eq]; simp [P]
 have hesl : (Q.map (·.2)).Perm l := by
  have := q1.map (fun z : RowE × En => z.2)
  rwa [hPs] at this
 have hQ : ∀ (i : Nat) (z : RowE × En), Q[i]? = some z → d'[i]! = z.1 ∧ z.1.1 = z.2.1 ∧ RV g w z.1.2.1 (.sl 1 (byteRows z.2.2)) := by
  intro i z hz
  have h1 := congrArg (fun l => l[i]?) q2
  simp only [List.getElem?_map, hz, Option.map_some, Array.getElem?_toList] at h1
  have hi : i < d'.size := by rw [hps, ← hQl]; exact (List.getElem?_eq_some_iff.1 hz).1
  refine ⟨?_, hPR z (q1.mem_iff.1 (List.mem_of_getElem? hz))⟩
  rw [getElem!_pos d' i hi]
  rw [Array.getElem?_eq_getElem hi] at h1
  simpa using h1.symm
 have hsorted : (Q.map (·.2)).Pairwise fun a b => cmpB a.1 b.1 ≤ 0 := by
  rw [List.pairwise_iff_getElem]
  intro i j hi hj hij
  simp only [List.length_map] at hi hj
  have zi := hQ i _ (List.getElem?_eq_getElem hi)
  have zj := hQ j _ (List.getElem?_eq_getElem hj)
  have hs := hsort i j (Nat.zero_le _) hij (by omega)
  rw [zi.1, zj.1] at hs
  have hs2 : ¬ cmpB Q[j].1.1 Q[i].1.1 < 0 := of_decide_eq_false hs
  rw [zi.2.1, zj.2.1] at hs2
  simp only [List.getElem_map]
  exact jp.1 hs2
 have hes : Q.map (·.2) = sortEn l := by
  have hn2 : ((Q.map (·.2)).map (·.1)).Nodup := (hesl.map (fun x : En => x.1)).nodup_iff.2 hn
  exact we (hesl.trans (xf l).symm) hn2 hsorted (jj l)
 have hwh : w'.heap = (w.heap.modify b' (onCells (putCells (fun v : Value => v) 0 (flatK encR 2 d')))) ++ os := by subst hw'; rfl
 have hother : ∀ k, k ≠ b' → k < w.heap.size → w'.heap[k]? = w.heap[k]? := by
  intro k hk hkl
  rw [hwh, Array.getElem?_append, if_pos (by simpa using hkl), Array.getElem?_modify, if_neg (Ne.symm hk)]
 have hself : w'.heap[b']? = some (.cells (putCells (fun v : Value => v) 0 (flatK encR 2 d') c) et (0, 0)) := by
  rw [hwh, Array.getElem?_append, if_pos (by simpa using hblk), Array.getElem?_modify, if_pos rfl, hh]
  rfl
 have hsize : w.heap.size ≤ w'.heap.size := by
  subst hw'
  simp [sortWorldK, grow, putRowK, putRow, mapBlock, Sort.ahead]
 have htop : w'.os = w.os ∧ w'.tape = w.tape ∧ w'.output = w.output := by subst hw'; exact ⟨rfl, rfl, rfl⟩
 have hne : ∀ k r, g k = r → (∀ i, r ≠ .obj i) → k ≠ b' := fun k r h hr he => by rw [he, hg] at h; exact hr 0 h.symm
 have hG : G g w g w' := by
  refine ⟨htop.1, htop.2.1, htop.2.2, hsize, fun k hk hgk => ⟨hother k (hne k _ hgk (by simp)) hk, hgk⟩, fun k r hk hgk => ⟨hother k (hne k _ hgk (by simp)) hk, hgk⟩,
   fun k r t hk hgk => ⟨r, some t, hgk, Nat.le_refl _, fun i u _ hu => by rw [qy (hother k (hne k _ hgk (by simp)) hk)]; exact hu⟩, fun k id hk hgk => ⟨hgk, ?_⟩⟩
  by_cases hkb : k = b'
  ·subst hkb
   rw [qv hh, qv hself]
   simp [putCells]
  ·exact Nat.le_of_eq (qr (hother k hkb hk)).symm
 refine ⟨_, g, [], rfl, hG, fun k hk => hd k (by omega), by simp [ASlot.toks], ⟨[], rfl, rfl, fun i u s hu => by simp at hu⟩, ⟨fun oid o hid hno => ?_, ho.inj, fun b oid hb => ?_⟩⟩
 ·match oid, hid with
  | 0, hid =>
   simp at hid
   subst hid
   have hle := (xf l).length_eq
   refine .inl ⟨b', hg, _, et, hself, by simp [putCells, wd, hle]; omega, fun i s hi => ?_⟩
   rw [List.getElem?_map, Option.map_eq_some_iff] at hi
   obtain ⟨x, hx, rfl⟩ := hi
   have hil : i < n * 2 := by
    have := (List.getElem?_eq_some_iff.1 hx).1
    rw [wd, hle, hln] at this
    exact this
   have hQi : i / 2 < Q.length := by omega
   obtain ⟨z1, z2, z3⟩ := hQ (i / 2) _ (List.getElem?_eq_getElem hQi)
   have hz : (sortEn l)[i / 2]? = some Q[i / 2].2 := by rw [← hes, List.getElem?_map, List.getElem?_eq_getElem hQi]; rfl
   obtain ⟨k1, k2⟩ := qe3 _ _ _ hz
   have hcv : (putCells (fun v : Value => v) 0 (flatK encR 2 d') c)[i]? = some ((encR Q[i / 2].1)[i % 2]!) := by
    have hic : i < c.size := by omega
    simp only [putCells, Array.getElem?_mapIdx, Array.getElem?_eq_getElem hic, Option.map_some, size_flatK, hps, Nat.zero_le, true_and, Nat.zero_add, hil, if_true, Nat.sub_zero]
    rw [get_flatK encR 2 d' i (by rw [hps]; exact hil), z1]
   rcases Nat.mod_two_eq_zero_or_one i with hp | hp
   ·have e1 : 2 * (i / 2) = i := by omega
    rw [e1] at k1
    rw [k1] at hx; cases hx
    rw [hp] at hcv
    have hcs : (encR Q[i / 2].1)[0]! = .string ⟨Q[i / 2].2.1.toArray⟩ := by rw [← z2]; rfl
    rw [hcs] at hcv
    exact ⟨_, hcv, rfl, .str _⟩
   ·have e1 : 2 * (i / 2) + 1 = i := by omega
    rw [e1] at k2
    rw [k2] at hx; cases hx
    rw [hp] at hcv
    exact ⟨_, hcv, Q[i / 2].1.2.2, z3.mono (hG.rowsKept hd) (fun b id hb => hG.obj b id (hd.lt_obj hb) hb)⟩
  | i + 1, hid => simp at hid
 ·obtain ⟨o, h1, h2⟩ := ho.ids b oid hb
  match oid, h1 with
  | 0, h1 => exact ⟨_, rfl, by simp⟩
  | i + 1, h1 => simp at h1
end Go.Proofs.Ytinnaedmdoengaa
namespace Go.Proofs.Ytinnaedmdoengaa
open Go.Abs
set_option linter.unusedSimpArgs false
set_option linter.unusedVariables false
attribute [go_sem] sliceSOut
def pre (p k : List UInt8) : Bool := decide (p.length ≤ k.length) && k.take p.length == p
noncomputable section
set_option maxRecDepth 100000
def s95r0 : List SOper := [
 ⟨some 4, .mov (.k (.d (.bool false))), none⟩]
def s95r1 : List SOper := [
 ⟨some 5, .mov (.t 0), none⟩,
 ⟨some 6, .lenS (.t 5), none⟩,
 ⟨some 7, .mov (.t 1), none⟩,
 ⟨some 8, .lenS (.t 7), none⟩,
 ⟨some 9, .bin .geq (.t 6) (.t 8), none⟩,
 ⟨some 10, .mov (.t 9), none⟩,
 ⟨some 11, .mov (.t 0), some (10, true)⟩,
 ⟨some 12, .mov (.t 1), some (10, true)⟩,
 ⟨some 13, .lenS (.t 12), some (10, true)⟩,
 ⟨some 14, .sliceS (.t 11) none (some (.t 13)), some (10, true)⟩,
 ⟨some 15, .mov (.t 1), some (10, true)⟩,
 ⟨some 16, .bin .eql (.t 14) (.t 15), some (10, true)⟩,
 ⟨some 17, .pick (.t 10) (.t 16) (.k (.d (.bool false))), none⟩,
 ⟨some 4, .mov (.t 17), none⟩]
def s95 : SCode := (.seq (.region s95r0 0 []) (.seq (.region s95r1 0 []) .ret))
theorem e95 : CodeIs s95.eq_1 := qc s95.eq_1
theorem q92 : RegIs s95r0.eq_1 := qa
theorem q93 : RegIs s95r1.eq_1 := qa
attribute [go_sem] q92 q93 e95
theorem F95 : FnIs Try.prog 95 Try.f95 [] news s95 [.tmp 4] 18 := xg follows Try.func95
def s44r0 : List SOper := [
 ⟨some 4, .mov (.k (.d (.bool false))), none⟩]
def s44r1 : List SOper := [
 ⟨some 5, .mov (.t 0), none⟩,
 ⟨some 6, .mov (.t 1), none⟩,
 ⟨some 7, .call (.k (.d (.func (.func 95) [] []))) [(.t 5), (.t 6)], none⟩,
 ⟨some 4, .mov (.t 7), none⟩]
def s44 : SCode := (.seq (.region s44r0 0 []) (.seq (.region s44r1 0 []) .ret))
theorem e44 : CodeIs s44.eq_1 := qc s44.eq_1
theorem q94 : RegIs s44r0.eq_1 := qa
theorem q95 : RegIs s44r1.eq_1 := qa
attribute [go_sem] q94 q95 e44
theorem F44 : FnIs Try.prog 44 Try.f44 [] news s44 [.tmp 4] 8 := xg follows Try.func44
end
theorem qaf (k p : List UInt8) : ACall Try.prog 95 [.d (.str k), .d (.str p)] [] (.d (.bool (pre p k))) [] := by
 refine F95.go ?_
 by_cases h : p.length ≤ k.length
 ·have hd : decide ((k.length : Int) ≥ (p.length : Int)) = true := by simpa using h
  have hd2 : decide (p.length ≤ k.length) = true := by simpa using h
  try (refine ev3 @pre.eq_1 @hd @hd2 ?_; try exact True.intro)
  (repeat (with_reducible refine ob ?_))
  try (refine ev2 @hd @Nat.sub_zero ?_; try exact True.intro)
 ·have hd : decide ((k.length : Int) ≥ (p.length : Int)) = false := by simpa using h
  have hd2 : decide (p.length ≤ k.length) = false := by simpa using h
  try (refine ev3 @pre.eq_1 @hd @hd2 ?_; try exact True.intro)
  (repeat (with_reducible refine ob ?_))
  try (refine ev1 @hd ?_; try exact True.intro)
theorem qbp (k p : List UInt8) : ACall Try.prog 44 [.d (.str k), .d (.str p)] [] (.d (.bool (pre p k))) [] := by
 refine F44.go ?_
 try (refine ev ?_; try exact True.intro)
 (repeat (with_reducible refine ob ?_)); first | refine cl F95 (qaf k p) ?_ | refine clF F95 (qaf k p) (fun _ => by simp only [encOp, encEn, go_sem, Nat.reduceAdd, Nat.reduceMul, Nat.reduceSub, Nat.reduceEqDiff, Nat.reduceLT, Nat.reduceLeDiff, Nat.reduceBEq, reduceIte, reduceCtorEq, Int.reduceAdd, Int.reduceLT, Int.reduceLE, Int.reduceGT, Int.reduceGE, Int.reduceEq, Int.reduceNe, Int.reduceBEq, Int.reduceBNe, Int.reduceToNat, Int.reduceNeg]) ?_
 try (refine ev ?_; try exact True.intro)
noncomputable section
set_option maxRecDepth 100000
def s17ur0 : List SOper := [
 ⟨some 4, .mov (.k (.d .nilsl)), none⟩]
def s17ur1 : List SOper := [
 ⟨some 8, .mov (.t 0), none⟩,
 ⟨some 9, .eqnil false .ptr (.t 8), none⟩]
def s17ur2 : List SOper := [
 ⟨some 4, .mov (.k (.d .nilsl)), none⟩]
def s17ur3 : List SOper := [
 ⟨some 5, .mov (.k (.d .nilsl)), none⟩]
def s17ur4 : List SOper := [
 ⟨some 10, .mov (.t 0), none⟩,
 ⟨some 11, .nilCheck (.t 10), none⟩,
 ⟨some 12, .faddr 2 (.t 11), none⟩,
 ⟨some 13, .load none (.t 12), none⟩,
 ⟨some 14, .rangeM 1 (.t 13), none⟩]
def s17ur5 : List SOper := [
 ⟨some 15, .nextM (.t 14), none⟩,
 ⟨some 16, .extract 0 (.t 15), none⟩]
def s17ur6 : List SOper := [
 ⟨some 17, .entryM (.t 14), none⟩,
 ⟨some 18, .extract 0 (.t 17), none⟩,
 ⟨some 19, .extract 1 (.t 17), none⟩,
 ⟨some 6, .mov (.t 18), none⟩,
 ⟨some 7, .mov (.t 19), none⟩]
def s17ur7 : List SOper := [
 ⟨some 20, .mov (.t 6), none⟩,
 ⟨some 21, .mov (.t 1), none⟩,
 ⟨some 22, .call (.k (.d (.func (.func 44) [] []))) [(.t 20), (.t 21)], none⟩]
def s17ur8 : List SOper := [
 ⟨some 23, .mov (.t 5), none⟩,
 ⟨some 24, .mov (.t 6), none⟩,
 ⟨some 25, .mov (.t 7), none⟩,
 ⟨some 26, .call (.k (.d (.func (.func 43) [] []))) [(.t 25)], none⟩,
 ⟨some 27, .build [(.str []), .nilsl] [(0, 1, (.t 24)), (1, 1, (.t 26))], none⟩,
 ⟨some 28, .buildSlice false 2 1 [(.str []), .nilsl] [(0, 2, (.t 27))], none⟩,
 ⟨some 29, .append true 2 40 (.t 23) (.t 28), none⟩,
 ⟨some 5, .mov (.t 29), none⟩]
def s17ul9 : SCode := (.seq (.region s17ur5 0 []) (.seq (.cond (.t 16) .skip (.exit 0)) (.block 1 (.seq (.region s17ur6 0 []) (.seq (.region s17ur7 0 []) (.cond (.t 22) (.region s17ur8 0 []) .skip))))))
theorem q0t : CodeIs s17ul9.eq_1 := qc s17ul9.eq_1
def s17ur10 : List SOper := [
 ⟨some 30, .mov (.t 5), none⟩,
 ⟨some 31, .call (.k (.d (.func (.func 45) [] []))) [(.t 30), (.k (.d (.func (.func 46) [] [])))], none⟩]
def s17ur11 : List SOper := [
 ⟨some 32, .mov (.t 5), none⟩,
 ⟨some 4, .mov (.t 32), none⟩]
def s17u : SCode := (.seq (.region s17ur0 0 []) (.seq (.seq (.region s17ur1 0 []) (.cond (.t 9) (.seq (.region s17ur2 0 []) (.pause .ret)) .skip)) (.seq (.region s17ur3 0 []) (.seq (.seq (.region s17ur4 1 []) (.block 0 (.loop s17ul9))) (.seq (.pause (.region s17ur10 0 [])) (.seq (.region s17ur11 0 []) (.pause .ret)))))))
theorem xgo : CodeIs s17u.eq_1 := qc s17u.eq_1
theorem q0u : RegIs s17ur0.eq_1 := qa
theorem q0v : RegIs s17ur1.eq_1 := qa
theorem q0w : RegIs s17ur2.eq_1 := qa
theorem q0x : RegIs s17ur3.eq_1 := qa
theorem q0y : RegIs s17ur4.eq_1 := qa
theorem q0z : RegIs s17ur5.eq_1 := qa
theorem q00 : RegIs s17ur6.eq_1 := qa
theorem q01 : RegIs s17ur7.eq_1 := qa
theorem q02 : RegIs s17ur8.eq_1 := qa
theorem qwe : RegIs s17ur10.eq_1 := qa
theorem qwf : RegIs s17ur11.eq_1 := qa
attribute [go_sem] q0u q0v q0w q0x q0y q0z q00 q01 q02 q0t qwe qwf xgo
theorem q96 : FnIs Try.prog 17 Try.f17 [29] news s17u [.tmp 4] 33 := xg follows Try.func17
def s45r0 : List SOper := [
 ⟨some 5, .mov (.t 0), none⟩,
 ⟨some 6, .len (.t 5), none⟩,
 ⟨some 4, .mov (.t 6), none⟩]
def s45r1 : List SOper := [
 ⟨some 7, .mov (.t 0), none⟩,
 ⟨some 8, .mov (.t 4), none⟩,
 ⟨some 9, .mov (.t 4), none⟩,
 ⟨some 10, .conv .u64 (.t 9), none⟩,
 ⟨some 11, .call (.k (.d (.func (.func 97) [] []))) [(.t 10)], none⟩,
 ⟨some 12, .mov (.t 1), none⟩,
 ⟨some 13, .call (.k (.d (.func (.func 96) [] []))) [(.t 7), (.k (.d (.int .i64 0))), (.t 8), (.t 11), (.t 12)], none⟩]
def s45 : SCode := (.seq (.region s45r0 0 []) (.region s45r1 0 []))
theorem e45 : CodeIs s45.eq_1 := qc s45.eq_1
theorem q97 : RegIs s45r0.eq_1 := qa
theorem q98 : RegIs s45r1.eq_1 := qa
attribute [go_sem] q97 q98 e45
theorem F45 : FnIs Try.prog 45 Try.f45 [] news s45 [] 14 := xg follows Try.func45
end
theorem qk8 {α β : Type} {f : α → β} : ∀ {l : List α}, (l.map f).Nodup → ∀ {x y : α}, x ∈ l → y ∈ l → f x = f y → x = y
 | [], _, x, y, hx, _, _ => by cases hx
 | a :: l, hn, x, y, hx, hy, h => by
  simp only [List.map_cons, List.nodup_cons, List.mem_map, not_exists, not_and] at hn
  rcases List.mem_cons.1 hx with rfl | hx'
  ·rcases List.mem_cons.1 hy with rfl | hy'
   ·rfl
   ·exact absurd h.symm (hn.1 y hy')
  ·rcases List.mem_cons.1 hy with rfl | hy'
   ·exact absurd h (hn.1 x hx')
   ·exact qk8 hn.2 hx' hy' h
theorem zg {α β : Type} (f : α → β) : ∀ {l : List α}, (l.map f).Nodup → l.Nodup
 | [], _ => List.nodup_nil
 | a :: l, hn => by
  simp only [List.map_cons, List.nodup_cons, List.mem_map, not_exists, not_and] at hn ⊢
  exact ⟨fun h => hn.1 a h rfl, zg f hn.2⟩
theorem ql9 {α : Type} (f : α → Nat) : ∀ {l : List α}, (l.map f).Nodup → ∀ {x : α}, x ∈ l → (l.find? fun y => f y == f x) = some x
 | [], _, x, hx => by cases hx
 | a :: l, hn, x, hx => by
  rw [List.find?_cons]
  by_cases h : f a = f x
  ·have := qk8 hn (List.mem_cons_self ..) hx h
   subst this
   simp
  ·rw [beq_false_of_ne h]
   rcases List.mem_cons.1 hx with rfl | hx'
   ·exact absurd rfl h
   ·exact ql9 f (by simp only [List.map_cons, List.nodup_cons] at hn; exact hn.2) hx'
theorem qqq {α : Type} [DecidableEq α] : ∀ {a b : List α}, a.Nodup → (∀ x ∈ a, x ∈ b) → a.length ≤ b.length
 | [], _, _, _ => Nat.zero_le _
 | x :: a, b, h, hs => by
  have hx := hs x (List.mem_cons_self ..)
  have h' := List.nodup_cons.1 h
  have := qqq (a := a) (b := b.erase x) h'.2 fun y hy => (List.mem_erase_of_ne (by rintro rfl; exact h'.1 hy)).2 (hs y (List.mem_cons_of_mem _ hy))
  rw [List.length_erase_of_mem hx] at this
  have := List.length_pos_of_mem hx
  simp only [List.length_cons]; omega
theorem qn6 (l : List En) : (l.map encEn).flatten = flatEn l := rfl
theorem qk9 (l : List En) : (flatEn l).all D.isCell = true := by induction l <;> simp_all [flatEn, encEn, D.isCell]
attribute [go_sem] qn6 qiy qk9
structure Cont.Ok (m : Cont) : Prop where
 num : (m.l.map (·.1)).Nodup
 lt : ∀ x ∈ m.l, x.1 < m.c
 key : (m.l.map (·.2.1)).Nodup
def enOf (x : KV) : En := (x.2.1, x.2.2)
def preL (p : List UInt8) (l : List KV) : List En := (l.filter fun x => pre p x.2.1).map enOf
def sList (m : Cont) (p : List UInt8) : List En := sortEn (preL p m.l)
theorem qiz {p : List UInt8} {l : List KV} (h : (l.map (·.2.1)).Nodup) : ((preL p l).map (·.1)).Nodup := by
 unfold preL
 rw [List.map_map]
 exact List.Nodup.sublist (List.Sublist.map _ List.filter_sublist) h
theorem qqr {a b : List En} (h : a.Perm b) (hn : (a.map (·.1)).Nodup) : sortEn a = sortEn b := by
 have h1 := xf a
 have h2 := xf b
 refine we (h1.trans (h.trans h2.symm)) ((h1.map (fun x : En => x.1)).nodup_iff.2 hn) (jj a) (jj b)
def Slist (s : Sto) (p : List UInt8) (i : { i : List KV // (i.map (·.1)).Nodup ∧ ∀ x ∈ i, x ∈ s.m.l }) : St :=
 ⟨[(1, true, .d (.str p)), (5, true, .uni 0 2 ((preL p i.val).map encEn)), (14, true, .d (.ptr 2 0))], [stoO s 1, mapO s.m, .iter (.d (.map 1)) s.m.c (i.val.map (·.1)) s.m.c], [0], 1⟩
set_option maxRecDepth 10000 in
theorem qqs (s : Sto) (p : List UInt8) (hm : s.m.Ok) (hl : s.m.l.length ≤ 1000) (hv : ∀ x ∈ s.m.l, x.2.2.length ≤ 1000000) :
  ACall Try.prog 17 [.d (.ptr 0 0), .d (.str p)] [stoO s 1, mapO s.m] (.d (.sl 2 ((sList s.m p).map encEn))) [stoO s 1, mapO s.m] := by
 refine q96.go ?_
 try (refine ev2 @stoO.eq_1 @mapO.eq_1 ?_; try exact True.intro)
 (repeat (with_reducible refine ob ?_)); refine no_ ?_
 try (refine ev ?_; try exact True.intro)
 refine ql (Slist s p) (fun i => s.m.l.length - i.val.length) ⟨[], by simp, by simp⟩ ?_ (fun i => ?_)
 ·try (refine ev6 @Slist.eq_1 @stoO.eq_1 @mapO.eq_1 @preL.eq_1 @List.filter_nil.{0} @List.map_nil.{0,0} ?_; try exact True.intro)
 obtain ⟨i, hi1, hi2⟩ := i
 try (refine ev3 @Slist.eq_1 @stoO.eq_1 @mapO.eq_1 ?_; try exact True.intro)
 have hleft : leftE (s.m.l.map encKV) (i.map (·.1)) = (s.m.l.filter fun x => !(i.map (·.1)).contains x.1).map encKV := by
  unfold leftE
  rw [List.filter_map]; rfl
 have hone : ∀ x ∈ s.m.l, ∀ y ∈ s.m.l, x.1 = y.1 → x = y := fun x hx y hy h => qk8 hm.num hx hy h
 refine qsy (last := s.m.c) ⟨rfl, rfl, by intro e he; obtain ⟨x, hx, rfl⟩ := List.mem_map.1 he; exact hm.lt x hx, Nat.le_refl _⟩ (fun hl0 => ?_) (fun e he => ?_)
 ·
  rw [hleft, List.map_eq_nil_iff, List.filter_eq_nil_iff] at hl0
  have hall : ∀ x ∈ s.m.l, x ∈ i := by
   intro x hx
   have := hl0 x hx
   simp only [List.contains_eq_mem, decide_eq_true_eq, Bool.not_eq_true, Bool.not_eq_false', Bool.not_not] at this
   simp at this
   obtain ⟨a, b, hab⟩ := this
   have := hone x hx _ (hi2 _ hab) rfl
   rw [this]; exact hab
  have hperm : i.Perm s.m.l := by
   refine (List.perm_ext_iff_of_nodup (zg _ hi1) (zg _ hm.num)).2 fun x => ⟨hi2 x, hall x⟩
  have hpp : (preL p i).Perm (preL p s.m.l) := (hperm.filter _).map _
  have hpn : ((preL p i).map (·.1)).Nodup := by
   refine (hpp.map (fun x : En => x.1)).nodup_iff.2 ?_
   exact qiz hm.key
  have hsame : sortEn (preL p i) = sList s.m p := qqr hpp hpn
  have hlen : (preL p i).length ≤ 1000 := by
   have h1 := hpp.length_eq
   have h2 : (preL p s.m.l).length ≤ s.m.l.length := by simp only [preL, List.length_map]; exact List.length_filter_le _ _
   omega
  try (refine ev1 @overV.eq_1 ?_; try exact True.intro)
  (repeat (with_reducible refine ob ?_)); refine no_ ?_
  try (refine ev ?_; try exact True.intro)
  refine qp3 (.fr 5) 0 2 ((preL p i).map encEn) ?_
  refine pu ?_
  try (refine ev ?_; try exact True.intro)
  refine clO [3] F45 (qwd (preL p i) hpn (by omega)) ?_
  try (refine ev ?_; try exact True.intro)
  have hsl : (preL p i).length = (sortEn (preL p i)).length := (xf _).length_eq.symm
  rw [hsl]
  refine qx4 3 2 ((sortEn (preL p i)).map encEn) ?_ (hc := ?_) (hcc := ?_) (hes := ?_) (hok := D.okWR_noPtr (qc9 _))
  ·refine pu ?_
   try (refine ev1 @hsame ?_; try exact True.intro)
  ·try (refine ev ?_; try exact True.intro)
  ·try (refine ev ?_; try exact True.intro)
  ·intro r hr
   obtain ⟨x, _, rfl⟩ := List.mem_map.1 hr
   rfl
 ·rw [hleft] at he
  obtain ⟨x, hx, rfl⟩ := List.mem_map.1 he
  rw [List.mem_filter] at hx
  obtain ⟨hx1, hx2⟩ := hx
  have hx3 : x.1 ∉ i.map (·.1) := by simpa using hx2
  have hnext : ((i ++ [x]).map (·.1)).Nodup ∧ ∀ y ∈ i ++ [x], y ∈ s.m.l := by
   refine ⟨by rw [List.map_append]; exact List.nodup_append.2 ⟨hi1, by simp, fun a ha b hb h => by simp at hb; subst hb; subst h; exact hx3 ha⟩, fun y hy => ?_⟩
   rcases List.mem_append.1 hy with h | h
   ·exact hi2 y h
   ·simp at h; subst h; exact hx1
  have hil : i.length < s.m.l.length := by
   have := qqq (zg _ hnext.1) hnext.2
   simp at this; omega
  have hpl : (preL p i).length ≤ i.length := by simp only [preL, List.length_map]; exact List.length_filter_le _ _
  try (refine ev1 @entV.eq_1 ?_; try exact True.intro)
  (repeat (with_reducible refine ob ?_)); refine y8 ?_
  try (refine ev ?_; try exact True.intro)
  refine qpp (e := encKV x) (mid := 1) (since := s.m.c) (seen := i.map (·.1) ++ [x.1]) (clock := s.m.c) (es := s.m.l.map encKV) ⟨rfl, rfl, by simp [encKV], ?_⟩ ?_
  ·rw [List.find?_map]
   have h1 : s.m.l.find? ((fun e : Nat × D × D => e.1 == (encKV x).1) ∘ encKV) = some x := ql9 (fun y : KV => y.1) hm.num hx1
   rw [h1]; rfl
  try (refine ev1 @encKV.eq_1 ?_; try exact True.intro)
  (repeat (with_reducible refine ob ?_)); first | refine cl F44 (qbp x.2.1 p) ?_ | refine clF F44 (qbp x.2.1 p) (fun _ => by simp only [encOp, encEn, go_sem, Nat.reduceAdd, Nat.reduceMul, Nat.reduceSub, Nat.reduceEqDiff, Nat.reduceLT, Nat.reduceLeDiff, Nat.reduceBEq, reduceIte, reduceCtorEq, Int.reduceAdd, Int.reduceLT, Int.reduceLE, Int.reduceGT, Int.reduceGE, Int.reduceEq, Int.reduceNe, Int.reduceBEq, Int.reduceBNe, Int.reduceToNat, Int.reduceNeg]) ?_
  try (refine ev ?_; try exact True.intro)
  (repeat (with_reducible refine ob ?_)); refine xt _ (fun h => ?_) (fun h => ?_)
  ·try (refine ev ?_; try exact True.intro)
   (repeat (with_reducible refine ob ?_)); first | refine cl F43 (xi x.2.2 (by have := hv x hx1; omega)) ?_ | refine clF F43 (xi x.2.2 (by have := hv x hx1; omega)) (fun _ => by simp only [encOp, encEn, go_sem, Nat.reduceAdd, Nat.reduceMul, Nat.reduceSub, Nat.reduceEqDiff, Nat.reduceLT, Nat.reduceLeDiff, Nat.reduceBEq, reduceIte, reduceCtorEq, Int.reduceAdd, Int.reduceLT, Int.reduceLE, Int.reduceGT, Int.reduceGE, Int.reduceEq, Int.reduceNe, Int.reduceBEq, Int.reduceBNe, Int.reduceToNat, Int.reduceNeg]) ?_
   try (refine ev ?_; try exact True.intro)
   refine ⟨by omega, ?_⟩
   have hpx : preL p (i ++ [x]) = preL p i ++ [enOf x] := by simp [preL, h]
   refine ⟨⟨i ++ [x], hnext⟩, ?_, by simp only [List.length_append, List.length_singleton]; omega⟩
   try (refine ev7 @Slist.eq_1 @stoO.eq_1 @mapO.eq_1 @hpx @List.map_append.{0,0} @encEn.eq_1 @enOf.eq_1 ?_; try exact True.intro)
  ·have hpx : preL p (i ++ [x]) = preL p i := by simp [preL, h]
   try (refine ev ?_; try exact True.intro)
   refine ⟨⟨i ++ [x], hnext⟩, ?_, by simp only [List.length_append, List.length_singleton]; omega⟩
   try (refine ev7 @Slist.eq_1 @stoO.eq_1 @mapO.eq_1 @hpx @List.map_append.{0,0} @encEn.eq_1 @enOf.eq_1 ?_; try exact True.intro)
end Go.Proofs.Ytinnaedmdoengaa
namespace Go.Proofs.Ytinnaedmdoengaa
open Go.Abs
set_option linter.unusedSimpArgs false
set_option linter.unusedVariables false
theorem zh {k : List UInt8} {x : KV} : hasKey k x = true ↔ k = x.2.1 := by simp [hasKey]
theorem qda {k v : List UInt8} : ∀ {l : List KV} {j : Nat}, l.findIdx? (hasKey k) = some j → ∀ k', (l.modify j fun e => (e.1, k, v)).find? (hasKey k') = if k' = k then some ((l[j]?.getD (0, [], [])).1, k, v) else l.find? (hasKey k')
 | [], j, h, k' => by simp at h
 | a :: l, j, h, k' => by
  rw [List.findIdx?_cons] at h
  by_cases ha : hasKey k a = true
  ·rw [if_pos ha] at h
   cases h
   simp only [List.modify_zero_cons, List.find?_cons, List.getElem?_cons_zero, Option.getD_some]
   by_cases hk : k' = k
   ·subst hk
    have : hasKey k' (a.1, k', v) = true := zh.2 rfl
    rw [this, if_pos rfl]
   ·have h1 : hasKey k' (a.1, k, v) = false := by simpa [hasKey] using hk
    have h2 : hasKey k' a = false := by rw [zh] at ha; simp [hasKey, ← ha, hk]
    rw [h1, h2, if_neg hk]
  ·rw [if_neg (by simpa using ha)] at h
   obtain ⟨i, hi, rfl⟩ := Option.map_eq_some_iff.1 h
   simp only [List.modify_succ_cons, List.find?_cons, List.getElem?_cons_succ]
   have ih := qda (v := v) hi k'
   by_cases hk : k' = k
   ·subst hk
    have : hasKey k' a = false := by simpa using ha
    rw [this]
    exact ih
   ·cases h2 : hasKey k' a with
    | true => rw [if_neg hk]
    | false => rw [ih]
theorem qi0 {k : List UInt8} {l : List KV} (h : l.findIdx? (hasKey k) = none) : l.find? (hasKey k) = none := by
 rw [List.findIdx?_eq_none_iff] at h
 exact List.find?_eq_none.2 fun x hx => by rw [h x hx]; simp
theorem qma (k v : List UInt8) (m : Cont) (k' : List UInt8) : mGet k' (mPut k v m) = if k' = k then some v else mGet k' m := by
 unfold mGet mPut
 cases h : m.l.findIdx? (hasKey k) with
 | some j =>
  simp only [qda h k']
  split <;> rfl
 | none =>
  simp only [List.find?_append]
  by_cases hk : k' = k
  ·subst hk
   rw [qi0 h, if_pos rfl]
   simp [hasKey]
  ·rw [if_neg hk]
   have : [(m.c, k, v)].find? (hasKey k') = none := by simp [hasKey, hk]
   rw [this, Option.or_none]
theorem qe4 {k v : List UInt8} : ∀ {l : List KV} {j : Nat}, l.findIdx? (hasKey k) = some j → (l.modify j fun e => (e.1, k, v)).map (·.2.1) = l.map (·.2.1) ∧ (l.modify j fun e => (e.1, k, v)).map (·.1) = l.map (·.1)
 | [], j, h => by simp at h
 | a :: l, j, h => by
  rw [List.findIdx?_cons] at h
  by_cases ha : hasKey k a = true
  ·rw [if_pos ha] at h
   cases h
   rw [zh] at ha
   simp only [List.modify_zero_cons, List.map_cons, ha, and_self]
  ·rw [if_neg (by simpa using ha)] at h
   obtain ⟨i, hi, rfl⟩ := Option.map_eq_some_iff.1 h
   obtain ⟨h1, h2⟩ := qe4 (v := v) hi
   simp only [List.modify_succ_cons, List.map_cons, h1, h2, and_self]
theorem qe5 {α : Type} {l : List α} {x : α} (h : l.Nodup) (hx : x ∉ l) : (l ++ [x]).Nodup :=
 List.nodup_append.2 ⟨h, by simp, fun a ha b hb e => by simp at hb; subst hb; subst e; exact hx ha⟩
theorem qdb {m : Cont} (h : m.Ok) (k v : List UInt8) : (mPut k v m).Ok := by
 unfold mPut
 cases hf : m.l.findIdx? (hasKey k) with
 | some j =>
  obtain ⟨h1, h2⟩ := qe4 (v := v) hf
  refine ⟨by simpa only [h2] using h.num, fun x hx => ?_, by simpa only [h1] using h.key⟩
  have : x.1 ∈ (m.l.modify j fun e => (e.1, k, v)).map (·.1) := List.mem_map_of_mem hx
  rw [h2] at this
  obtain ⟨y, hy, he⟩ := List.mem_map.1 this
  rw [← he]; exact h.lt y hy
 | none =>
  rw [List.findIdx?_eq_none_iff] at hf
  refine ⟨?_, fun x hx => ?_, ?_⟩
  ·rw [List.map_append]
   refine qe5 h.num fun hm => ?_
   obtain ⟨y, hy, he⟩ := List.mem_map.1 hm
   have := h.lt y hy
   simp only at he
   omega
  ·simp only
   rcases List.mem_append.1 hx with hx | hx
   ·have := h.lt x hx; omega
   ·simp at hx; subst hx; simp
  ·rw [List.map_append]
   refine qe5 h.key fun hm => ?_
   obtain ⟨y, hy, he⟩ := List.mem_map.1 hm
   have := hf y hy
   simp [hasKey, he] at this
theorem qag (k : List UInt8) (m : Cont) : (mDel k m).l.Sublist m.l := by
 unfold mDel
 split
 ·exact List.eraseIdx_sublist ..
 ·exact List.Sublist.refl _
theorem qdc {m : Cont} (h : m.Ok) (k : List UInt8) : (mDel k m).Ok :=
 ⟨List.Nodup.sublist ((qag k m).map _) h.num, fun x hx => by rw [quy]; exact h.lt x ((qag k m).subset hx), List.Nodup.sublist ((qag k m).map _) h.key⟩
theorem qe6 {k : List UInt8} : ∀ {l : List KV} {j : Nat}, l.findIdx? (hasKey k) = some j → (l.map (·.2.1)).Nodup → ∀ k', (l.eraseIdx j).find? (hasKey k') = if k' = k then none else l.find? (hasKey k')
 | [], j, h, _, k' => by simp at h
 | a :: l, j, h, hn, k' => by
  rw [List.findIdx?_cons] at h
  simp only [List.map_cons, List.nodup_cons] at hn
  by_cases ha : hasKey k a = true
  ·rw [if_pos ha] at h
   cases h
   rw [zh] at ha
   simp only [List.eraseIdx_cons_zero, List.find?_cons]
   by_cases hk : k' = k
   ·subst hk
    rw [if_pos rfl]
    refine List.find?_eq_none.2 fun x hx hk => ?_
    rw [zh] at hk
    exact hn.1 (List.mem_map.2 ⟨x, hx, by rw [← ha, ← hk]⟩)
   ·rw [if_neg hk]
    have h2 : hasKey k' a = false := by simp [hasKey, ← ha, hk]
    rw [h2]
  ·rw [if_neg (by simpa using ha)] at h
   obtain ⟨i, hi, rfl⟩ := Option.map_eq_some_iff.1 h
   simp only [List.eraseIdx_cons_succ, List.find?_cons]
   have ih := qe6 hi hn.2 k'
   by_cases hk : k' = k
   ·subst hk
    have : hasKey k' a = false := by simpa using ha
    rw [this, if_pos rfl]
    rw [if_pos rfl] at ih
    exact ih
   ·cases h2 : hasKey k' a with
    | true => rw [if_neg hk]
    | false => rw [ih]
theorem qmb {m : Cont} (h : m.Ok) (k k' : List UInt8) : mGet k' (mDel k m) = if k' = k then none else mGet k' m := by
 unfold mGet mDel
 cases hf : m.l.findIdx? (hasKey k) with
 | some j =>
  simp only [qe6 hf h.key k']
  split <;> rfl
 | none =>
  simp only
  split
  ·rename_i hk; subst hk; rw [qi0 hf]; rfl
  ·rfl
theorem q6b (k v : List UInt8) (m : Cont) : (mPut k v m).l.length ≤ m.l.length + 1 := by
 unfold mPut
 split <;> simp
theorem qmc (k : List UInt8) (m : Cont) : (mDel k m).l.length ≤ m.l.length := (qag k m).length_le
def kvOk (x : KV) : Prop := 1 ≤ x.2.1.length ∧ x.2.1.length ≤ 40 ∧ x.2.2.length ≤ 900
theorem qt5 {k v : List UInt8} {m : Cont} {x : KV} (h : x ∈ (mPut k v m).l) : x ∈ m.l ∨ (x.2.1 = k ∧ x.2.2 = v) := by
 unfold mPut at h
 split at h
 ·rename_i j hj
  simp only at h
  obtain ⟨i, hi⟩ := List.getElem?_of_mem h
  rw [List.getElem?_modify] at hi
  cases hg : m.l[i]? with
  | none => rw [hg] at hi; cases hi
  | some y =>
   rw [hg] at hi
   simp only [Option.map_eq_map, Option.map_some, Option.some.injEq] at hi
   split at hi
   ·subst hi; exact .inr ⟨rfl, rfl⟩
   ·subst hi; exact .inl (List.mem_of_getElem? hg)
 ·rcases List.mem_append.1 h with h | h
  ·exact .inl h
  ·simp at h; subst h; exact .inr ⟨rfl, rfl⟩
structure Cont.Good (m : Cont) : Prop where
 ok : m.Ok
 few : m.l.length ≤ 400
 small : ∀ x ∈ m.l, kvOk x
theorem ky : ∀ (l : List OpS) {m : Cont}, m.Good → (∀ o ∈ l, sProper o = true) → (mApply m l).2 = true → (mApply m l).1.Good
 | [], m, h, _, _ => h
 | o :: l, m, h, hp, hy => by
  rw [mApply] at hy ⊢
  have ho := xo.1 (hp o (List.mem_cons_self ..))
  have hp' := fun x hx => hp x (List.mem_cons_of_mem _ hx)
  split at hy
  ·rename_i hd
   rw [if_pos hd]
   exact ky l ⟨qdc h.ok _, Nat.le_trans (qmc _ _) h.few, fun x hx => h.small x ((qag _ _).subset hx)⟩ hp' hy
  ·rename_i hd
   rw [if_neg hd]
   split at hy
   ·cases hy
   ·rename_i h4
    rw [if_neg h4]
    refine ky l ⟨qdb h.ok _ _, by omega, fun x hx => ?_⟩ hp' hy
    rcases qt5 hx with hx | ⟨h1, h2⟩
    ·exact h.small x hx
    ·exact ⟨by rw [h1]; exact ho.1, by rw [h1]; exact ho.2.1, by rw [h2]; exact ho.2.2.1⟩
theorem qdd (f r : List UInt8) (hr : r.length ≤ 2000) : (wAppend f r).length ≤ f.length + 70000 := by
 have := qc6 _ r (Nat.le_refl _)
 unfold wAppend
 rw [qc7 _ _ (fun q hq => (zd _ r (Nat.le_refl _) q hq).2)]
 simp only; omega
structure Sto.Ok (n : Nat) (s : Sto) : Prop where
 good : s.m.Good
 file : s.file.length ≤ n * 70000
theorem qgo (n : Nat) : newS.Ok n := by
 refine ⟨⟨⟨List.nodup_nil, fun x hx => (by cases hx), List.nodup_nil⟩, ?_, fun x hx => (by cases hx)⟩, ?_⟩
 ·simp only [newS, emptyC, List.length_nil, Nat.zero_le]
 ·simp only [newS, List.length_nil, Nat.zero_le]
theorem Sto.Ok.mono {n m : Nat} {s : Sto} (h : s.Ok n) (hn : n ≤ m) : s.Ok m := ⟨h.good, Nat.le_trans h.file (Nat.mul_le_mul_right _ hn)⟩
theorem kz (s : Sto) (l : List OpS) : ((sCommit s l).2 ≠ 0 ∧ (sCommit s l).1 = s) ∨ ((sCommit s l).2 = 0 ∧ (sEncode l).2 = 0 ∧ (mApply s.m l).2 = true ∧ (sCommit s l).1 = ⟨wAppend s.file (sEncode l).1, s.synced, (mApply s.m l).1⟩) := by
 unfold sCommit
 split
 ·exact .inl ⟨by assumption, rfl⟩
 ·split
  ·exact .inl ⟨by simp, rfl⟩
  ·rename_i h1 h2
   exact .inr ⟨rfl, by simpa using h1, by simpa using h2, rfl⟩
theorem k7 {n : Nat} {s : Sto} (h : s.Ok n) (l : List OpS) : (sCommit s l).1.Ok (n + 1) := by
 rcases kz s l with ⟨_, he⟩ | ⟨_, h1, h2, he⟩
 ·rw [he]; exact h.mono (Nat.le_succ _)
 ·rw [he]
  refine ⟨ky l h.good (xe h1).2.1 h2, ?_⟩
  have := qdd s.file _ (x5 l)
  have := h.file
  simp only; omega
theorem wg {s : Sto} {l : List OpS} (hl : l.length ≤ 100000) (hf : s.file.length ≤ 100000000) (h : (sCommit s l).2 = 0) :
  ACall Try.prog 13 [.d (.ptr 0 0), .d (.sl 3 (l.map encOp))] [stoO s 1, mapO s.m] (.d (.int .i64 0)) [stoO (sCommit s l).1 2, mapO s.m, mapO (sCommit s l).1.m] := by
 have := qix s l hl hf
 rw [afterC, if_pos h, h] at this
 exact this
theorem qqt {s : Sto} {l : List OpS} (hl : l.length ≤ 100000) (hf : s.file.length ≤ 100000000) (h : (sCommit s l).2 ≠ 0) :
  ACall Try.prog 13 [.d (.ptr 0 0), .d (.sl 3 (l.map encOp))] [stoO s 1, mapO s.m] (.d (.int .i64 (sCommit s l).2)) [stoO s 1, mapO s.m, .none] := by
 have := qix s l hl hf
 rw [afterC, if_neg h] at this
 exact this
def lastOf (k : List UInt8) : Option (List UInt8) → List OpS → Option (List UInt8)
 | a, [] => a
 | a, o :: l => lastOf k (if o.key = k then (if o.del then none else some o.val) else a) l
theorem qe7 (k : List UInt8) : ∀ (l : List OpS) {m : Cont}, m.Ok → (mApply m l).2 = true → mGet k (mApply m l).1 = lastOf k (mGet k m) l
 | [], m, _, _ => rfl
 | o :: l, m, h, hy => by
  rw [mApply] at hy ⊢
  rw [lastOf]
  split at hy
  ·rename_i hd
   rw [if_pos hd, qe7 k l (qdc h _) hy, qmb h]
   congr 1
   by_cases hk : k = o.key
   ·rw [if_pos hk, if_pos hk.symm, if_pos hd]
   ·rw [if_neg hk, if_neg (Ne.symm hk)]
  ·rename_i hd
   rw [if_neg hd]
   split at hy
   ·cases hy
   ·rename_i h4
    rw [if_neg h4, qe7 k l (qdb h _ _) hy, qma]
    congr 1
    by_cases hk : k = o.key
    ·rw [if_pos hk, if_pos hk.symm, if_neg hd]
    ·rw [if_neg hk, if_neg (Ne.symm hk)]
end Go.Proofs.Ytinnaedmdoengaa
namespace Go.Proofs.Ytinnaedmdoengaa
open Go.Abs
set_option linter.unusedSimpArgs false
set_option linter.unusedVariables false
theorem wh : ∀ a b : List UInt8, Op.bytesLess a b = decide (cmpB a b < 0)
 | [], [] => rfl
 | [], _ :: _ => rfl
 | _ :: _, [] => rfl
 | a :: l, b :: m => by
  have ih := wh l m
  simp only [cmpB] at ih
  simp only [Op.bytesLess, cmpB, Lib.compareBytes, ih]
  by_cases h1 : a < b
  ·simp [h1]
  ·by_cases h2 : b < a
   ·have : ¬ a = b := by rintro rfl; exact h1 h2
    simp [h1, h2, this]
   ·have : a = b := by
     apply UInt8.toNat_inj.1
     rw [UInt8.lt_iff_toNat_lt] at h1 h2
     omega
    simp [h1, h2, this]
def Sorted (l : List En) : Prop := l.Pairwise fun a b => cmpB a.1 b.1 < 0
theorem Sorted.keys {l : List En} (h : Sorted l) : (l.map (·.1)).Nodup := by
 unfold List.Nodup
 rw [List.pairwise_map]
 exact h.imp fun {a b} hab e => by rw [e, qad] at hab; omega
theorem Sorted.le {l : List En} (h : Sorted l) : l.Pairwise fun a b => cmpB a.1 b.1 ≤ 0 := h.imp fun hab => Int.le_of_lt hab
theorem qa4 {l m : List En} (hl : Sorted l) (hm : Sorted m) (h : ∀ x, x ∈ l ↔ x ∈ m) : l = m :=
 we ((List.perm_ext_iff_of_nodup (zg _ hl.keys) (zg _ hm.keys)).2 h) hl.keys hl.le hm.le
theorem qqu {l : List En} (h : l.Pairwise fun a b => cmpB a.1 b.1 ≤ 0) (hn : (l.map (·.1)).Nodup) : Sorted l := by
 unfold List.Nodup at hn
 rw [List.pairwise_map] at hn
 refine (h.and hn).imp fun {a b} hab => ?_
 obtain ⟨h1, h2⟩ := hab
 rcases Int.lt_or_eq_of_le h1 with h3 | h3
 ·exact h3
 ·exact (h2 (qae h3)).elim
theorem qbq {m : Cont} (h : m.Ok) (p : List UInt8) : Sorted (sList m p) := by
 refine qqu (jj _) ?_
 exact ((xf (preL p m.l)).map (fun x : En => x.1)).nodup_iff.2 (qiz h.key)
theorem qmd : ∀ {l : List KV}, (l.map (·.2.1)).Nodup → ∀ {x : KV}, x ∈ l → l.find? (hasKey x.2.1) = some x
 | [], _, x, hx => by cases hx
 | a :: l, hn, x, hx => by
  rw [List.find?_cons]
  simp only [List.map_cons, List.nodup_cons] at hn
  rcases List.mem_cons.1 hx with rfl | hx'
  ·rw [zh.2 rfl]
  ·have : hasKey x.2.1 a = false := by
    cases h : hasKey x.2.1 a with
    | false => rfl
    | true => exact (hn.1 (List.mem_map.2 ⟨x, hx', zh.1 h⟩)).elim
   rw [this]
   exact qmd hn.2 hx'
theorem qi1 {m : Cont} (h : m.Ok) (p : List UInt8) (x : En) : x ∈ sList m p ↔ mGet x.1 m = some x.2 ∧ pre p x.1 = true := by
 rw [sList, (xf _).mem_iff, preL, List.mem_map]
 constructor
 ·rintro ⟨y, hy, rfl⟩
  obtain ⟨h1, h2⟩ := List.mem_filter.1 hy
  refine ⟨?_, h2⟩
  unfold mGet enOf
  rw [qmd h.key h1]; rfl
 ·rintro ⟨h1, h2⟩
  unfold mGet at h1
  rw [Option.map_eq_some_iff] at h1
  obtain ⟨y, hy, he⟩ := h1
  have hk := zh.1 (List.find?_some hy)
  refine ⟨y, List.mem_filter.2 ⟨List.mem_of_find?_eq_some hy, by rw [← hk]; exact h2⟩, ?_⟩
  unfold enOf
  rw [← hk, he]
theorem qqv (k : List UInt8) : pre [] k = true := by simp [pre]
def eSet (x : En) : List En → List En
 | [] => [x]
 | y :: l => if Op.bytesLess y.1 x.1 = true then y :: eSet x l else if y.1 = x.1 then x :: l else x :: y :: l
def eDel (k : List UInt8) (l : List En) : List En := l.filter fun e => !(e.1 == k)
def eOp (l : List En) (o : OpS) : List En := if o.del then eDel o.key l else eSet (o.key, o.val) l
def eApply : List En → List OpS → List En × Bool
 | l, [] => (l, true)
 | l, o :: r => if (eOp l o).length > 400 then ([], false) else eApply (eOp l o) r
theorem qgp {x : En} : ∀ {l : List En}, Sorted l → ∀ y, y ∈ eSet x l ↔ y = x ∨ (y ∈ l ∧ y.1 ≠ x.1)
 | [], _, y => by simp [eSet]
 | a :: l, h, y => by
  have h' := List.pairwise_cons.1 h
  rw [eSet]
  split
  ·rename_i hlt
   rw [wh, decide_eq_true_eq] at hlt
   have hne : a.1 ≠ x.1 := fun e => by rw [e, qad] at hlt; omega
   rw [List.mem_cons, qgp h'.2, List.mem_cons]
   constructor
   ·rintro (rfl | h1 | ⟨h1, h2⟩)
    ·exact .inr ⟨.inl rfl, hne⟩
    ·exact .inl h1
    ·exact .inr ⟨.inr h1, h2⟩
   ·rintro (h1 | ⟨rfl | h1, h2⟩)
    ·exact .inr (.inl h1)
    ·exact .inl rfl
    ·exact .inr (.inr ⟨h1, h2⟩)
  ·rename_i hlt
   rw [wh, decide_eq_true_eq] at hlt
   have hge : cmpB x.1 a.1 ≤ 0 := jp.1 hlt
   have hgt : ∀ z ∈ l, z.1 ≠ x.1 := fun z hz e => by
    have h1 := h'.1 z hz
    rw [e] at h1
    have := vt a.1 x.1
    omega
   split
   ·rename_i he
    simp only [List.mem_cons]
    constructor
    ·rintro (h1 | h1)
     ·exact .inl h1
     ·exact .inr ⟨.inr h1, hgt y h1⟩
    ·rintro (h1 | ⟨rfl | h1, h2⟩)
     ·exact .inl h1
     ·exact (h2 he).elim
     ·exact .inr h1
   ·rename_i he
    simp only [List.mem_cons]
    constructor
    ·rintro (h1 | rfl | h1)
     ·exact .inl h1
     ·exact .inr ⟨.inl rfl, he⟩
     ·exact .inr ⟨.inr h1, hgt y h1⟩
    ·rintro (h1 | ⟨h1 | h1, h2⟩)
     ·exact .inl h1
     ·exact .inr (.inl h1)
     ·exact .inr (.inr h1)
theorem qde {x : En} : ∀ {l : List En}, Sorted l → Sorted (eSet x l)
 | [], _ => List.pairwise_singleton _ _
 | a :: l, h => by
  have h' := List.pairwise_cons.1 h
  rw [eSet]
  split
  ·rename_i hlt
   rw [wh, decide_eq_true_eq] at hlt
   refine List.pairwise_cons.2 ⟨fun y hy => ?_, qde h'.2⟩
   rcases (qgp h'.2 y).1 hy with rfl | ⟨h1, _⟩
   ·exact hlt
   ·exact h'.1 y h1
  ·rename_i hlt
   rw [wh, decide_eq_true_eq] at hlt
   have hge : cmpB x.1 a.1 ≤ 0 := jp.1 hlt
   split
   ·rename_i he
    exact List.pairwise_cons.2 ⟨fun y hy => by rw [← he]; exact h'.1 y hy, h'.2⟩
   ·rename_i he
    have hx : cmpB x.1 a.1 < 0 := by
     rcases Int.lt_or_eq_of_le hge with h1 | h1
     ·exact h1
     ·exact (he (qae h1).symm).elim
    refine List.pairwise_cons.2 ⟨fun y hy => ?_, h⟩
    rcases List.mem_cons.1 hy with rfl | hy
    ·exact hx
    ·exact (kn hge (Int.le_of_lt (h'.1 y hy))).2 (.inl hx)
theorem qla {k : List UInt8} {l : List En} (h : Sorted l) : Sorted (eDel k l) := List.Pairwise.filter _ h
def entsOf (m : Cont) : List En := sList m []
theorem xq {m : Cont} (h : m.Ok) : Sorted (entsOf m) := qbq h []
theorem k8 {m : Cont} (h : m.Ok) (x : En) : x ∈ entsOf m ↔ mGet x.1 m = some x.2 := by
 rw [entsOf, qi1 h, qqv]; simp
theorem qah {m : Cont} : (entsOf m).length = m.l.length := by
 have h1 : preL [] m.l = m.l.map enOf := by
  unfold preL
  congr 1
  exact List.filter_eq_self.2 fun x _ => qqv _
 rw [entsOf, sList, (xf _).length_eq, h1, List.length_map]
theorem qt6 {m : Cont} (h : m.Ok) (k v : List UInt8) : entsOf (mPut k v m) = eSet (k, v) (entsOf m) := by
 have hs := xq h
 refine qa4 (xq (qdb h k v)) (qde hs) fun x => ?_
 rw [k8 (qdb h k v), qgp hs, k8 h, qma]
 obtain ⟨a, b⟩ := x
 simp only [Prod.mk.injEq]
 by_cases hk : a = k
 ·subst hk; simp [eq_comm]
 ·simp [hk]
theorem qt7 {m : Cont} (h : m.Ok) (k : List UInt8) : entsOf (mDel k m) = eDel k (entsOf m) := by
 have hs := xq h
 refine qa4 (xq (qdc h k)) (qla hs) fun x => ?_
 rw [k8 (qdc h k), eDel, List.mem_filter, k8 h, qmb h]
 by_cases hk : x.1 = k <;> simp [hk]
theorem ko : ∀ (l : List OpS) {m : Cont}, m.Ok → m.l.length ≤ 400 → (mApply m l).2 = (eApply (entsOf m) l).2 ∧ ((mApply m l).2 = true → entsOf (mApply m l).1 = (eApply (entsOf m) l).1 ∧ (mApply m l).1.Ok ∧ (mApply m l).1.l.length ≤ 400)
 | [], m, h, hl => ⟨rfl, fun _ => ⟨rfl, h, hl⟩⟩
 | o :: l, m, h, hl => by
  rw [mApply, eApply, eOp]
  by_cases hd : o.del = true
  ·have hle := qmc o.key m
   rw [if_pos hd, if_pos hd, ← qt7 h, qah, if_neg (by omega)]
   exact ko l (qdc h _) (by omega)
  ·rw [if_neg hd, if_neg hd, ← qt6 h, qah]
   by_cases h4 : (mPut o.key o.val m).l.length > 400
   ·rw [if_pos h4, if_pos h4]
    exact ⟨rfl, fun e => by cases e⟩
   ·rw [if_neg h4, if_neg h4]
    exact ko l (qdb h _ _) (by omega)
def eGet (k : List UInt8) (l : List En) : Option (List UInt8) := (l.find? fun e => e.1 == k).map (·.2)
theorem q6c {m : Cont} (h : m.Ok) (k : List UInt8) : eGet k (entsOf m) = mGet k m := by
 unfold eGet
 cases hf : (entsOf m).find? (fun e => e.1 == k) with
 | none =>
  cases hg : mGet k m with
  | none => rfl
  | some v =>
   have := (k8 h (k, v)).2 hg
   have := List.find?_eq_none.1 hf _ this
   simp at this
 | some x =>
  have h1 := (k8 h x).1 (List.mem_of_find?_eq_some hf)
  have h2 : x.1 = k := by simpa using List.find?_some hf
  rw [← h2, h1]; rfl
def eList (p : List UInt8) (l : List En) : List En := l.filter fun e => pre p e.1
theorem q03 {m : Cont} (h : m.Ok) (p : List UInt8) : sList m p = eList p (entsOf m) := by
 refine qa4 (qbq h p) (List.Pairwise.filter _ (xq h)) fun x => ?_
 rw [qi1 h, eList, List.mem_filter, k8 h]
end Go.Proofs.Ytinnaedmdoengaa
namespace Go.Proofs.Ytinnaedmdoengaa
open Go.Abs
set_option linter.unusedSimpArgs false
set_option linter.unusedVariables false
def headAt (b : List UInt8) (p : Nat) : List UInt8 := (b.drop p).take 24
def sumAt (b : List UInt8) (p : Nat) : List UInt8 := (b.drop (p + 24)).take 8
def kindOf (h : List UInt8) : Nat := (h.getD 0 0).toNat
def numB (h : List UInt8) : Nat := (h.getD 1 0).toNat
def cProper (h : List UInt8) (before : Nat) : Bool :=
 (decide (kindOf h = 1) || decide (kindOf h = 2)) && decide (numB h ≤ 22) && decide (before + numB h ≤ 2000) && !(decide (kindOf h = 1) && decide (numB h ≠ 22)) && !(decide (kindOf h = 2) && decide (numB h = 0) && decide (0 < before)) && (h.drop (2 + numB h)).all (fun c => c == 0)
structure Rds where
 pos : Nat
 seed : Nat
 now : List UInt8
 recs : List (List UInt8)
 ends : List Nat
 deriving Inhabited
def Rds.used (s : Rds) : Nat := s.ends.getLastD 0
def cNow (b : List UInt8) (s : Rds) : List UInt8 := s.now ++ ((headAt b s.pos).drop 2).take (numB (headAt b s.pos))
def cNext (b : List UInt8) (s : Rds) : Rds :=
 if kindOf (headAt b s.pos) = 2 then ⟨s.pos + 32, fnv s.seed (headAt b s.pos), [], s.recs ++ [cNow b s], s.ends ++ [s.pos + 32]⟩
 else ⟨s.pos + 32, fnv s.seed (headAt b s.pos), cNow b s, s.recs, s.ends⟩
def cErr (b : List UInt8) (s : Rds) : Option Int :=
 if be8 (fnv s.seed (headAt b s.pos)) = sumAt b s.pos then (if cProper (headAt b s.pos) s.now.length = true then none else some 4) else some 5
theorem qi2 (b : List UInt8) (s : Rds) : (cNext b s).pos = s.pos + 32 := by unfold cNext; split <;> rfl
def wRead (b : List UInt8) (s : Rds) : Rds × Int :=
 if h : s.pos + 32 ≤ b.length then
  match cErr b s with
  | some e => (s, e)
  | none => wRead b (cNext b s)
 else (s, if s.used = b.length then 0 else 4)
termination_by b.length - s.pos
decreasing_by rw [qi2]; omega
def basis : Nat := 14695981039346656037
def rds0 : Rds := ⟨0, basis, [], [], []⟩
theorem qdf {b : List UInt8} {s : Rds} {e : Int} (h : s.pos + 32 ≤ b.length) (he : cErr b s = some e) : wRead b s = (s, e) := by
 rw [wRead, dif_pos h, he]
theorem qa5 {b : List UInt8} {s : Rds} (h : s.pos + 32 ≤ b.length) (he : cErr b s = none) : wRead b s = wRead b (cNext b s) := by
 rw [wRead, dif_pos h, he]
theorem vu {b : List UInt8} {s : Rds} (h : ¬ s.pos + 32 ≤ b.length) : wRead b s = (s, if s.used = b.length then 0 else 4) := by
 rw [wRead, dif_neg h]
structure Rds.Ok (b : List UInt8) (s : Rds) : Prop where
 pos : s.pos ≤ b.length
 seed : s.seed < 18446744073709551616
 now : s.now.length ≤ 2000
 recs : s.recs.length ≤ s.pos
 ends : s.ends.length ≤ s.pos
 used : s.used ≤ s.pos
 small : ∀ r ∈ s.recs, r.length ≤ 2000
theorem yg (b : List UInt8) : rds0.Ok b := ⟨Nat.zero_le _, by decide, by simp [rds0], by simp [rds0], by simp [rds0], by simp [rds0, Rds.used], by simp [rds0]⟩
theorem qgq (l : List Nat) (x d : Nat) : (l ++ [x]).getLastD d = x := by simp
theorem qqw {b : List UInt8} {s : Rds} (h : cErr b s = none) : be8 (fnv s.seed (headAt b s.pos)) = sumAt b s.pos ∧ cProper (headAt b s.pos) s.now.length = true := by
 unfold cErr at h
 split at h
 ·split at h
  ·exact ⟨by assumption, by assumption⟩
  ·cases h
 ·cases h
theorem ja {h : List UInt8} {n : Nat} : cProper h n = true ↔ (kindOf h = 1 ∨ kindOf h = 2) ∧ numB h ≤ 22 ∧ n + numB h ≤ 2000 ∧ (kindOf h = 1 → numB h = 22) ∧ (kindOf h = 2 → numB h = 0 → n = 0) ∧ (h.drop (2 + numB h)).all (fun c => c == 0) = true := by
 unfold cProper
 simp only [Bool.and_eq_true, Bool.or_eq_true, Bool.not_eq_true', Bool.and_eq_false_iff, decide_eq_true_eq, decide_eq_false_iff_not]
 constructor
 ·rintro ⟨⟨⟨⟨⟨h1, h2⟩, h3⟩, h4⟩, h5⟩, h6⟩
  exact ⟨h1, h2, h3, by omega, by omega, h6⟩
 ·rintro ⟨h1, h2, h3, h4, h5, h6⟩
  exact ⟨⟨⟨⟨⟨h1, h2⟩, h3⟩, by omega⟩, by omega⟩, h6⟩
theorem qme {b : List UInt8} {s : Rds} (h : cErr b s = none) : (cNow b s).length ≤ 2000 := by
 obtain ⟨_, h2⟩ := qqw h
 obtain ⟨_, _, h3, _⟩ := ja.1 h2
 unfold cNow
 rw [List.length_append, List.length_take]
 omega
theorem qmf {b : List UInt8} {s : Rds} (hs : s.Ok b) (h : s.pos + 32 ≤ b.length) (he : cErr b s = none) : (cNext b s).Ok b := by
 have hn := qme he
 have hf := qiq hs.seed (headAt b s.pos)
 have h1 := hs.recs
 have h2 := hs.ends
 have h3 := hs.used
 unfold cNext
 split
 ·refine ⟨h, hf, by simp, by simp; omega, by simp; omega, by simp [Rds.used], fun r hr => ?_⟩
  rcases List.mem_append.1 hr with hr | hr
  ·exact hs.small r hr
  ·simp at hr; subst hr; exact hn
 ·exact ⟨h, hf, hn, by simp only; omega, by simp only; omega, by simp only [Rds.used] at h3 ⊢; omega, hs.small⟩
theorem k9 {b : List UInt8} {s : Rds} (hs : s.Ok b) : (wRead b s).1.Ok b := by
 by_cases h : s.pos + 32 ≤ b.length
 ·cases he : cErr b s with
  | some e => rw [qdf h he]; exact hs
  | none => rw [qa5 h he]; exact k9 (qmf hs h he)
 ·rw [vu h]; exact hs
termination_by b.length - s.pos
decreasing_by rw [qi2]; omega
def cBytes : Nat → List (Nat × List UInt8) → List UInt8
 | _, [] => []
 | h, p :: l => headOf p ++ be8 (fnv h (headOf p)) ++ cBytes (fnv h (headOf p)) l
def cHash : Nat → List (Nat × List UInt8) → Nat
 | h, [] => h
 | h, p :: l => cHash (fnv h (headOf p)) l
theorem qn7 (x : List UInt8) (h : Nat) (l : List (Nat × List UInt8)) : cellsOn (x, h) l = (x ++ cBytes h l, cHash h l) := by
 induction l generalizing x h with
 | nil => simp [cellsOn, cBytes, cHash]
 | cons p l ih =>
  have : cellsOn (x, h) (p :: l) = cellsOn (cellOn (x, h) p) l := rfl
  rw [this, cellOn, ih, cBytes, cHash]
  simp only [List.append_assoc]
theorem qa6 {h : Nat} {l : List (Nat × List UInt8)} (hl : ∀ p ∈ l, p.2.length ≤ 22) : (cBytes h l).length = 32 * l.length := by
 induction l generalizing h with
 | nil => simp [cBytes]
 | cons p l ih =>
  rw [cBytes, List.length_append, List.length_append, xx, jo (hl p List.mem_cons_self), ih (fun q hq => hl q (List.mem_cons_of_mem _ hq)), List.length_cons]
  omega
theorem qt8 {h : Nat} (hh : h < 18446744073709551616) (l : List (Nat × List UInt8)) : cHash h l < 18446744073709551616 := by
 induction l generalizing h with
 | nil => exact hh
 | cons p l ih => exact ih (qiq hh _)
theorem qi3 {b rest : List UInt8} {s : Rds} {p : Nat × List UInt8} (hp : p.1 = 1 ∨ p.1 = 2) (hl : p.2.length ≤ 22) (hb : b.drop s.pos = headOf p ++ be8 (fnv s.seed (headOf p)) ++ rest) :
  s.pos + 32 ≤ b.length ∧ headAt b s.pos = headOf p ∧ sumAt b s.pos = be8 (fnv s.seed (headOf p)) := by
 have h24 := jo hl
 have hlen := congrArg List.length hb
 simp only [List.length_drop, List.length_append, h24, xx] at hlen
 refine ⟨by omega, ?_, ?_⟩
 ·rw [headAt, hb, List.append_assoc, ← h24, List.take_left]
 ·rw [sumAt, ← List.drop_drop, hb, List.append_assoc, ← h24, List.drop_left, ← xx (fnv s.seed (headOf p)), List.take_left]
theorem qdg {p : Nat × List UInt8} (hp : p.1 = 1 ∨ p.1 = 2) : kindOf (headOf p) = p.1 := by
 unfold kindOf headOf
 rcases hp with h | h <;> rw [h] <;> rfl
theorem qe8 {p : Nat × List UInt8} (hl : p.2.length ≤ 22) : numB (headOf p) = p.2.length := by
 unfold numB headOf
 simp only [List.cons_append, List.nil_append, List.getD_cons_succ, List.getD_cons_zero, UInt8.toNat_ofNat']
 omega
theorem qlb (p : Nat × List UInt8) : ((headOf p).drop 2).take p.2.length = p.2 := by
 unfold headOf
 simp only [List.cons_append, List.nil_append, List.drop_succ_cons, List.drop_zero, List.take_left]
theorem qn8 (p : Nat × List UInt8) : ((headOf p).drop (2 + p.2.length)).all (fun c => c == 0) = true := by
 rw [← List.drop_drop]
 unfold headOf
 simp only [List.cons_append, List.nil_append, List.drop_succ_cons, List.drop_zero, List.drop_left]
 simp
theorem qdh {b rest : List UInt8} {s : Rds} {p : Nat × List UInt8} (hp : p.1 = 1 ∨ p.1 = 2) (hl : p.2.length ≤ 22) (h22 : p.1 = 1 → p.2.length = 22) (h0 : p.1 = 2 → p.2.length = 0 → s.now.length = 0) (hn : s.now.length + p.2.length ≤ 2000)
  (hb : b.drop s.pos = headOf p ++ be8 (fnv s.seed (headOf p)) ++ rest) :
  wRead b s = wRead b (if p.1 = 2 then ⟨s.pos + 32, fnv s.seed (headOf p), [], s.recs ++ [s.now ++ p.2], s.ends ++ [s.pos + 32]⟩ else ⟨s.pos + 32, fnv s.seed (headOf p), s.now ++ p.2, s.recs, s.ends⟩) := by
 obtain ⟨h1, h2, h3⟩ := qi3 hp hl hb
 have he : cErr b s = none := by
  unfold cErr
  rw [h2, h3, if_pos rfl, if_pos]
  refine ja.2 ?_
  rw [qdg hp, qe8 hl]
  exact ⟨hp, hl, hn, h22, h0, qn8 p⟩
 rw [qa5 h1 he]
 unfold cNext cNow
 rw [h2, qdg hp, qe8 hl, qlb]
theorem qmg : ∀ (n : Nat) {r b rest : List UInt8} {s : Rds}, r.length ≤ n → (s.now.length = 0 ∨ 0 < r.length) → s.now.length + r.length ≤ 2000 → b.drop s.pos = cBytes s.seed (partsOf r) ++ rest →
  wRead b s = wRead b ⟨s.pos + 32 * (partsOf r).length, cHash s.seed (partsOf r), [], s.recs ++ [s.now ++ r], s.ends ++ [s.pos + 32 * (partsOf r).length]⟩
 | n, r, b, rest, s, hr, h0, hn, hb => by
  by_cases h : r.length > 22
  ·have ht : (r.take 22).length = 22 := by rw [List.length_take]; omega
   rw [xm h] at hb ⊢
   rw [cBytes, List.append_assoc] at hb
   have hc := qdh (p := (1, r.take 22)) (s := s) (b := b) (.inl rfl) (by simp only; omega) (fun _ => ht) (fun h => by cases h) (by simp only; omega) hb
   rw [hc]
   simp only [show ¬ (1 : Nat) = 2 by decide, if_false]
   cases n with
   | zero => omega
   | succ n =>
    have hd := (qi3 (p := (1, r.take 22)) (.inl rfl) (by simp only; omega) hb).1
    have hb2 : b.drop (s.pos + 32) = cBytes (fnv s.seed (headOf (1, r.take 22))) (partsOf (r.drop 22)) ++ rest := by
     have h24 := jo (p := (1, r.take 22)) (by simp only; omega)
     rw [← List.drop_drop, hb]
     exact List.drop_left' (by rw [List.length_append, h24, xx])
    have ih := qmg n (r := r.drop 22) (b := b) (rest := rest) (s := ⟨s.pos + 32, fnv s.seed (headOf (1, r.take 22)), s.now ++ r.take 22, s.recs, s.ends⟩) (by rw [List.length_drop]; omega) (.inr (by rw [List.length_drop]; omega))
     (by simp only [List.length_append, List.length_drop, ht]; omega) (by simp only; exact hb2)
    rw [ih]
    simp only [List.append_assoc, List.take_append_drop, List.length_cons, cHash]
    have e : s.pos + 32 + 32 * (partsOf (r.drop 22)).length = s.pos + 32 * ((partsOf (r.drop 22)).length + 1) := by omega
    rw [e]
  ·rw [xn h] at hb ⊢
   rw [cBytes, List.append_assoc] at hb
   have hc := qdh (p := (2, r)) (s := s) (b := b) (.inr rfl) (by simp only; omega) (fun h => by cases h) (fun _ h1 => by simp only at h1; omega) hn hb
   rw [hc]
   simp only [if_true, List.length_singleton, cHash, Nat.mul_one]
theorem qqx : ∀ (n : Nat) {r b : List UInt8} {m : Nat} {s : Rds}, r.length ≤ n → (s.now.length = 0 ∨ 0 < r.length) → s.now.length + r.length ≤ 2000 → b.drop s.pos = (cBytes s.seed (partsOf r)).take m → s.pos ≤ b.length → m < (cBytes s.seed (partsOf r)).length →
  (wRead b s).1.recs = s.recs ∧ (wRead b s).1.ends = s.ends ∧ ((wRead b s).2 = 0 ∨ (wRead b s).2 = 4)
 | n, r, b, m, s, hr, h0, hn, hb, hpos, hm => by
  have hps := zd _ r (Nat.le_refl _)
  have hlen := congrArg List.length hb
  rw [List.length_drop, List.length_take, Nat.min_eq_left (Nat.le_of_lt hm)] at hlen
  rw [qa6 (fun p hp => (hps p hp).2)] at hm
  by_cases h32 : m < 32
  ·rw [vu (by omega)]
   exact ⟨rfl, rfl, by simp only; split <;> simp⟩
  ·by_cases h : r.length > 22
   ·have ht : (r.take 22).length = 22 := by rw [List.length_take]; omega
    rw [xm h] at hb hm
    rw [cBytes] at hb
    have h24 := jo (p := (1, r.take 22)) (by simp only; omega)
    have h8 : (headOf (1, r.take 22) ++ be8 (fnv s.seed (headOf (1, r.take 22)))).length = 32 := by rw [List.length_append, h24, xx]
    rw [List.take_append, List.take_of_length_le (by omega), h8] at hb
    have hc := qdh (p := (1, r.take 22)) (s := s) (b := b) (.inl rfl) (by simp only; omega) (fun _ => ht) (fun h => by cases h) (by simp only; omega) hb
    rw [hc]
    simp only [show ¬ (1 : Nat) = 2 by decide, if_false]
    cases n with
    | zero => omega
    | succ n =>
     have hb2 : b.drop (s.pos + 32) = (cBytes (fnv s.seed (headOf (1, r.take 22))) (partsOf (r.drop 22))).take (m - 32) := by
      rw [← List.drop_drop, hb]
      exact List.drop_left' h8
     have hps2 := zd _ (r.drop 22) (Nat.le_refl _)
     exact qqx n (r := r.drop 22) (b := b) (m := m - 32) (s := ⟨s.pos + 32, fnv s.seed (headOf (1, r.take 22)), s.now ++ r.take 22, s.recs, s.ends⟩) (by rw [List.length_drop]; omega) (.inr (by rw [List.length_drop]; omega))
      (by simp only [List.length_append, List.length_drop, ht]; omega) (by simp only; exact hb2) (by simp only; omega) (by rw [qa6 (fun p hp => (hps2 p hp).2)]; rw [List.length_cons] at hm; omega)
   ·rw [xn h] at hm
    simp at hm
    omega
end Go.Proofs.Ytinnaedmdoengaa
namespace Go.Proofs.Ytinnaedmdoengaa
open Go.Abs
set_option linter.unusedSimpArgs false
set_option linter.unusedVariables false
theorem qqy {h : Nat} (hh : h < 18446744073709551616) : numOf (be8 h) = h := by
 have e : ∀ x : Nat, (UInt8.ofNat x).toNat = x % 256 := fun x => UInt8.toNat_ofNat'
 simp only [numOf, be8, List.foldl_cons, List.foldl_nil, num1, e]
 have p0 : (256 : Nat) ^ 0 = 1 := rfl
 have p1 : (256 : Nat) ^ 1 = 256 := rfl
 have p2 : (256 : Nat) ^ 2 = 65536 := rfl
 have p3 : (256 : Nat) ^ 3 = 16777216 := rfl
 have p4 : (256 : Nat) ^ 4 = 4294967296 := rfl
 have p5 : (256 : Nat) ^ 5 = 1099511627776 := rfl
 have p6 : (256 : Nat) ^ 6 = 281474976710656 := rfl
 have p7 : (256 : Nat) ^ 7 = 72057594037927936 := rfl
 rw [p0, p1, p2, p3, p4, p5, p6, p7]
 omega
theorem qdi : ∀ (l : List (Nat × List UInt8)) {h : Nat}, l ≠ [] → ∃ q, cBytes h l = q ++ be8 (cHash h l)
 | [], _, hn => (hn rfl).elim
 | [p], h, _ => ⟨headOf p, by simp [cBytes, cHash]⟩
 | p :: p' :: l, h, _ => by
  obtain ⟨q, hq⟩ := qdi (p' :: l) (h := fnv h (headOf p)) (by simp)
  refine ⟨headOf p ++ be8 (fnv h (headOf p)) ++ q, ?_⟩
  have e : cHash h (p :: p' :: l) = cHash (fnv h (headOf p)) (p' :: l) := by rw [cHash]
  rw [cBytes, hq, e, ← List.append_assoc]
theorem qmh (r : List UInt8) : partsOf r ≠ [] := by
 by_cases h : r.length > 22
 ·rw [xm h]; simp
 ·rw [xn h]; simp
theorem wi (f r : List UInt8) : wAppend f r = f ++ cBytes (wSeed f) (partsOf r) := by rw [wAppend, qn7]
theorem qi4 (f r : List UInt8) : wSeed (wAppend f r) = cHash (wSeed f) (partsOf r) := by
 obtain ⟨q, hq⟩ := qdi (partsOf r) (h := wSeed f) (qmh r)
 have hh := qt8 (ql7 f) (partsOf r)
 rw [wi, hq, wSeed, if_neg (by simp [xx]; omega)]
 have e : (f ++ (q ++ be8 (cHash (wSeed f) (partsOf r)))).length - 8 = (f ++ q).length := by simp only [List.length_append, xx]; omega
 rw [e, ← List.append_assoc, List.drop_left, qqy hh]
def fileOf (rs : List (List UInt8)) : List UInt8 := rs.foldl wAppend []
theorem xr (rs : List (List UInt8)) (r : List UInt8) : fileOf (rs ++ [r]) = fileOf rs ++ cBytes (wSeed (fileOf rs)) (partsOf r) := by
 have : fileOf (rs ++ [r]) = wAppend (fileOf rs) r := by unfold fileOf; rw [List.foldl_append, List.foldl_cons, List.foldl_nil]
 rw [this, wi]
theorem qe9 (rs : List (List UInt8)) (r : List UInt8) : fileOf (rs ++ [r]) = wAppend (fileOf rs) r := by rw [xr, wi]
theorem qai (f r : List UInt8) : (cBytes (wSeed f) (partsOf r)).length = 32 * (partsOf r).length := qa6 fun p hp => (zd _ r (Nat.le_refl _) p hp).2
theorem qqz (f r : List UInt8) : 0 < (cBytes (wSeed f) (partsOf r)).length := by
 rw [qai]
 have := List.length_pos_iff.2 (qmh r)
 omega
def endsOf : Nat → List (List UInt8) → List Nat
 | _, [] => []
 | n, r :: l => (n + 32 * (partsOf r).length) :: endsOf (n + 32 * (partsOf r).length) l
theorem qaj {α : Type} {P : List α → Prop} (h0 : P []) (h1 : ∀ l x, P l → P (l ++ [x])) : ∀ (n : Nat) (l : List α), l.length = n → P l
 | 0, l, h => by cases l with
  | nil => exact h0
  | cons a l => simp at h
 | n + 1, l, h => by
  rcases List.eq_nil_or_concat l with rfl | ⟨t, c, rfl⟩
  ·simp at h
  ·rw [List.concat_eq_append] at h ⊢
   exact h1 _ _ (qaj h0 h1 n t (by simpa using h))
structure Behind (rs : List (List UInt8)) (s : Rds) : Prop where
 pos : s.pos = (fileOf rs).length
 seed : s.seed = wSeed (fileOf rs)
 now : s.now = []
 recs : s.recs = rs
 used : s.used = (fileOf rs).length
theorem qi5 (rs : List (List UInt8)) : ∀ (b rest : List UInt8), (∀ r ∈ rs, r.length ≤ 2000) → b = fileOf rs ++ rest → ∃ s, Behind rs s ∧ wRead b rds0 = wRead b s := by
 refine qaj (P := fun rs => ∀ (b rest : List UInt8), (∀ r ∈ rs, r.length ≤ 2000) → b = fileOf rs ++ rest → ∃ s, Behind rs s ∧ wRead b rds0 = wRead b s) ?_ ?_ _ rs rfl
 ·intro b rest _ _
  exact ⟨rds0, ⟨rfl, rfl, rfl, rfl, rfl⟩, rfl⟩
 ·intro rs r ih b rest hr hb
  rw [xr, List.append_assoc] at hb
  obtain ⟨s, ⟨b1, b2, b3, b4, b5⟩, hs⟩ := ih b _ (fun x hx => hr x (List.mem_append_left _ hx)) hb
  have hd : b.drop s.pos = cBytes s.seed (partsOf r) ++ rest := by rw [b1, b2, hb, List.drop_left]
  have := qmg _ (r := r) (b := b) (s := s) (Nat.le_refl _) (.inl (by rw [b3]; rfl)) (by rw [b3]; have := hr r (by simp); simpa using this) hd
  refine ⟨_, ?_, hs.trans this⟩
  refine ⟨?_, ?_, rfl, ?_, ?_⟩
  ·rw [xr, List.length_append, qai, b1]
  ·rw [qe9, qi4, b2]
  ·rw [b4, b3, List.nil_append]
  ·rw [Rds.used, qgq, xr, List.length_append, qai, b1]
theorem qed (rs : List (List UInt8)) : ∀ i j : Nat, i ≤ j → (fileOf (rs.take i)).length ≤ (fileOf (rs.take j)).length := by
 intro i j hij
 induction j with
 | zero =>
  have : i = 0 := by omega
  subst this
  exact Nat.le_refl _
 | succ j ih =>
  by_cases h : i ≤ j
  ·refine Nat.le_trans (ih h) ?_
   by_cases hj : j < rs.length
   ·rw [List.take_succ_eq_append_getElem hj, xr, List.length_append]; omega
   ·rw [List.take_of_length_le (by omega), List.take_of_length_le (by omega)]; omega
  ·have : i = j + 1 := by omega
   subst this
   exact Nat.le_refl _
theorem qn9 (rs : List (List UInt8)) : ∀ i : Nat, i ≤ rs.length → (fileOf rs).take (fileOf (rs.take i)).length = fileOf (rs.take i) := by
 refine qaj (P := fun rs => ∀ i : Nat, i ≤ rs.length → (fileOf rs).take (fileOf (rs.take i)).length = fileOf (rs.take i)) ?_ ?_ _ rs rfl
 ·intro i hi
  simp at hi; subst hi; rfl
 ·intro rs r ih i hi
  by_cases h : i ≤ rs.length
  ·have h1 := qed rs i rs.length h
   rw [List.take_length] at h1
   rw [List.take_append_of_le_length h, xr, List.take_append_of_le_length h1, ih i h]
  ·have : i = (rs ++ [r]).length := by simp at hi ⊢; omega
   subst this
   rw [List.take_length, List.take_length]
structure ReadOf (rs : List (List UInt8)) (k j : Nat) (x : Rds × Int) : Prop where
 le : j ≤ rs.length
 recs : x.1.recs = rs.take j
 used : x.1.used = (fileOf (rs.take j)).length
 fit : (fileOf (rs.take j)).length ≤ k
 all : ∀ i, i ≤ rs.length → (fileOf (rs.take i)).length ≤ k → i ≤ j
theorem qoa (rs : List (List UInt8)) : ∀ k : Nat, (∀ r ∈ rs, r.length ≤ 2000) → ∃ j, ReadOf rs k j (wRead ((fileOf rs).take k) rds0) := by
 refine qaj (P := fun rs => ∀ k : Nat, (∀ r ∈ rs, r.length ≤ 2000) → ∃ j, ReadOf rs k j (wRead ((fileOf rs).take k) rds0)) ?_ ?_ _ rs rfl
 ·intro k _
  refine ⟨0, ?_⟩
  have hb : (fileOf []).take k = [] := by simp [fileOf]
  rw [hb, vu (by simp [rds0])]
  exact ⟨Nat.le_refl _, rfl, rfl, Nat.zero_le _, fun i hi _ => by simpa using hi⟩
 ·intro rs r ih k hr
  have hr' : ∀ x ∈ rs, x.length ≤ 2000 := fun x hx => hr x (List.mem_append_left _ hx)
  have hrr : r.length ≤ 2000 := hr r (by simp)
  have hln : (fileOf (rs ++ [r])).length = (fileOf rs).length + (cBytes (wSeed (fileOf rs)) (partsOf r)).length := by rw [xr, List.length_append]
  have hps := qqz (fileOf rs) r
  by_cases h1 : (fileOf (rs ++ [r])).length ≤ k
  ·rw [List.take_of_length_le h1]
   obtain ⟨s, ⟨b1, b2, b3, b4, b5⟩, hs⟩ := qi5 (rs ++ [r]) (fileOf (rs ++ [r])) [] hr (by simp)
   rw [hs, vu (by rw [b1]; omega)]
   refine ⟨(rs ++ [r]).length, ⟨Nat.le_refl _, by rw [List.take_length]; exact b4, by rw [List.take_length]; exact b5, by rw [List.take_length]; exact h1, fun i hi _ => hi⟩⟩
  ·have hall : ∀ i, i ≤ (rs ++ [r]).length → (fileOf ((rs ++ [r]).take i)).length ≤ k → i ≤ rs.length := by
    intro i hi hk
    rcases Nat.lt_or_ge rs.length i with h | h
    ·have : i = (rs ++ [r]).length := by simp at hi ⊢; omega
     rw [this, List.take_length] at hk
     exact (h1 hk).elim
    ·exact h
   have htk : ∀ i, i ≤ rs.length → (rs ++ [r]).take i = rs.take i := fun i hi => List.take_append_of_le_length hi
   by_cases h2 : k ≤ (fileOf rs).length
   ·rw [xr, List.take_append_of_le_length h2]
    obtain ⟨j, j1, j2, j3, j4, j5⟩ := ih k hr'
    refine ⟨j, ⟨by simp; omega, by rw [htk j j1]; exact j2, by rw [htk j j1]; exact j3, by rw [htk j j1]; exact j4, fun i hi hk => ?_⟩⟩
    have := hall i hi hk
    rw [htk i this] at hk
    exact j5 i this hk
   ·have hb : (fileOf (rs ++ [r])).take k = fileOf rs ++ (cBytes (wSeed (fileOf rs)) (partsOf r)).take (k - (fileOf rs).length) := by
     rw [xr, List.take_append, List.take_of_length_le (by omega)]
    rw [hb]
    obtain ⟨s, ⟨b1, b2, b3, b4, b5⟩, hs⟩ := qi5 rs (fileOf rs ++ (cBytes (wSeed (fileOf rs)) (partsOf r)).take (k - (fileOf rs).length)) _ hr' rfl
    have hd : (fileOf rs ++ (cBytes (wSeed (fileOf rs)) (partsOf r)).take (k - (fileOf rs).length)).drop s.pos = (cBytes s.seed (partsOf r)).take (k - (fileOf rs).length) := by rw [b1, b2, List.drop_left]
    obtain ⟨c1, c2, c3⟩ := qqx _ (r := r) (s := s) (Nat.le_refl _) (.inl (by rw [b3]; rfl)) (by rw [b3]; simpa using hrr) hd (by rw [b1, List.length_append]; omega) (by rw [b2]; omega)
    rw [hs]
    refine ⟨rs.length, ⟨by simp, ?_, ?_, ?_, hall⟩⟩
    ·rw [c1, b4, htk _ (Nat.le_refl _), List.take_length]
    ·rw [Rds.used, c2, htk _ (Nat.le_refl _), List.take_length]
     exact b5
    ·rw [htk _ (Nat.le_refl _), List.take_length]; omega
end Go.Proofs.Ytinnaedmdoengaa
namespace Go.Proofs.Ytinnaedmdoengaa
open Go.Abs
set_option linter.unusedSimpArgs false
set_option linter.unusedVariables false
theorem qak {α β : Type} (f : α → β) (l : List α) {i : Nat} (h : i < l.length) : (l.take (i + 1)).map f = (l.take i).map f ++ [f l[i]] := by
 rw [List.take_succ_eq_append_getElem h, List.map_append]; rfl
theorem wt (w : List UInt8) : rowsBytes (byteRows w) = w := by
 induction w with
 | nil => rfl
 | cons c w ih => simp_all [rowsBytes, byteRows]
theorem qwg (w : List UInt8) : (∃ l, byteRows w = byteRows l) = True := eq_true ⟨w, rfl⟩
theorem q04 : (∃ l, ([] : List (List D)) = byteRows l) = True := eq_true ⟨[], rfl⟩
theorem qgr : rowsBytes [] = [] := rfl
attribute [go_sem] wt qwg q04 qgr
noncomputable section
set_option maxRecDepth 100000
def s14r0 : List SOper := [
 ⟨some 2, .mov (.k (.d .nilsl)), none⟩]
def s14r1 : List SOper := [
 ⟨some 3, .mov (.k (.d .nilsl)), none⟩]
def s14r2 : List SOper := [
 ⟨some 4, .mov (.k (.d (.int .i64 0))), none⟩]
def s14r3 : List SOper := [
 ⟨some 5, .mov (.t 4), none⟩,
 ⟨some 6, .mov (.t 0), none⟩,
 ⟨some 7, .len (.t 6), none⟩,
 ⟨some 8, .bin .lss (.t 5) (.t 7), none⟩]
def s14r4 : List SOper := [
 ⟨some 11, .mov (.t 3), none⟩,
 ⟨some 12, .mov (.t 0), none⟩,
 ⟨some 13, .mov (.t 4), none⟩,
 ⟨some 14, .iaddr 3 (.t 12) (.t 13), none⟩,
 ⟨some 15, .faddr 0 (.t 14), none⟩,
 ⟨some 16, .load none (.t 15), none⟩,
 ⟨some 17, .mov (.t 0), none⟩,
 ⟨some 18, .mov (.t 4), none⟩,
 ⟨some 19, .iaddr 3 (.t 17) (.t 18), none⟩,
 ⟨some 20, .faddr 1 (.t 19), none⟩,
 ⟨some 21, .load none (.t 20), none⟩,
 ⟨some 22, .buildSlice false 1 0 [(.int .u8 0)] [], none⟩,
 ⟨some 23, .mov (.t 0), none⟩,
 ⟨some 24, .mov (.t 4), none⟩,
 ⟨some 25, .iaddr 3 (.t 23) (.t 24), none⟩,
 ⟨some 26, .faddr 2 (.t 25), none⟩,
 ⟨some 27, .load none (.t 26), none⟩,
 ⟨some 28, .append false 1 1 (.t 22) (.t 27), none⟩,
 ⟨some 29, .build [(.str []), (.bool false), .nilsl] [(0, 1, (.t 16)), (1, 1, (.t 21)), (2, 1, (.t 28))], none⟩,
 ⟨some 30, .buildSlice false 3 1 [(.str []), (.bool false), .nilsl] [(0, 3, (.t 29))], none⟩,
 ⟨some 31, .append false 3 48 (.t 11) (.t 30), none⟩,
 ⟨some 3, .mov (.t 31), none⟩]
def s14r5 : List SOper := [
 ⟨some 9, .mov (.t 4), none⟩,
 ⟨some 10, .bin .add (.t 9) (.k (.d (.int .i64 1))), none⟩,
 ⟨some 4, .mov (.t 10), none⟩]
def s14l6 : SCode := (.seq (.seq (.region s14r3 0 []) (.cond (.t 8) .skip (.exit 0))) (.seq (.block 1 (.region s14r4 0 [])) (.region s14r5 0 [])))
theorem q99 : CodeIs s14l6.eq_1 := qc s14l6.eq_1
def s14r7 : List SOper := [
 ⟨some 32, .mov (.t 3), none⟩,
 ⟨some 2, .mov (.t 32), none⟩]
def s14 : SCode := (.seq (.region s14r0 0 []) (.seq (.region s14r1 0 []) (.seq (.seq (.region s14r2 0 []) (.block 0 (.loop s14l6))) (.seq (.region s14r7 0 []) .ret))))
theorem e14 : CodeIs s14.eq_1 := qc s14.eq_1
theorem xaa : RegIs s14r0.eq_1 := qa
theorem xab : RegIs s14r1.eq_1 := qa
theorem xac : RegIs s14r2.eq_1 := qa
theorem xad : RegIs s14r3.eq_1 := qa
theorem xae : RegIs s14r4.eq_1 := qa
theorem xaf : RegIs s14r5.eq_1 := qa
theorem xag : RegIs s14r7.eq_1 := qa
attribute [go_sem] xaa xab xac xad xae xaf q99 xag e14
theorem F14 : FnIs Try.prog 14 Try.f14 [] news s14 [.tmp 2] 33 := xg follows Try.func14
def s36r0 : List SOper := [
 ⟨some 4, .mov (.k (.d .nilsl)), none⟩]
def s36r1 : List SOper := [
 ⟨some 8, .mov (.t 0), none⟩,
 ⟨some 9, .mov (.t 1), none⟩,
 ⟨some 10, .call (.k (.d (.func (.func 17) [] []))) [(.t 8), (.t 9)], none⟩,
 ⟨some 5, .mov (.t 10), none⟩]
def s36r2 : List SOper := [
 ⟨some 6, .mov (.k (.d .nilsl)), none⟩]
def s36r3 : List SOper := [
 ⟨some 7, .mov (.k (.d (.int .i64 0))), none⟩]
def s36r4 : List SOper := [
 ⟨some 11, .mov (.t 7), none⟩,
 ⟨some 12, .mov (.t 5), none⟩,
 ⟨some 13, .len (.t 12), none⟩,
 ⟨some 14, .bin .lss (.t 11) (.t 13), none⟩]
def s36r5 : List SOper := [
 ⟨some 17, .mov (.t 6), none⟩,
 ⟨some 18, .mov (.t 5), none⟩,
 ⟨some 19, .mov (.t 7), none⟩,
 ⟨some 20, .iaddr 2 (.t 18) (.t 19), none⟩,
 ⟨some 21, .load (some 2) (.t 20), none⟩,
 ⟨some 22, .buildSlice false 2 1 [(.str []), .nilsl] [(0, 2, (.t 21))], none⟩,
 ⟨some 23, .append false 2 40 (.t 17) (.t 22), none⟩,
 ⟨some 6, .mov (.t 23), none⟩]
def s36r6 : List SOper := [
 ⟨some 15, .mov (.t 7), none⟩,
 ⟨some 16, .bin .add (.t 15) (.k (.d (.int .i64 1))), none⟩,
 ⟨some 7, .mov (.t 16), none⟩]
def s36l7 : SCode := (.seq (.seq (.region s36r4 0 []) (.cond (.t 14) .skip (.exit 0))) (.seq (.block 1 (.region s36r5 0 [])) (.region s36r6 0 [])))
theorem xah : CodeIs s36l7.eq_1 := qc s36l7.eq_1
def s36r8 : List SOper := [
 ⟨some 24, .mov (.t 6), none⟩,
 ⟨some 4, .mov (.t 24), none⟩]
def s36 : SCode := (.seq (.region s36r0 0 []) (.seq (.region s36r1 0 []) (.seq (.region s36r2 0 []) (.seq (.seq (.region s36r3 0 []) (.block 0 (.loop s36l7))) (.seq (.region s36r8 0 []) .ret)))))
theorem e36 : CodeIs s36.eq_1 := qc s36.eq_1
theorem xai : RegIs s36r0.eq_1 := qa
theorem xaj : RegIs s36r1.eq_1 := qa
theorem xak : RegIs s36r2.eq_1 := qa
theorem xal : RegIs s36r3.eq_1 := qa
theorem xam : RegIs s36r4.eq_1 := qa
theorem xan : RegIs s36r5.eq_1 := qa
theorem xao : RegIs s36r6.eq_1 := qa
theorem xap : RegIs s36r8.eq_1 := qa
attribute [go_sem] xai xaj xak xal xam xan xao xah xap e36
theorem F36 : FnIs Try.prog 36 Try.f36 [] news s36 [.tmp 4] 25 := xg follows Try.func36
def s25r0 : List SOper := [
 ⟨some 2, .mov (.k (.d (.bool false))), none⟩]
def s25r1 : List SOper := [
 ⟨some 3, .mov (.k (.d (.int .i64 0))), none⟩]
def s25r2 : List SOper := [
 ⟨some 4, .mov (.k (.d (.int .i64 0))), none⟩]
def s25r3 : List SOper := [
 ⟨some 5, .mov (.t 4), none⟩,
 ⟨some 6, .mov (.t 0), none⟩,
 ⟨some 7, .len (.t 6), none⟩,
 ⟨some 8, .bin .lss (.t 5) (.t 7), none⟩]
def s25r4 : List SOper := [
 ⟨some 11, .mov (.t 0), none⟩,
 ⟨some 12, .mov (.t 4), none⟩,
 ⟨some 13, .iaddr 3 (.t 11) (.t 12), none⟩,
 ⟨some 14, .faddr 0 (.t 13), none⟩,
 ⟨some 15, .load none (.t 14), none⟩,
 ⟨some 16, .lenS (.t 15), none⟩,
 ⟨some 17, .bin .gtr (.t 16) (.k (.d (.int .i64 100))), none⟩,
 ⟨some 18, .mov (.t 17), none⟩,
 ⟨some 19, .mov (.t 0), some (18, false)⟩,
 ⟨some 20, .mov (.t 4), some (18, false)⟩,
 ⟨some 21, .iaddr 3 (.t 19) (.t 20), some (18, false)⟩,
 ⟨some 22, .faddr 2 (.t 21), some (18, false)⟩,
 ⟨some 23, .load none (.t 22), some (18, false)⟩,
 ⟨some 24, .len (.t 23), some (18, false)⟩,
 ⟨some 25, .bin .gtr (.t 24) (.k (.d (.int .i64 1000))), some (18, false)⟩,
 ⟨some 26, .pick (.t 18) (.k (.d (.bool true))) (.t 25), none⟩]
def s25r5 : List SOper := [
 ⟨some 2, .mov (.k (.d (.bool false))), none⟩]
def s25r6 : List SOper := [
 ⟨some 27, .mov (.t 3), none⟩,
 ⟨some 28, .mov (.t 0), none⟩,
 ⟨some 29, .mov (.t 4), none⟩,
 ⟨some 30, .iaddr 3 (.t 28) (.t 29), none⟩,
 ⟨some 31, .faddr 2 (.t 30), none⟩,
 ⟨some 32, .load none (.t 31), none⟩,
 ⟨some 33, .len (.t 32), none⟩,
 ⟨some 34, .bin .add (.t 27) (.t 33), none⟩,
 ⟨some 3, .mov (.t 34), none⟩]
def s25r7 : List SOper := [
 ⟨some 9, .mov (.t 4), none⟩,
 ⟨some 10, .bin .add (.t 9) (.k (.d (.int .i64 1))), none⟩,
 ⟨some 4, .mov (.t 10), none⟩]
def s25l8 : SCode := (.seq (.seq (.region s25r3 0 []) (.cond (.t 8) .skip (.exit 0))) (.seq (.block 1 (.seq (.seq (.region s25r4 0 []) (.cond (.t 26) (.seq (.region s25r5 0 []) .ret) .skip)) (.region s25r6 0 []))) (.region s25r7 0 [])))
theorem xaq : CodeIs s25l8.eq_1 := qc s25l8.eq_1
def s25r9 : List SOper := [
 ⟨some 35, .mov (.t 0), none⟩,
 ⟨some 36, .len (.t 35), none⟩,
 ⟨some 37, .bin .leq (.t 36) (.k (.d (.int .i64 30))), none⟩,
 ⟨some 38, .mov (.t 37), none⟩,
 ⟨some 39, .mov (.t 3), some (38, true)⟩,
 ⟨some 40, .bin .leq (.t 39) (.k (.d (.int .i64 3000))), some (38, true)⟩,
 ⟨some 41, .pick (.t 38) (.t 40) (.k (.d (.bool false))), none⟩,
 ⟨some 2, .mov (.t 41), none⟩]
def s25 : SCode := (.seq (.region s25r0 0 []) (.seq (.region s25r1 0 []) (.seq (.seq (.region s25r2 0 []) (.block 0 (.loop s25l8))) (.seq (.region s25r9 0 []) .ret))))
theorem e25 : CodeIs s25.eq_1 := qc s25.eq_1
theorem xar : RegIs s25r0.eq_1 := qa
theorem xas : RegIs s25r1.eq_1 := qa
theorem xat : RegIs s25r2.eq_1 := qa
theorem xau : RegIs s25r3.eq_1 := qa
theorem xav : RegIs s25r4.eq_1 := qa
theorem xaw : RegIs s25r5.eq_1 := qa
theorem xax : RegIs s25r6.eq_1 := qa
theorem xay : RegIs s25r7.eq_1 := qa
theorem xaz : RegIs s25r9.eq_1 := qa
attribute [go_sem] xar xas xat xau xav xaw xax xay xaq xaz e25
theorem F25 : FnIs Try.prog 25 Try.f25 [] news s25 [.tmp 2] 42 := xg follows Try.func25
def s11r0 : List SOper := [
 ⟨some 2, .mov (.k (.d (.bool false))), none⟩]
def s11r1 : List SOper := [
 ⟨some 3, .mov (.k (.d (.int .i64 0))), none⟩]
def s11r2 : List SOper := [
 ⟨some 4, .mov (.t 3), none⟩,
 ⟨some 5, .mov (.t 0), none⟩,
 ⟨some 6, .len (.t 5), none⟩,
 ⟨some 7, .bin .lss (.t 4) (.t 6), none⟩]
def s11r3 : List SOper := [
 ⟨some 10, .mov (.t 0), none⟩,
 ⟨some 11, .mov (.t 3), none⟩,
 ⟨some 12, .iaddr 2 (.t 10) (.t 11), none⟩,
 ⟨some 13, .faddr 1 (.t 12), none⟩,
 ⟨some 14, .load none (.t 13), none⟩,
 ⟨some 15, .call (.k (.d (.func (.func 25) [] []))) [(.t 14)], none⟩,
 ⟨some 16, .not (.t 15), none⟩]
def s11r4 : List SOper := [
 ⟨some 2, .mov (.k (.d (.bool false))), none⟩]
def s11r5 : List SOper := [
 ⟨some 8, .mov (.t 3), none⟩,
 ⟨some 9, .bin .add (.t 8) (.k (.d (.int .i64 1))), none⟩,
 ⟨some 3, .mov (.t 9), none⟩]
def s11l6 : SCode := (.seq (.seq (.region s11r2 0 []) (.cond (.t 7) .skip (.exit 0))) (.seq (.block 1 (.seq (.region s11r3 0 []) (.cond (.t 16) (.seq (.region s11r4 0 []) .ret) .skip))) (.region s11r5 0 [])))
theorem xa0 : CodeIs s11l6.eq_1 := qc s11l6.eq_1
def s11r7 : List SOper := [
 ⟨some 17, .mov (.t 0), none⟩,
 ⟨some 18, .len (.t 17), none⟩,
 ⟨some 19, .bin .leq (.t 18) (.k (.d (.int .i64 15))), none⟩,
 ⟨some 2, .mov (.t 19), none⟩]
def s11 : SCode := (.seq (.region s11r0 0 []) (.seq (.seq (.region s11r1 0 []) (.block 0 (.loop s11l6))) (.seq (.region s11r7 0 []) .ret)))
theorem e11 : CodeIs s11.eq_1 := qc s11.eq_1
theorem xa1 : RegIs s11r0.eq_1 := qa
theorem xa2 : RegIs s11r1.eq_1 := qa
theorem xa3 : RegIs s11r2.eq_1 := qa
theorem xa4 : RegIs s11r3.eq_1 := qa
theorem xa5 : RegIs s11r4.eq_1 := qa
theorem xa6 : RegIs s11r5.eq_1 := qa
theorem xa7 : RegIs s11r7.eq_1 := qa
attribute [go_sem] xa1 xa2 xa3 xa4 xa5 xa6 xa0 xa7 e11
theorem F11 : FnIs Try.prog 11 Try.f11 [] news s11 [.tmp 2] 20 := xg follows Try.func11
end
def SfTo (l : List OpS) (i : { i : Nat // i ≤ l.length }) : St :=
 ⟨[(0, true, .d (.sl 3 (l.map encOp))), (3, true, .own 0 3 ((l.take i.val).map encOp)), (4, true, .d (.int .i64 (i.val : Nat)))], [], [0], 1⟩
theorem q05 (l : List OpS) (hl : l.length ≤ 100000) (hv : ∀ o ∈ l, o.val.length ≤ 1000000) : ACall Try.prog 14 [.d (.sl 3 (l.map encOp))] [] (.d (.sl 3 (l.map encOp))) [] := by
 refine F14.go ?_
 try (refine ev ?_; try exact True.intro)
 refine ql (SfTo l) (fun i => l.length - i.val) ⟨0, Nat.zero_le _⟩ ?_ (fun i => ?_)
 ·try (refine ev2 @SfTo.eq_1 @List.take_zero.{0} ?_; try exact True.intro)
 obtain ⟨i, hi⟩ := i
 try (refine ev1 @SfTo.eq_1 ?_; try exact True.intro)
 (repeat (with_reducible refine ob ?_)); refine xt _ (fun h => ?_) (fun h => ?_)
 ·have hil : i < l.length := by simpa using h
  have hx := hv _ (List.getElem_mem hil)
  try (refine ev2 (qt encOp l hil) @encOp.eq_1 ?_; try exact True.intro)
  (repeat (with_reducible refine ob ?_))
  refine ⟨⟨i + 1, hil⟩, ?_, by dsimp only; omega⟩
  try (refine ev4 @SfTo.eq_1 (qak encOp l hil) @encOp.eq_1 (qk (show i < 9223372036854775807 by omega)) ?_; try exact True.intro)
 ·have hil : i = l.length := by
   have : l.length ≤ i := by simpa using h
   omega
  subst hil
  try (refine ev1 @List.take_length.{0} ?_; try exact True.intro)
theorem qi6 (m : Cont) (p : List UInt8) : (sList m p).length ≤ m.l.length := by
 rw [sList, (xf _).length_eq]
 simp only [preL, List.length_map]
 exact List.length_filter_le _ _
def Scon (s : Sto) (l : List En) (i : { i : Nat // i ≤ l.length }) : St :=
 ⟨[(5, true, .d (.sl 2 (l.map encEn))), (6, true, .own 0 2 ((l.take i.val).map encEn)), (7, true, .d (.int .i64 (i.val : Nat)))], [stoO s 1, mapO s.m], [0], 1⟩
theorem wj (s : Sto) (p : List UInt8) (n : Nat) (hs : s.Ok n) :
  ACall Try.prog 36 [.d (.ptr 0 0), .d (.str p)] [stoO s 1, mapO s.m] (.d (.sl 2 ((sList s.m p).map encEn))) [stoO s 1, mapO s.m] := by
 have hls := qqs s p hs.good.ok (by have := hs.good.few; omega) (fun x hx => by have := (hs.good.small x hx).2.2; omega)
 have hln := qi6 s.m p
 have hfew := hs.good.few
 refine F36.go ?_
 try (refine ev2 @stoO.eq_1 @mapO.eq_1 ?_; try exact True.intro)
 simp only [stoO, mapO] at hls
 (repeat (with_reducible refine ob ?_)); refine clO [0, 1] q96 (hls) ?_ (hfit := by first | exact ⟨qb, trivial⟩ | exact ⟨qb, qb, trivial⟩ | simp only [encOp, encEn, go_sem, Nat.reduceAdd, Nat.reduceMul, Nat.reduceSub, Nat.reduceEqDiff, Nat.reduceLT, Nat.reduceLeDiff, Nat.reduceBEq, reduceIte, reduceCtorEq, Int.reduceAdd, Int.reduceLT, Int.reduceLE, Int.reduceGT, Int.reduceGE, Int.reduceEq, Int.reduceNe, Int.reduceBEq, Int.reduceBNe, Int.reduceToNat, Int.reduceNeg])
 generalize sList s.m p = l at hln ⊢
 try (refine ev ?_; try exact True.intro)
 refine ql (Scon s l) (fun i => l.length - i.val) ⟨0, Nat.zero_le _⟩ ?_ (fun i => ?_)
 ·try (refine ev4 @Scon.eq_1 @List.take_zero.{0} @stoO.eq_1 @mapO.eq_1 ?_; try exact True.intro)
 obtain ⟨i, hi⟩ := i
 try (refine ev3 @Scon.eq_1 @stoO.eq_1 @mapO.eq_1 ?_; try exact True.intro)
 (repeat (with_reducible refine ob ?_)); refine xt _ (fun h => ?_) (fun h => ?_)
 ·have hil : i < l.length := by simpa using h
  try (refine ev2 (qt encEn l hil) @encEn.eq_1 ?_; try exact True.intro)
  (repeat (with_reducible refine ob ?_))
  refine ⟨⟨i + 1, hil⟩, ?_, by dsimp only; omega⟩
  try (refine ev6 @Scon.eq_1 @stoO.eq_1 @mapO.eq_1 (qak encEn l hil) @encEn.eq_1 (qk (show i < 9223372036854775807 by omega)) ?_; try exact True.intro)
 ·have hil : i = l.length := by
   have : l.length ≤ i := by simpa using h
   omega
  subst hil
  try (refine ev1 @List.take_length.{0} ?_; try exact True.intro)
def vSum (l : List OpS) : Nat := (l.map fun o => o.val.length).sum
def sFew (l : List OpS) : Bool := l.all (fun o => decide (o.key.length ≤ 100) && decide (o.val.length ≤ 1000)) && decide (l.length ≤ 30) && decide (vSum l ≤ 3000)
theorem qq0 (a b : Int) : IntKind.i64.wrap (IntKind.i64.wrap a + b) = IntKind.i64.wrap (a + b) := by
 simp only [IntKind.wrap, IntKind.bits, IntKind.signed, if_true]
 simp
 omega
theorem qq1 (l : List OpS) {i : Nat} (h : i < l.length) : vSum (l.take (i + 1)) = vSum (l.take i) + l[i].val.length := by
 unfold vSum
 rw [List.take_succ_eq_append_getElem h, List.map_append, List.sum_append]; simp
theorem qal {α : Type} {f : α → Bool} {l : List α} {i : Nat} (h : (l.take i).all f = true) (hil : i < l.length) (hf : f l[i] = true) : (l.take (i + 1)).all f = true := by
 rw [List.take_succ_eq_append_getElem hil, List.all_append, h]; simp [hf]
theorem qu1 {α : Type} {f : α → Bool} {l : List α} {i : Nat} (hil : i < l.length) (hf : f l[i] = false) : l.all f = false := by
 rw [List.all_eq_false]; exact ⟨l[i], List.getElem_mem hil, by simp [hf]⟩
theorem qwh (l : List OpS) : (l.all fun o => decide (o.key.length ≤ 100) && decide (o.val.length ≤ 1000)) = true → vSum l ≤ 1000 * l.length := by
 induction l with
 | nil => intro _; simp [vSum]
 | cons o l ih =>
  intro h
  simp only [List.all_cons, Bool.and_eq_true, decide_eq_true_eq] at h
  have := ih (by simpa using h.2)
  simp only [vSum, List.map_cons, List.sum_cons, List.length_cons] at this ⊢
  omega
def Sfew (l : List OpS) (i : { i : Nat // i ≤ l.length ∧ (l.take i).all (fun o => decide (o.key.length ≤ 100) && decide (o.val.length ≤ 1000)) = true }) : St :=
 ⟨[(0, true, .d (.sl 3 (l.map encOp))), (3, true, .d (.int .i64 (IntKind.i64.wrap (vSum (l.take i.val) : Nat)))), (4, true, .d (.int .i64 (i.val : Nat)))], [], [], 1⟩
theorem qu2 (l : List OpS) (hl : l.length ≤ maxLen) : ACall Try.prog 25 [.d (.sl 3 (l.map encOp))] [] (.d (.bool (sFew l))) [] := by
 have hl : l.length ≤ 9223372036854775807 := hl
 refine F25.go ?_
 try (refine ev ?_; try exact True.intro)
 refine ql (Sfew l) (fun i => l.length - i.val) ⟨0, Nat.zero_le _, rfl⟩ ?_ (fun i => ?_)
 ·have w0 : IntKind.i64.wrap 0 = 0 := rfl
  try (refine ev6 @Sfew.eq_1 @List.take_zero.{0} @vSum.eq_1 @List.sum_nil.{0} @Int.ofNat_zero @w0 ?_; try exact True.intro)
 obtain ⟨i, hi, ha⟩ := i
 try (refine ev1 @Sfew.eq_1 ?_; try exact True.intro)
 (repeat (with_reducible refine ob ?_)); refine xt _ (fun h => ?_) (fun h => ?_)
 ·have hil : i < l.length := by simpa using h
  try (refine ev2 (qt encOp l hil) @encOp.eq_1 ?_; try exact True.intro)
  refine ⟨by omega, fun h => ⟨h, h, by omega⟩, fun h => by rw [h]; rfl, ?_⟩
  have hd1 : decide ((l[i].key.length : Int) > 100) = !decide (l[i].key.length ≤ 100) := by rw [← decide_not]; exact decide_eq_decide.2 (by omega)
  have hd2 : decide ((l[i].val.length : Int) > 1000) = !decide (l[i].val.length ≤ 1000) := by rw [← decide_not]; exact decide_eq_decide.2 (by omega)
  have hd : (decide ((l[i].key.length : Int) > 100) || decide ((l[i].val.length : Int) > 1000)) = !(decide (l[i].key.length ≤ 100) && decide (l[i].val.length ≤ 1000)) := by rw [hd1, hd2, Bool.not_and]
  refine xt _ (fun h => ?_) (fun h => ?_)
  ·rw [hd, Bool.not_eq_true'] at h
   have : sFew l = false := by rw [sFew, qu1 hil h]; rfl
   try (refine ev1 @this ?_; try exact True.intro)
  ·rw [hd, Bool.not_eq_false'] at h
   try (refine ev2 (qt encOp l hil) @encOp.eq_1 ?_; try exact True.intro)
   (repeat (with_reducible refine ob ?_))
   refine ⟨⟨i + 1, hil, qal ha hil h⟩, ?_, by dsimp only; omega⟩
   try (refine ev4 @Sfew.eq_1 (qq1 l hil) @qq0 (qk (show i < 9223372036854775807 by omega)) ?_; try exact True.intro)
 ·have hil : i = l.length := by
   have : l.length ≤ i := by simpa using h
   omega
  subst hil
  rw [List.take_length] at ha
  have hv := qwh l ha
  try (refine ev3 @List.take_length.{0} @sFew.eq_1 @ha ?_; try exact True.intro)
  by_cases h30 : l.length ≤ 30
  ·rw [wrap_i64 (by omega) (by omega)]
   have e1 : decide ((l.length : Int) ≤ 30) = true := by simp; omega
   have e2 : decide (((vSum l : Nat) : Int) ≤ 3000) = decide (vSum l ≤ 3000) := decide_eq_decide.2 (by omega)
   simp only [e1, e2, h30, decide_true, Bool.true_and]
  ·have : decide ((l.length : Int) ≤ 30) = false := by simp; omega
   rw [this]
   simp [h30]
structure StepS where
 kind : Int
 ops : List OpS
 deriving DecidableEq, Inhabited
def encStep (x : StepS) : List D := [.int .i64 x.kind, .sl 3 (x.ops.map encOp)]
theorem qam (o : StepS) : D.noPtrL (encStep o) = true := by simp only [encStep, D.noPtrL, D.noPtr, zq, Bool.and_self]
theorem qlc (l : List StepS) : D.noPtrR (l.map encStep) = true := qo qam l
attribute [go_sem] qam qlc
def sFews (l : List StepS) : Bool := l.all (fun x => sFew x.ops) && decide (l.length ≤ 15)
def Sfews (l : List StepS) (i : { i : Nat // i ≤ l.length ∧ (l.take i).all (fun x => sFew x.ops) = true }) : St :=
 ⟨[(0, true, .d (.sl 2 (l.map encStep))), (3, true, .d (.int .i64 (i.val : Nat)))], [], [], 1⟩
theorem qq2 (l : List StepS) (hl : l.length ≤ maxLen) (hx : ∀ x ∈ l, x.ops.length ≤ maxLen) : ACall Try.prog 11 [.d (.sl 2 (l.map encStep))] [] (.d (.bool (sFews l))) [] := by
 have hl : l.length ≤ 9223372036854775807 := hl
 refine F11.go ?_
 try (refine ev ?_; try exact True.intro)
 refine ql (Sfews l) (fun i => l.length - i.val) ⟨0, Nat.zero_le _, rfl⟩ ?_ (fun i => ?_)
 ·try (refine ev1 @Sfews.eq_1 ?_; try exact True.intro)
 obtain ⟨i, hi, ha⟩ := i
 try (refine ev1 @Sfews.eq_1 ?_; try exact True.intro)
 (repeat (with_reducible refine ob ?_)); refine xt _ (fun h => ?_) (fun h => ?_)
 ·have hil : i < l.length := by simpa using h
  try (refine ev2 (qt encStep l hil) @encStep.eq_1 ?_; try exact True.intro)
  (repeat (with_reducible refine ob ?_))
  (repeat (with_reducible refine ob ?_)); first | refine cl F25 (qu2 l[i].ops (hx _ (List.getElem_mem hil))) ?_ | refine clF F25 (qu2 l[i].ops (hx _ (List.getElem_mem hil))) (fun _ => by simp only [encOp, encEn, go_sem, Nat.reduceAdd, Nat.reduceMul, Nat.reduceSub, Nat.reduceEqDiff, Nat.reduceLT, Nat.reduceLeDiff, Nat.reduceBEq, reduceIte, reduceCtorEq, Int.reduceAdd, Int.reduceLT, Int.reduceLE, Int.reduceGT, Int.reduceGE, Int.reduceEq, Int.reduceNe, Int.reduceBEq, Int.reduceBNe, Int.reduceToNat, Int.reduceNeg]) ?_
  try (refine ev ?_; try exact True.intro)
  (repeat (with_reducible refine ob ?_)); refine xt _ (fun h => ?_) (fun h => ?_)
  ·have : sFews l = false := by rw [sFews, qu1 hil (by simpa using h)]; rfl
   try (refine ev1 @this ?_; try exact True.intro)
  ·try (refine ev ?_; try exact True.intro)
   refine ⟨⟨i + 1, hil, qal ha hil (by simpa using h)⟩, ?_, by dsimp only; omega⟩
   try (refine ev2 @Sfews.eq_1 (qk (show i < 9223372036854775807 by omega)) ?_; try exact True.intro)
 ·have hil : i = l.length := by
   have : l.length ≤ i := by simpa using h
   omega
  subst hil
  rw [List.take_length] at ha
  have : sFews l = decide ((l.length : Int) ≤ 15) := by rw [sFews, ha, Bool.true_and]; exact decide_eq_decide.2 (by omega)
  try (refine ev1 @this ?_; try exact True.intro)
theorem qt9 {l : List OpS} (h : sFew l = true) : l.length ≤ 30 ∧ ∀ o ∈ l, o.key.length ≤ 100 ∧ o.val.length ≤ 1000 := by
 unfold sFew at h
 simp only [Bool.and_eq_true, List.all_eq_true, decide_eq_true_eq] at h
 exact ⟨h.1.2, fun o ho => h.1.1 o ho⟩
theorem qq3 {l : List StepS} (h : sFews l = true) : l.length ≤ 15 ∧ ∀ x ∈ l, sFew x.ops = true := by
 unfold sFews at h
 simp only [Bool.and_eq_true, List.all_eq_true, decide_eq_true_eq] at h
 exact ⟨h.2, h.1⟩
noncomputable section
set_option maxRecDepth 100000
def s10r0 : List SOper := [
 ⟨some 0, .mov (.k (.d (.bool false))), none⟩]
def s10r1 : List SOper := [
 ⟨some 5, .call (.k (.d (.func (.func 12) [] []))) [], none⟩,
 ⟨some 1, .mov (.t 5), none⟩]
def s10r2 : List SOper := [
 ⟨some 6, .mov (.t 1), none⟩,
 ⟨some 7, .buildSlice false 1 1 [(.int .u8 0)] [(0, 1, (.k (.d (.int .u8 1))))], none⟩,
 ⟨some 8, .build [(.str []), (.bool false), .nilsl] [(0, 1, (.k (.d (.str [97])))), (2, 1, (.t 7))], none⟩,
 ⟨some 9, .buildSlice false 1 1 [(.int .u8 0)] [(0, 1, (.k (.d (.int .u8 2))))], none⟩,
 ⟨some 10, .build [(.str []), (.bool false), .nilsl] [(0, 1, (.k (.d (.str [98])))), (2, 1, (.t 9))], none⟩,
 ⟨some 11, .buildSlice false 3 2 [(.str []), (.bool false), .nilsl] [(0, 3, (.t 8)), (3, 3, (.t 10))], none⟩,
 ⟨some 12, .call (.k (.d (.func (.func 13) [] []))) [(.t 6), (.t 11)], none⟩,
 ⟨some 2, .mov (.t 12), none⟩]
def s10r3 : List SOper := [
 ⟨some 13, .mov (.t 1), none⟩,
 ⟨some 14, .build [(.str []), (.bool false), .nilsl] [(0, 1, (.k (.d (.str [97])))), (1, 1, (.k (.d (.bool true))))], none⟩,
 ⟨some 15, .buildSlice false 3 1 [(.str []), (.bool false), .nilsl] [(0, 3, (.t 14))], none⟩,
 ⟨some 16, .call (.k (.d (.func (.func 13) [] []))) [(.t 13), (.t 15)], none⟩,
 ⟨some 3, .mov (.t 16), none⟩]
def s10r4 : List SOper := [
 ⟨some 17, .mov (.t 1), none⟩,
 ⟨some 18, .call (.k (.d (.func (.func 36) [] []))) [(.t 17), (.k (.d (.str [])))], none⟩,
 ⟨some 4, .mov (.t 18), none⟩]
def s10r5 : List SOper := [
 ⟨some 19, .mov (.t 2), none⟩,
 ⟨some 20, .bin .eql (.t 19) (.k (.d (.int .i64 0))), none⟩,
 ⟨some 21, .mov (.t 20), none⟩,
 ⟨some 22, .mov (.t 3), some (21, true)⟩,
 ⟨some 23, .bin .eql (.t 22) (.k (.d (.int .i64 0))), some (21, true)⟩,
 ⟨some 24, .pick (.t 21) (.t 23) (.k (.d (.bool false))), none⟩,
 ⟨some 25, .mov (.t 24), none⟩,
 ⟨some 26, .mov (.t 4), some (25, true)⟩,
 ⟨some 27, .len (.t 26), some (25, true)⟩,
 ⟨some 28, .bin .eql (.t 27) (.k (.d (.int .i64 1))), some (25, true)⟩,
 ⟨some 29, .pick (.t 25) (.t 28) (.k (.d (.bool false))), none⟩,
 ⟨some 30, .mov (.t 29), none⟩,
 ⟨some 31, .mov (.t 4), some (30, true)⟩,
 ⟨some 32, .iaddr 2 (.t 31) (.k (.d (.int .i64 0))), some (30, true)⟩,
 ⟨some 33, .faddr 0 (.t 32), some (30, true)⟩,
 ⟨some 34, .load none (.t 33), some (30, true)⟩,
 ⟨some 35, .bin .eql (.t 34) (.k (.d (.str [98]))), some (30, true)⟩,
 ⟨some 36, .pick (.t 30) (.t 35) (.k (.d (.bool false))), none⟩,
 ⟨some 37, .mov (.t 36), none⟩,
 ⟨some 38, .mov (.t 4), some (37, true)⟩,
 ⟨some 39, .iaddr 2 (.t 38) (.k (.d (.int .i64 0))), some (37, true)⟩,
 ⟨some 40, .faddr 1 (.t 39), some (37, true)⟩,
 ⟨some 41, .load none (.t 40), some (37, true)⟩,
 ⟨some 42, .b2s (.t 41), some (37, true)⟩,
 ⟨some 43, .bin .eql (.t 42) (.k (.d (.str [2]))), some (37, true)⟩,
 ⟨some 44, .pick (.t 37) (.t 43) (.k (.d (.bool false))), none⟩,
 ⟨some 0, .mov (.t 44), none⟩]
def s10 : SCode := (.seq (.region s10r0 0 []) (.seq (.region s10r1 2 []) (.seq (.region s10r2 1 []) (.seq (.region s10r3 1 []) (.seq (.region s10r4 0 []) (.seq (.region s10r5 0 []) .ret))))))
theorem e10 : CodeIs s10.eq_1 := qc s10.eq_1
theorem xa8 : RegIs s10r0.eq_1 := qa
theorem xa9 : RegIs s10r1.eq_1 := qa
theorem xba : RegIs s10r2.eq_1 := qa
theorem xbb : RegIs s10r3.eq_1 := qa
theorem xbc : RegIs s10r4.eq_1 := qa
theorem xbd : RegIs s10r5.eq_1 := qa
attribute [go_sem] xa8 xa9 xba xbb xbc xbd e10
theorem F10 : FnIs Try.prog 10 Try.f10 [] news s10 [.tmp 0] 45 := xg follows Try.func10
end
def ops1 : List OpS := [⟨[97], false, [1]⟩, ⟨[98], false, [2]⟩]
def ops2 : List OpS := [⟨[97], true, []⟩]
def st1 : Sto := (sCommit newS ops1).1
def st2 : Sto := (sCommit st1 ops2).1
theorem c1 : (sCommit newS ops1).2 = 0 := by decide +kernel
theorem c2 : (sCommit st1 ops2).2 = 0 := by decide +kernel
theorem c3 : sList st2.m [] = [([98], [2])] := by decide +kernel
theorem qgs : ACall Try.prog 12 [] [] (.d (.ptr 1 0)) [mapO newS.m, stoO newS 0] := q0o
theorem qfa : ACall Try.prog 10 [] [] (.d (.bool true)) [] := by
 have s1 : st1.Ok 1 := k7 (qgo 0) ops1
 have s2 : st2.Ok 2 := k7 s1 ops2
 have k0 := qgs
 have k1 := wg (by decide) (by decide) c1
 have k2 := wg (s := st1) (by decide) (by have := s1.file; omega) c2
 have k3 := wj st2 [] 2 s2
 rw [c3] at k3
 change ACall _ _ _ _ _ [stoO st1 2, mapO newS.m, mapO st1.m] at k1
 change ACall _ _ _ _ _ [stoO st2 2, mapO st1.m, mapO st2.m] at k2
 have o1 : ops1.map encOp = [[.str [97], .bool false, .sl 1 [[.int .u8 1]]], [.str [98], .bool false, .sl 1 [[.int .u8 2]]]] := rfl
 have o2 : ops2.map encOp = [[.str [97], .bool true, .sl 1 []]] := rfl
 have o3 : [(([98], [2]) : En)].map encEn = [[.str [98], .sl 1 [[.int .u8 2]]]] := rfl
 rw [o1] at k1; rw [o2] at k2; rw [o3] at k3
 clear s1 s2 o1 o2 o3
 generalize newS = s0, st1 = s1, st2 = s2 at k0 k1 k2 k3
 simp only [stoO, mapO] at k0 k1 k2 k3
 refine F10.go ?_
 try (refine ev ?_; try exact True.intro)
 refine clO [0, 1] F12 k0 ?_
 try (refine ev ?_; try exact True.intro)
 refine clO [1, 0, 2] F13 k1 ?_
 try (refine ev ?_; try exact True.intro)
 refine clO [1, 2, 3] F13 k2 ?_
 try (refine ev ?_; try exact True.intro)
 refine clO [1, 3] F36 k3 ?_
 try (refine ev ?_; try exact True.intro)
 exact ⟨⟨[2], rfl⟩, by decide⟩
end Go.Proofs.Ytinnaedmdoengaa
namespace Go.Proofs.Ytinnaedmdoengaa
open Go.Abs
set_option linter.unusedSimpArgs false
set_option linter.unusedVariables false
noncomputable section
set_option maxRecDepth 100000
def s172r0 : List SOper := [
 ⟨some 2, .mov (.k (.d (.bool false))), none⟩]
def s172r1 : List SOper := [
 ⟨some 3, .mov (.t 0), none⟩,
 ⟨some 4, .bin .neq (.t 3) (.k (.d (.int .u8 0))), none⟩,
 ⟨some 2, .mov (.t 4), none⟩]
def s172 : SCode := (.seq (.region s172r0 0 []) (.seq (.region s172r1 0 []) .ret))
theorem xgp : CodeIs s172.eq_1 := qc s172.eq_1
theorem q06 : RegIs s172r0.eq_1 := qa
theorem q07 : RegIs s172r1.eq_1 := qa
attribute [go_sem] q06 q07 xgp
theorem xfo : FnIs Try.prog 172 Try.f172 [] news s172 [.tmp 2] 5 := xg follows Try.func172
def s173r0 : List SOper := [
 ⟨some 4, .mov (.k (.d (.int .i64 0))), none⟩]
def s173r1 : List SOper := [
 ⟨some 6, .mov (.t 0), none⟩,
 ⟨some 7, .len (.t 6), none⟩,
 ⟨some 8, .mov (.k (.d (.int .i64 0))), none⟩]
def s173r2 : List SOper := [
 ⟨some 9, .bin .lss (.t 8) (.t 7), none⟩]
def s173r3 : List SOper := [
 ⟨some 10, .mov (.t 8), none⟩,
 ⟨some 5, .mov (.t 10), none⟩]
def s173r4 : List SOper := [
 ⟨some 11, .mov (.t 1), none⟩,
 ⟨some 12, .mov (.t 0), none⟩,
 ⟨some 13, .mov (.t 5), none⟩,
 ⟨some 14, .iaddr 1 (.t 12) (.t 13), none⟩,
 ⟨some 15, .load none (.t 14), none⟩,
 ⟨some 16, .call (.t 11) [(.t 15)], none⟩]
def s173r5 : List SOper := [
 ⟨some 17, .mov (.t 5), none⟩,
 ⟨some 4, .mov (.t 17), none⟩]
def s173r6 : List SOper := [
 ⟨some 18, .bin .add (.t 8) (.k (.d (.int .i64 1))), none⟩,
 ⟨some 8, .mov (.t 18), none⟩]
def s173l7 : SCode := (.seq (.region s173r2 0 []) (.seq (.cond (.t 9) .skip (.exit 0)) (.seq (.block 1 (.seq (.region s173r3 0 []) (.seq (.region s173r4 0 []) (.cond (.t 16) (.seq (.region s173r5 0 []) .ret) .skip)))) (.region s173r6 0 []))))
theorem q08 : CodeIs s173l7.eq_1 := qc s173l7.eq_1
def s173r8 : List SOper := [
 ⟨some 4, .mov (.k (.d (.int .i64 (-1)))), none⟩]
def s173 : SCode := (.seq (.region s173r0 0 []) (.seq (.seq (.region s173r1 0 []) (.block 0 (.loop s173l7))) (.seq (.region s173r8 0 []) .ret)))
theorem xgq : CodeIs s173.eq_1 := qc s173.eq_1
theorem q09 : RegIs s173r0.eq_1 := qa
theorem q1a : RegIs s173r1.eq_1 := qa
theorem q1b : RegIs s173r2.eq_1 := qa
theorem q1c : RegIs s173r3.eq_1 := qa
theorem q1d : RegIs s173r4.eq_1 := qa
theorem q1e : RegIs s173r5.eq_1 := qa
theorem q1f : RegIs s173r6.eq_1 := qa
theorem q1g : RegIs s173r8.eq_1 := qa
attribute [go_sem] q09 q1a q1b q1c q1d q1e q1f q08 q1g xgq
theorem xfp : FnIs Try.prog 173 Try.f173 [] news s173 [.tmp 4] 19 := xg follows Try.func173
def s171r0 : List SOper := [
 ⟨some 4, .mov (.k (.d (.bool false))), none⟩]
def s171r1 : List SOper := [
 ⟨some 5, .mov (.t 0), none⟩,
 ⟨some 6, .mov (.t 1), none⟩,
 ⟨some 7, .call (.k (.d (.func (.func 173) [] []))) [(.t 5), (.t 6)], none⟩,
 ⟨some 8, .bin .geq (.t 7) (.k (.d (.int .i64 0))), none⟩,
 ⟨some 4, .mov (.t 8), none⟩]
def s171 : SCode := (.seq (.region s171r0 0 []) (.seq (.region s171r1 0 []) .ret))
theorem xgr : CodeIs s171.eq_1 := qc s171.eq_1
theorem q1h : RegIs s171r0.eq_1 := qa
theorem q1i : RegIs s171r1.eq_1 := qa
attribute [go_sem] q1h q1i xgr
theorem xfq : FnIs Try.prog 171 Try.f171 [] news s171 [.tmp 4] 9 := xg follows Try.func171
def s167r0 : List SOper := [
 ⟨some 4, .mov (.k (.d (.bool false))), none⟩]
def s167r1 : List SOper := [
 ⟨some 7, .mov (.t 0), none⟩,
 ⟨some 8, .iaddr 1 (.t 7) (.k (.d (.int .i64 0))), none⟩,
 ⟨some 9, .load none (.t 8), none⟩,
 ⟨some 10, .mov (.t 0), none⟩,
 ⟨some 11, .iaddr 1 (.t 10) (.k (.d (.int .i64 1))), none⟩,
 ⟨some 12, .load none (.t 11), none⟩,
 ⟨some 13, .conv .i64 (.t 12), none⟩,
 ⟨some 5, .mov (.t 9), none⟩,
 ⟨some 6, .mov (.t 13), none⟩]
def s167r2 : List SOper := [
 ⟨some 15, .mov (.t 5), none⟩,
 ⟨some 16, .bin .neq (.t 15) (.k (.d (.int .u8 1))), none⟩,
 ⟨some 17, .mov (.t 16), none⟩,
 ⟨some 18, .mov (.t 5), some (17, true)⟩,
 ⟨some 19, .bin .neq (.t 18) (.k (.d (.int .u8 2))), some (17, true)⟩,
 ⟨some 20, .pick (.t 17) (.t 19) (.k (.d (.bool false))), none⟩,
 ⟨some 21, .mov (.t 20), none⟩,
 ⟨some 22, .mov (.t 6), some (21, false)⟩,
 ⟨some 23, .bin .gtr (.t 22) (.k (.d (.int .i64 22))), some (21, false)⟩,
 ⟨some 24, .pick (.t 21) (.k (.d (.bool true))) (.t 23), none⟩,
 ⟨some 25, .mov (.t 24), none⟩,
 ⟨some 26, .mov (.t 1), some (25, false)⟩,
 ⟨some 27, .mov (.t 6), some (25, false)⟩,
 ⟨some 28, .bin .add (.t 26) (.t 27), some (25, false)⟩,
 ⟨some 29, .bin .gtr (.t 28) (.k (.d (.int .i64 2000))), some (25, false)⟩,
 ⟨some 30, .pick (.t 25) (.k (.d (.bool true))) (.t 29), none⟩,
 ⟨some 14, .mov (.t 30), none⟩]
def s167r3 : List SOper := [
 ⟨some 4, .mov (.k (.d (.bool false))), none⟩]
def s167r4 : List SOper := [
 ⟨some 32, .mov (.t 5), none⟩,
 ⟨some 33, .bin .eql (.t 32) (.k (.d (.int .u8 1))), none⟩,
 ⟨some 34, .mov (.t 33), none⟩,
 ⟨some 35, .mov (.t 6), some (34, true)⟩,
 ⟨some 36, .bin .neq (.t 35) (.k (.d (.int .i64 22))), some (34, true)⟩,
 ⟨some 37, .pick (.t 34) (.t 36) (.k (.d (.bool false))), none⟩,
 ⟨some 38, .mov (.t 37), none⟩,
 ⟨some 39, .mov (.t 5), some (38, false)⟩,
 ⟨some 40, .bin .eql (.t 39) (.k (.d (.int .u8 2))), some (38, false)⟩,
 ⟨some 41, .mov (.t 40), some (38, false)⟩,
 ⟨some 42, .mov (.t 6), some (41, true)⟩,
 ⟨some 43, .bin .eql (.t 42) (.k (.d (.int .i64 0))), some (41, true)⟩,
 ⟨some 44, .pick (.t 41) (.t 43) (.k (.d (.bool false))), some (38, false)⟩,
 ⟨some 45, .mov (.t 44), some (38, false)⟩,
 ⟨some 46, .mov (.t 1), some (45, true)⟩,
 ⟨some 47, .bin .gtr (.t 46) (.k (.d (.int .i64 0))), some (45, true)⟩,
 ⟨some 48, .pick (.t 45) (.t 47) (.k (.d (.bool false))), some (38, false)⟩,
 ⟨some 49, .pick (.t 38) (.k (.d (.bool true))) (.t 48), none⟩,
 ⟨some 31, .mov (.t 49), none⟩]
def s167r5 : List SOper := [
 ⟨some 4, .mov (.k (.d (.bool false))), none⟩]
def s167r6 : List SOper := [
 ⟨some 50, .mov (.t 0), none⟩,
 ⟨some 51, .mov (.t 6), none⟩,
 ⟨some 52, .bin .add (.k (.d (.int .i64 2))) (.t 51), none⟩,
 ⟨some 53, .slice 1 (.t 50) (some (.t 52)) none none, none⟩,
 ⟨some 54, .call (.k (.d (.func (.func 171) [] []))) [(.t 53), (.k (.d (.func (.func 172) [] [])))], none⟩,
 ⟨some 55, .not (.t 54), none⟩,
 ⟨some 4, .mov (.t 55), none⟩]
def s167 : SCode := (.seq (.region s167r0 0 []) (.seq (.region s167r1 0 []) (.seq (.block 0 (.seq (.region s167r2 0 []) (.cond (.t 14) (.seq (.region s167r3 0 []) .ret) (.seq (.region s167r4 0 []) (.cond (.t 31) (.seq (.region s167r5 0 []) .ret) .skip))))) (.seq (.region s167r6 0 []) .ret))))
theorem xgs : CodeIs s167.eq_1 := qc s167.eq_1
theorem q1j : RegIs s167r0.eq_1 := qa
theorem q1k : RegIs s167r1.eq_1 := qa
theorem q1l : RegIs s167r2.eq_1 := qa
theorem q1m : RegIs s167r3.eq_1 := qa
theorem q1n : RegIs s167r4.eq_1 := qa
theorem q1o : RegIs s167r5.eq_1 := qa
theorem q1p : RegIs s167r6.eq_1 := qa
attribute [go_sem] q1j q1k q1l q1m q1n q1o q1p xgs
theorem xfr : FnIs Try.prog 167 Try.f167 [] news s167 [.tmp 4] 56 := xg follows Try.func167
def s64r0 : List SOper := [
 ⟨some 4, .mov (.k (.d (.bool false))), none⟩]
def s64r1 : List SOper := [
 ⟨some 5, .mov (.t 0), none⟩,
 ⟨some 6, .b2s (.t 5), none⟩,
 ⟨some 7, .mov (.t 1), none⟩,
 ⟨some 8, .b2s (.t 7), none⟩,
 ⟨some 9, .bin .eql (.t 6) (.t 8), none⟩,
 ⟨some 4, .mov (.t 9), none⟩]
def s64 : SCode := (.seq (.region s64r0 0 []) (.seq (.region s64r1 0 []) .ret))
theorem e64 : CodeIs s64.eq_1 := qc s64.eq_1
theorem xbe : RegIs s64r0.eq_1 := qa
theorem xbf : RegIs s64r1.eq_1 := qa
attribute [go_sem] xbe xbf e64
theorem F64 : FnIs Try.prog 64 Try.f64 [] news s64 [.tmp 4] 10 := xg follows Try.func64
def s152r0 : List SOper := [
 ⟨some 2, .mov (.k (.d (.int .i64 0))), none⟩]
def s152r1 : List SOper := [
 ⟨some 3, .mov (.t 0), none⟩,
 ⟨some 4, .len (.t 3), none⟩,
 ⟨some 5, .bin .eql (.t 4) (.k (.d (.int .i64 0))), none⟩]
def s152r2 : List SOper := [
 ⟨some 2, .mov (.k (.d (.int .i64 0))), none⟩]
def s152r3 : List SOper := [
 ⟨some 6, .mov (.t 0), none⟩,
 ⟨some 7, .mov (.t 0), none⟩,
 ⟨some 8, .len (.t 7), none⟩,
 ⟨some 9, .bin .sub (.t 8) (.k (.d (.int .i64 1))), none⟩,
 ⟨some 10, .iaddr 1 (.t 6) (.t 9), none⟩,
 ⟨some 11, .load none (.t 10), none⟩,
 ⟨some 2, .mov (.t 11), none⟩]
def s152 : SCode := (.seq (.region s152r0 0 []) (.seq (.seq (.region s152r1 0 []) (.cond (.t 5) (.seq (.region s152r2 0 []) .ret) .skip)) (.seq (.region s152r3 0 []) .ret)))
theorem xgt : CodeIs s152.eq_1 := qc s152.eq_1
theorem q1q : RegIs s152r0.eq_1 := qa
theorem q1r : RegIs s152r1.eq_1 := qa
theorem q1s : RegIs s152r2.eq_1 := qa
theorem q1t : RegIs s152r3.eq_1 := qa
attribute [go_sem] q1q q1r q1s q1t xgt
theorem xbg : FnIs Try.prog 152 Try.f152 [] news s152 [.tmp 2] 12 := xg follows Try.func152
end
theorem qob (c : UInt8) : ACall Try.prog 172 [.d (.int .u8 (c.toNat : Nat))] [] (.d (.bool (!(c == 0)))) [] := by
 have e : (((c.toNat : Nat) : Int) != 0) = !(c == 0) := by
  show (!(((c.toNat : Nat) : Int) == 0)) = !(c == 0)
  congr 1
  rw [Bool.eq_iff_iff]
  simp only [beq_iff_eq]
  constructor
  ·intro h
   apply UInt8.toNat_inj.1
   show c.toNat = 0
   omega
  ·rintro rfl; rfl
 refine xfo.go ?_
 try (refine ev1 @e ?_; try exact True.intro)
def SidxB (k : FuncId) (l : List UInt8) (f : UInt8 → Bool) (i : { i : Nat // (l.take i).any f = false }) : St :=
 ⟨[(0, true, .d (.sl 1 (byteRows l))), (1, true, .d (.func (.func k) [] [])), (7, true, .d (.int .i64 l.length)), (8, true, .d (.int .i64 (i.val : Nat)))], [], [], 1⟩
theorem qq4 {k : FuncId} {f : UInt8 → Bool} (hb : (Try.prog.funcs[k]?).any (fun fn => fn.body.isSome && !(fn.name == "runtime.NumGoroutine")) = true)
  (hf : ∀ v : UInt8, ACall Try.prog k [.d (.int .u8 (v.toNat : Nat))] [] (.d (.bool (f v))) []) (l : List UInt8) (hl : l.length ≤ maxLen) :
  ACall Try.prog 173 [.d (.sl 1 (byteRows l)), .d (.func (.func k) [] [])] [] (.d (.int .i64 (idx f l))) [] := by
 refine xfp.go ?_
 try (refine ev ?_; try exact True.intro)
 refine ql (SidxB k l f) (fun i => l.length - i.val) ⟨0, rfl⟩ ?_ (fun i => ?_)
 ·try (refine ev1 @SidxB.eq_1 ?_; try exact True.intro)
 obtain ⟨i, hi⟩ := i
 try (refine ev1 @SidxB.eq_1 ?_; try exact True.intro)
 (repeat (with_reducible refine ob ?_)); refine xt _ (fun h => ?_) (fun h => ?_)
 ·have hil : i < l.length := by simpa using h
  try (refine ev1 (qq l hil) ?_; try exact True.intro)
  (repeat (with_reducible refine ob ?_))
  refine qm (hf l[i]) hb (fun h => h) (fun _ => ⟨qb, trivial⟩) rfl rfl rfl ?_
  try (refine ev ?_; try exact True.intro)
  (repeat (with_reducible refine ob ?_)); refine xt _ (fun h => ?_) (fun h => ?_)
  ·try (refine ev1 (qaa hi hil h) ?_; try exact True.intro)
  ·try (refine ev ?_; try exact True.intro)
   refine ⟨⟨i + 1, zp hi hil (by simpa using h)⟩, ?_, by dsimp only; omega⟩
   try (refine ev2 @SidxB.eq_1 (qk (show i < 9223372036854775807 by unfold maxLen at hl; omega)) ?_; try exact True.intro)
 ·have hil : l.length ≤ i := by simpa using h
  try (refine ev1 (y9 hi hil) ?_; try exact True.intro)
theorem qi7 {k : FuncId} {f : UInt8 → Bool} (hb : (Try.prog.funcs[k]?).any (fun fn => fn.body.isSome && !(fn.name == "runtime.NumGoroutine")) = true)
  (hf : ∀ v : UInt8, ACall Try.prog k [.d (.int .u8 (v.toNat : Nat))] [] (.d (.bool (f v))) []) (l : List UInt8) (hl : l.length ≤ maxLen) :
  ACall Try.prog 171 [.d (.sl 1 (byteRows l)), .d (.func (.func k) [] [])] [] (.d (.bool (l.any f))) [] := by
 refine xfq.go ?_
 try (refine ev ?_; try exact True.intro)
 (repeat (with_reducible refine ob ?_)); refine cl xfp (qq4 hb hf l hl) ?_
 try (refine ev1 @qim ?_; try exact True.intro)
theorem qi8 : (Try.prog.funcs[172]?).any (fun fn => fn.body.isSome && !(fn.name == "runtime.NumGoroutine")) = true := xfo.body
theorem qq5 {h : List UInt8} (hl : 0 < h.length) : kindOf h = h[0].toNat := by simp [kindOf, List.getD_eq_getElem?_getD, hl]
theorem qu3 {h : List UInt8} (hl : 1 < h.length) : numB h = h[1].toNat := by simp [numB, List.getD_eq_getElem?_getD, hl]
theorem q1u (l : List UInt8) : l.any (fun c => !(c == 0)) = !l.all (fun c => c == 0) := by induction l <;> simp_all
theorem qi9 (h : List UInt8) (n : Nat) (hl : h.length = 24) (hn : n ≤ 100000) : ACall Try.prog 167 [.d (.sl 1 (byteRows h)), .d (.int .i64 n)] [] (.d (.bool (cProper h n))) [] := by
 have h0 : 0 < h.length := by omega
 have h1 : 1 < h.length := by omega
 have hk := qq5 h0
 have hm := qu3 h1
 have l0 := kc h[0]
 have l1 := kc h[1]
 refine xfr.go ?_
 try (refine ev3 (qq h h0) (qq h h1) (qu (n := (h[1].toNat : Int)) (by unfold I64; omega)) ?_; try exact True.intro)
 rw [← hk, ← hm]
 rw [← hk] at l0
 rw [← hm] at l1
 (repeat (with_reducible refine ob ?_))
 generalize hkk : kindOf h = k at *
 generalize hmm : numB h = m at *
 have w1 : IntKind.i64.wrap ((n : Int) + (m : Int)) = ((n + m : Nat) : Int) := by rw [qu (by unfold I64; omega)]; omega
 have w2 : IntKind.i64.wrap (2 + (m : Int)) = ((2 + m : Nat) : Int) := by rw [qu (by unfold I64; omega)]; omega
 try (refine ev2 @w1 @w2 ?_; try exact True.intro)
 refine xt _ (fun hc => ?_) (fun hc => ?_)
 ·have hb : cProper h n = false := by
   rw [Bool.eq_false_iff]; intro hp
   obtain ⟨a1, a2, a3, a4, a5, a6⟩ := ja.1 hp
   rw [hkk] at a1; rw [hmm] at a2 a3
   simp only [Bool.or_eq_true, Bool.and_eq_true, decide_eq_true_eq, bne_iff_ne] at hc; omega
  try (refine ev1 @hb ?_; try exact True.intro)
 have hc1 : (k = 1 ∨ k = 2) ∧ m ≤ 22 ∧ n + m ≤ 2000 := by
  simp only [Bool.or_eq_false_iff, Bool.and_eq_false_iff, decide_eq_false_iff_not, bne_eq_false_iff_eq] at hc; omega
 try (refine ev ?_; try exact True.intro)
 (repeat (with_reducible refine ob ?_))
 refine xt _ (fun hd => ?_) (fun hd => ?_)
 ·have hb : cProper h n = false := by
   rw [Bool.eq_false_iff]; intro hp
   obtain ⟨a1, a2, a3, a4, a5, a6⟩ := ja.1 hp
   rw [hkk] at a4 a5; rw [hmm] at a4 a5
   simp only [Bool.or_eq_true, Bool.and_eq_true, decide_eq_true_eq, bne_iff_ne, beq_iff_eq] at hd; omega
  try (refine ev1 @hb ?_; try exact True.intro)
 have hb : cProper h n = (h.drop (2 + m)).all (fun c => c == 0) := by
  rw [Bool.eq_iff_iff, ja, hkk, hmm]
  simp only [Bool.or_eq_false_iff, Bool.and_eq_false_iff, decide_eq_false_iff_not, bne_eq_false_iff_eq, beq_eq_false_iff_ne] at hd
  exact ⟨fun x => x.2.2.2.2.2, fun x => ⟨hc1.1, hc1.2.1, hc1.2.2, by omega, by omega, x⟩⟩
 have hx : ((byteRows h).drop (2 + m)).take (h.length - (2 + m)) = byteRows (h.drop (2 + m)) := by rw [xp, qx, List.take_of_length_le (by rw [List.length_drop]; omega)]
 have e2 : (2 + (m : Int)).toNat = 2 + m := by omega
 try (refine ev3 @w2 @e2 @hx ?_; try exact True.intro)
 refine ⟨by omega, ?_⟩
 (repeat (with_reducible refine ob ?_)); refine cl xfq (qi7 qi8 qob (h.drop (2 + m)) (by rw [List.length_drop]; unfold maxLen; omega)) ?_
 try (refine ev2 @q1u @hb ?_; try exact True.intro)
theorem qq6 (a b : List UInt8) : ACall Try.prog 64 [.d (.ref 0 0 1 a.length), .d (.sl 1 (byteRows b))] [.row ((a.map byteD).map .d)] (.d (.bool (a == b))) [.row ((a.map byteD).map .d)] := by
 refine F64.go ?_
 try (refine ev ?_; try exact True.intro)
 rw [Nat.mul_one, qa3 (s := a) rfl rfl, List.take_of_length_le (by simp)]
 exact ⟨⟨⟨Nat.le_refl _, ye a⟩, a, rfl⟩, by rw [wt]⟩
theorem q6d (a b : List UInt8) : ACall Try.prog 64 [.d (.sl 1 (byteRows a)), .d (.sl 1 (byteRows b))] [] (.d (.bool (a == b))) [] := by
 refine F64.go ?_
 try (refine ev ?_; try exact True.intro)
def endRows (l : List Nat) : List (List D) := l.map fun n => [.int .i64 (n : Nat)]
theorem qq7 (l : List Nat) (hl : l.length ≤ 1000000000) : ACall Try.prog 152 [.d (.sl 1 (endRows l))] [] (.d (.int .i64 (l.getLastD 0 : Nat))) [] := by
 refine xbg.go ?_
 try (refine ev ?_; try exact True.intro)
 have hel : (endRows l).length = l.length := by simp [endRows]
 refine xt _ (fun hc => ?_) (fun hc => ?_)
 ·have : l = [] := by simpa [hel] using hc
  subst this
  try (refine ev2 @List.getLastD_nil.{0} @Int.ofNat_zero ?_; try exact True.intro)
 ·have hne : 0 < l.length := by simp only [hel, beq_eq_false_iff_ne] at hc; omega
  have e1 : IntKind.i64.wrap (((endRows l).length : Int) - 1) = ((l.length - 1 : Nat) : Int) := by rw [hel, qu (by unfold I64; omega)]; omega
  have e2 : (endRows l).getD (l.length - 1) [] = [.int .i64 (l.getLastD 0 : Nat)] := by
   rw [endRows, qt (fun n : Nat => [D.int .i64 (n : Int)]) l (by omega) [], List.getLastD_eq_getLast?, List.getLast?_eq_getElem?, List.getElem?_eq_getElem (by omega)]
   rfl
  try (refine ev3 @e1 @Int.toNat_natCast @e2 ?_; try exact True.intro)
  rw [hel]
  omega
end Go.Proofs.Ytinnaedmdoengaa
namespace Go.Proofs.Ytinnaedmdoengaa
open Go.Abs
set_option linter.unusedSimpArgs false
set_option linter.unusedVariables false
noncomputable section
set_option maxRecDepth 100000
def s151r0 : List SOper := [
 ⟨some 2, .mov (.k (.d .nilsl)), none⟩,
 ⟨some 3, .mov (.k (.d .nilsl)), none⟩,
 ⟨some 4, .mov (.k (.d (.int .i64 0))), none⟩]
def s151r1 : List SOper := [
 ⟨some 5, .mov (.k (.d (.int .u64 14695981039346656037))), none⟩]
def s151r2 : List SOper := [
 ⟨some 6, .mov (.k (.d .nilsl)), none⟩]
def s151r3 : List SOper := [
 ⟨some 7, .mov (.k (.d (.int .i64 0))), none⟩]
def s151r4 : List SOper := [
 ⟨some 11, .mov (.t 7), none⟩,
 ⟨some 12, .bin .add (.t 11) (.k (.d (.int .i64 32))), none⟩,
 ⟨some 13, .mov (.t 0), none⟩,
 ⟨some 14, .len (.t 13), none⟩,
 ⟨some 15, .bin .leq (.t 12) (.t 14), none⟩]
def s151r5 : List SOper := [
 ⟨some 16, .mov (.t 0), none⟩,
 ⟨some 17, .mov (.t 7), none⟩,
 ⟨some 18, .mov (.t 7), none⟩,
 ⟨some 19, .bin .add (.t 18) (.k (.d (.int .i64 24))), none⟩,
 ⟨some 20, .slice 1 (.t 16) (some (.t 17)) (some (.t 19)) none, none⟩,
 ⟨some 8, .mov (.t 20), none⟩]
def s151r6 : List SOper := [
 ⟨some 22, .mov (.t 5), none⟩,
 ⟨some 23, .mov (.t 8), none⟩,
 ⟨some 24, .call (.k (.d (.func (.func 94) [] []))) [(.t 22), (.t 23)], none⟩,
 ⟨some 21, .mov (.t 24), none⟩,
 ⟨some 25, .extract 0 (.t 21), none⟩,
 ⟨some 26, .extract 1 (.t 21), none⟩,
 ⟨some 10, .alloc 1 [(.d (.int .u8 0)), (.d (.int .u8 0)), (.d (.int .u8 0)), (.d (.int .u8 0)), (.d (.int .u8 0)), (.d (.int .u8 0)), (.d (.int .u8 0)), (.d (.int .u8 0))], none⟩,
 ⟨some 9, .mov (.t 25), none⟩,
 ⟨none, .store (some 8) (.t 10) (.t 26), none⟩]
def s151r7 : List SOper := [
 ⟨some 27, .sliceA 8 1 (.t 10) none none none, none⟩,
 ⟨some 28, .mov (.t 0), none⟩,
 ⟨some 29, .mov (.t 7), none⟩,
 ⟨some 30, .bin .add (.t 29) (.k (.d (.int .i64 24))), none⟩,
 ⟨some 31, .mov (.t 7), none⟩,
 ⟨some 32, .bin .add (.t 31) (.k (.d (.int .i64 32))), none⟩,
 ⟨some 33, .slice 1 (.t 28) (some (.t 30)) (some (.t 32)) none, none⟩,
 ⟨some 34, .call (.k (.d (.func (.func 64) [] []))) [(.t 27), (.t 33)], none⟩,
 ⟨some 35, .not (.t 34), none⟩]
def s151r8 : List SOper := [
 ⟨some 36, .mov (.t 2), none⟩,
 ⟨some 37, .mov (.t 3), none⟩,
 ⟨some 2, .mov (.t 36), none⟩,
 ⟨some 3, .mov (.t 37), none⟩,
 ⟨some 4, .mov (.k (.d (.int .i64 5))), none⟩]
def s151r9 : List SOper := [
 ⟨some 38, .mov (.t 8), none⟩,
 ⟨some 39, .mov (.t 6), none⟩,
 ⟨some 40, .len (.t 39), none⟩,
 ⟨some 41, .call (.k (.d (.func (.func 167) [] []))) [(.t 38), (.t 40)], none⟩,
 ⟨some 42, .not (.t 41), none⟩]
def s151r10 : List SOper := [
 ⟨some 43, .mov (.t 2), none⟩,
 ⟨some 44, .mov (.t 3), none⟩,
 ⟨some 2, .mov (.t 43), none⟩,
 ⟨some 3, .mov (.t 44), none⟩,
 ⟨some 4, .mov (.k (.d (.int .i64 4))), none⟩]
def s151r11 : List SOper := [
 ⟨some 45, .mov (.t 6), none⟩,
 ⟨some 46, .mov (.t 8), none⟩,
 ⟨some 47, .mov (.t 8), none⟩,
 ⟨some 48, .iaddr 1 (.t 47) (.k (.d (.int .i64 1))), none⟩,
 ⟨some 49, .load none (.t 48), none⟩,
 ⟨some 50, .conv .i64 (.t 49), none⟩,
 ⟨some 51, .bin .add (.k (.d (.int .i64 2))) (.t 50), none⟩,
 ⟨some 52, .slice 1 (.t 46) (some (.k (.d (.int .i64 2)))) (some (.t 51)) none, none⟩,
 ⟨some 53, .append false 1 1 (.t 45) (.t 52), none⟩,
 ⟨some 6, .mov (.t 53), none⟩]
def s151r12 : List SOper := [
 ⟨some 54, .mov (.t 7), none⟩,
 ⟨some 55, .bin .add (.t 54) (.k (.d (.int .i64 32))), none⟩,
 ⟨some 56, .mov (.t 9), none⟩,
 ⟨some 7, .mov (.t 55), none⟩,
 ⟨some 5, .mov (.t 56), none⟩]
def s151r13 : List SOper := [
 ⟨some 57, .mov (.t 8), none⟩,
 ⟨some 58, .iaddr 1 (.t 57) (.k (.d (.int .i64 0))), none⟩,
 ⟨some 59, .load none (.t 58), none⟩,
 ⟨some 60, .bin .eql (.t 59) (.k (.d (.int .u8 2))), none⟩]
def s151r14 : List SOper := [
 ⟨some 61, .mov (.t 2), none⟩,
 ⟨some 62, .buildSlice false 1 0 [(.int .u8 0)] [], none⟩,
 ⟨some 63, .mov (.t 6), none⟩,
 ⟨some 64, .append false 1 1 (.t 62) (.t 63), none⟩,
 ⟨some 65, .buildSlice false 1 1 [.nilsl] [(0, 1, (.t 64))], none⟩,
 ⟨some 66, .append false 1 24 (.t 61) (.t 65), none⟩,
 ⟨some 67, .mov (.t 3), none⟩,
 ⟨some 68, .mov (.t 7), none⟩,
 ⟨some 69, .buildSlice false 1 1 [(.int .i64 0)] [(0, 1, (.t 68))], none⟩,
 ⟨some 70, .append false 1 8 (.t 67) (.t 69), none⟩,
 ⟨some 2, .mov (.t 66), none⟩,
 ⟨some 3, .mov (.t 70), none⟩,
 ⟨some 6, .mov (.k (.d .nilsl)), none⟩]
def s151l15 : SCode := (.seq (.seq (.region s151r4 0 []) (.cond (.t 15) .skip (.exit 0))) (.block 1 (.seq (.region s151r5 0 []) (.seq (.region s151r6 1 []) (.seq (.seq (.region s151r7 0 []) (.cond (.t 35) (.seq (.region s151r8 0 []) .ret) .skip)) (.seq (.seq (.region s151r9 0 []) (.cond (.t 42) (.seq (.region s151r10 0 []) .ret) .skip)) (.seq (.region s151r11 0 []) (.seq (.region s151r12 0 []) (.seq (.region s151r13 0 []) (.cond (.t 60) (.region s151r14 0 []) .skip))))))))))
theorem qwi : CodeIs s151l15.eq_1 := qc s151l15.eq_1
def s151r16 : List SOper := [
 ⟨some 71, .mov (.t 3), none⟩,
 ⟨some 72, .call (.k (.d (.func (.func 152) [] []))) [(.t 71)], none⟩,
 ⟨some 73, .mov (.t 0), none⟩,
 ⟨some 74, .len (.t 73), none⟩,
 ⟨some 75, .bin .neq (.t 72) (.t 74), none⟩]
def s151r17 : List SOper := [
 ⟨some 76, .mov (.t 2), none⟩,
 ⟨some 77, .mov (.t 3), none⟩,
 ⟨some 2, .mov (.t 76), none⟩,
 ⟨some 3, .mov (.t 77), none⟩,
 ⟨some 4, .mov (.k (.d (.int .i64 4))), none⟩]
def s151r18 : List SOper := [
 ⟨some 78, .mov (.t 2), none⟩,
 ⟨some 79, .mov (.t 3), none⟩,
 ⟨some 2, .mov (.t 78), none⟩,
 ⟨some 3, .mov (.t 79), none⟩,
 ⟨some 4, .mov (.k (.d (.int .i64 0))), none⟩]
def s151 : SCode := (.seq (.region s151r0 0 []) (.seq (.region s151r1 0 []) (.seq (.region s151r2 0 []) (.seq (.region s151r3 0 []) (.seq (.block 0 (.loop s151l15)) (.seq (.seq (.region s151r16 0 []) (.cond (.t 75) (.seq (.region s151r17 0 []) .ret) .skip)) (.seq (.region s151r18 0 []) .ret)))))))
theorem xgu : CodeIs s151.eq_1 := qc s151.eq_1
theorem q1v : RegIs s151r0.eq_1 := qa
theorem q1w : RegIs s151r1.eq_1 := qa
theorem q1x : RegIs s151r2.eq_1 := qa
theorem q1y : RegIs s151r3.eq_1 := qa
theorem q1z : RegIs s151r4.eq_1 := qa
theorem q11 : RegIs s151r5.eq_1 := qa
theorem q12 : RegIs s151r6.eq_1 := qa
theorem q13 : RegIs s151r7.eq_1 := qa
theorem q14 : RegIs s151r8.eq_1 := qa
theorem q15 : RegIs s151r9.eq_1 := qa
theorem qwj : RegIs s151r10.eq_1 := qa
theorem qwk : RegIs s151r11.eq_1 := qa
theorem qwl : RegIs s151r12.eq_1 := qa
theorem qwm : RegIs s151r13.eq_1 := qa
theorem qwn : RegIs s151r14.eq_1 := qa
theorem qwo : RegIs s151r16.eq_1 := qa
theorem qwp : RegIs s151r17.eq_1 := qa
theorem qwq : RegIs s151r18.eq_1 := qa
attribute [go_sem] q1v q1w q1x q1y q1z q11 q12 q13 q14 q15 qwj qwk qwl qwm qwn qwi qwo qwp qwq xgu
theorem xfs : FnIs Try.prog 151 Try.f151 [] news s151 [.tmp 2, .tmp 3, .tmp 4] 80 := xg follows Try.func151
def s121r0 : List SOper := [
 ⟨some 2, .mov (.k (.d .nilsl)), none⟩,
 ⟨some 3, .mov (.k (.d (.int .i64 0))), none⟩,
 ⟨some 4, .mov (.k (.d (.int .i64 0))), none⟩]
def s121r1 : List SOper := [
 ⟨some 7, .mov (.t 0), none⟩,
 ⟨some 8, .call (.k (.d (.func (.func 151) [] []))) [(.t 7)], none⟩,
 ⟨some 6, .mov (.t 8), none⟩,
 ⟨some 9, .extract 0 (.t 6), none⟩,
 ⟨some 10, .extract 1 (.t 6), none⟩,
 ⟨some 11, .extract 2 (.t 6), none⟩,
 ⟨some 2, .mov (.t 9), none⟩,
 ⟨some 5, .mov (.t 10), none⟩,
 ⟨some 4, .mov (.t 11), none⟩]
def s121r2 : List SOper := [
 ⟨some 12, .mov (.t 2), none⟩,
 ⟨some 13, .mov (.t 5), none⟩,
 ⟨some 14, .call (.k (.d (.func (.func 152) [] []))) [(.t 13)], none⟩,
 ⟨some 15, .mov (.t 4), none⟩,
 ⟨some 2, .mov (.t 12), none⟩,
 ⟨some 3, .mov (.t 14), none⟩,
 ⟨some 4, .mov (.t 15), none⟩]
def s121 : SCode := (.seq (.region s121r0 0 []) (.seq (.region s121r1 0 []) (.seq (.region s121r2 0 []) .ret)))
theorem xgv : CodeIs s121.eq_1 := qc s121.eq_1
theorem q16 : RegIs s121r0.eq_1 := qa
theorem q17 : RegIs s121r1.eq_1 := qa
theorem q18 : RegIs s121r2.eq_1 := qa
attribute [go_sem] q16 q17 q18 xgv
theorem xft : FnIs Try.prog 121 Try.f121 [] news s121 [.tmp 2, .tmp 3, .tmp 4] 16 := xg follows Try.func121
def s90r0 : List SOper := [
 ⟨some 2, .alloc 1 [(.d .nilsl), (.d (.int .i64 0))], none⟩,
 ⟨some 3, .mov (.k (.d .nilsl)), none⟩]
def s90r1 : List SOper := [
 ⟨some 8, .mov (.t 0), none⟩,
 ⟨some 9, .call (.k (.d (.func (.func 121) [] []))) [(.t 8)], none⟩,
 ⟨some 7, .mov (.t 9), none⟩,
 ⟨some 10, .extract 0 (.t 7), none⟩,
 ⟨some 11, .extract 1 (.t 7), none⟩,
 ⟨some 12, .extract 2 (.t 7), none⟩,
 ⟨some 4, .mov (.t 10), none⟩,
 ⟨some 5, .mov (.t 11), none⟩,
 ⟨some 6, .mov (.t 12), none⟩]
def s90r2 : List SOper := [
 ⟨some 13, .mov (.t 0), none⟩,
 ⟨some 14, .mov (.t 5), none⟩,
 ⟨some 15, .slice 1 (.t 13) none (some (.t 14)) none, none⟩,
 ⟨some 16, .call (.k (.d (.func (.func 43) [] []))) [(.t 15)], none⟩,
 ⟨some 17, .mov (.t 5), none⟩,
 ⟨some 18, .build [.nilsl, (.int .i64 0)] [(0, 1, (.t 16)), (1, 1, (.t 17))], none⟩,
 ⟨some 19, .mov (.t 4), none⟩,
 ⟨none, .store (some 2) (.t 2) (.t 18), none⟩,
 ⟨some 3, .mov (.t 19), none⟩]
def s90 : SCode := (.seq (.region s90r0 1 []) (.seq (.region s90r1 0 []) (.seq (.region s90r2 0 []) .ret)))
theorem e90 : CodeIs s90.eq_1 := qc s90.eq_1
theorem xbh : RegIs s90r0.eq_1 := qa
theorem xbi : RegIs s90r1.eq_1 := qa
theorem xbj : RegIs s90r2.eq_1 := qa
attribute [go_sem] xbh xbi xbj e90
theorem F90 : FnIs Try.prog 90 Try.f90 [] news s90 [.cell 2 (some 2), .tmp 3] 20 := xg follows Try.func90
end
def recRows (l : List (List UInt8)) : List (List D) := l.map fun r => [.sl 1 (byteRows r)]
theorem qgt (l : List (List UInt8)) : D.noPtrR (recRows l) = true := qo (fun r => by simp only [D.noPtrL, D.noPtr, xw, Bool.and_self]) l
theorem qld (l : List (List UInt8)) : (recRows l).length = l.length := by simp [recRows]
theorem qle : recRows [] = [] := rfl
theorem qja (l : List (List UInt8)) (r : List UInt8) : recRows l ++ [[.sl 1 (byteRows r)]] = recRows (l ++ [r]) := by simp [recRows]
theorem qgu (l : List Nat) : D.noPtrR (endRows l) = true := qo (fun _ => rfl) l
theorem qlf (l : List Nat) : (endRows l).length = l.length := by simp [endRows]
theorem qlg : endRows [] = [] := rfl
theorem qu4 (l : List Nat) (n : Nat) : endRows l ++ [[.int .i64 (n : Nat)]] = endRows (l ++ [n]) := by simp [endRows]
attribute [go_sem] qgt qld qle qgu qlf qlg
def Sread (b : List UInt8) (s : Rds) : St :=
 ⟨[(0, true, .d (.sl 1 (byteRows b))), (2, true, .own 0 1 (recRows s.recs)), (3, true, .own 1 1 (endRows s.ends)), (4, true, .d (.int .i64 0)), (5, true, .d (.int .u64 (s.seed : Nat))), (6, true, .own 2 1 (byteRows s.now)), (7, true, .d (.int .i64 (s.pos : Nat)))], [], [0, 1, 2], 1⟩
set_option maxRecDepth 10000 in
theorem qwr (b : List UInt8) (hb : b.length ≤ 1000000000) : ACall Try.prog 151 [.d (.sl 1 (byteRows b))] [] (.tup [.d (.sl 1 (recRows (wRead b rds0).1.recs)), .d (.sl 1 (endRows (wRead b rds0).1.ends)), .d (.int .i64 (wRead b rds0).2)]) [] := by
 refine xfs.goT ?_
 try (refine ev ?_; try exact True.intro)
 refine ql (fun i : { s : Rds // s.Ok b ∧ wRead b s = wRead b rds0 } => Sread b i.val) (fun i => b.length - i.val.pos) ⟨rds0, yg b, rfl⟩ ?_ (fun i => ?_)
 ·try simp only [Sread, rds0, basis, Int.ofNat_zero, qj, go_sem, Nat.reduceAdd, Nat.reduceMul, Nat.reduceSub, Nat.reduceEqDiff, Nat.reduceLT, Nat.reduceLeDiff, Nat.reduceBEq, reduceIte, reduceCtorEq, Int.reduceAdd, Int.reduceLT, Int.reduceLE, Int.reduceGT, Int.reduceGE, Int.reduceEq, Int.reduceNe, Int.reduceBEq, Int.reduceBNe, Int.reduceToNat, Int.reduceNeg]
 obtain ⟨s, hs, hx⟩ := i
 obtain ⟨q1, q2, q3, q4, q5, q6, q7⟩ := hs
 have w1 : IntKind.i64.wrap ((s.pos : Int) + 32) = ((s.pos + 32 : Nat) : Int) := by rw [qu (by unfold I64; omega)]; omega
 have w2 : IntKind.i64.wrap ((s.pos : Int) + 24) = ((s.pos + 24 : Nat) : Int) := by rw [qu (by unfold I64; omega)]; omega
 try simp only [Sread, w1, go_sem, Nat.reduceAdd, Nat.reduceMul, Nat.reduceSub, Nat.reduceEqDiff, Nat.reduceLT, Nat.reduceLeDiff, Nat.reduceBEq, reduceIte, reduceCtorEq, Int.reduceAdd, Int.reduceLT, Int.reduceLE, Int.reduceGT, Int.reduceGE, Int.reduceEq, Int.reduceNe, Int.reduceBEq, Int.reduceBNe, Int.reduceToNat, Int.reduceNeg]
 refine xt _ (fun hc => ?_) (fun hc => ?_)
 ·have hil : s.pos + 32 ≤ b.length := by simp at hc; omega
  have hh : (headAt b s.pos).length = 24 := by rw [headAt, List.length_take, List.length_drop]; omega
  have e1 : ((s.pos : Int) + 24).toNat - s.pos = 24 := by omega
  have e2 : ((s.pos : Int) + 32).toNat - ((s.pos : Int) + 24).toNat = 8 := by omega
  have e5 : ((s.pos : Int) + 24).toNat = s.pos + 24 := by omega
  have e3 : ((byteRows b).drop s.pos).take 24 = byteRows (headAt b s.pos) := by rw [xp, qx]; rfl
  have e4 : ((byteRows b).drop (s.pos + 24)).take 8 = byteRows (sumAt b s.pos) := by rw [xp, qx]; rfl
  try simp only [w2, e1, e2, e3, e4, Int.toNat_natCast, go_sem, Nat.reduceAdd, Nat.reduceMul, Nat.reduceSub, Nat.reduceEqDiff, Nat.reduceLT, Nat.reduceLeDiff, Nat.reduceBEq, reduceIte, reduceCtorEq, Int.reduceAdd, Int.reduceLT, Int.reduceLE, Int.reduceGT, Int.reduceGE, Int.reduceEq, Int.reduceNe, Int.reduceBEq, Int.reduceBNe, Int.reduceToNat, Int.reduceNeg]
  (repeat (with_reducible refine ob ?_))
  (repeat (with_reducible refine ob ?_)); refine cl F94 (qty s.seed (headAt b s.pos) q2 (by omega)) ?_
  try simp only [qiu, e1, e2, e4, e5, go_sem, Nat.reduceAdd, Nat.reduceMul, Nat.reduceSub, Nat.reduceEqDiff, Nat.reduceLT, Nat.reduceLeDiff, Nat.reduceBEq, reduceIte, reduceCtorEq, Int.reduceAdd, Int.reduceLT, Int.reduceLE, Int.reduceGT, Int.reduceGE, Int.reduceEq, Int.reduceNe, Int.reduceBEq, Int.reduceBNe, Int.reduceToNat, Int.reduceNeg]
  have hq := qq6 (be8 (fnv s.seed (headAt b s.pos))) (sumAt b s.pos)
  rw [xx] at hq
  have e4b : ((byteRows b).drop ((s.pos : Int) + 24).toNat).take 8 = byteRows (sumAt b s.pos) := by rw [e5]; exact e4
  try simp only [w1, w2, xx, e2, e4b, go_sem, Nat.reduceAdd, Nat.reduceMul, Nat.reduceSub, Nat.reduceEqDiff, Nat.reduceLT, Nat.reduceLeDiff, Nat.reduceBEq, reduceIte, reduceCtorEq, Int.reduceAdd, Int.reduceLT, Int.reduceLE, Int.reduceGT, Int.reduceGE, Int.reduceEq, Int.reduceNe, Int.reduceBEq, Int.reduceBNe, Int.reduceToNat, Int.reduceNeg]
  refine ⟨by omega, ?_⟩
  refine clO [0] F64 hq ?_
  try (refine ev ?_; try exact True.intro)
  refine xt _ (fun hd => ?_) (fun hd => ?_)
  ·have he : cErr b s = some 5 := by
    unfold cErr
    rw [if_neg (by simpa using hd)]
   have hr := hx.symm.trans (qdf hil he)
   try simp only [hr, go_sem, Nat.reduceAdd, Nat.reduceMul, Nat.reduceSub, Nat.reduceEqDiff, Nat.reduceLT, Nat.reduceLeDiff, Nat.reduceBEq, reduceIte, reduceCtorEq, Int.reduceAdd, Int.reduceLT, Int.reduceLE, Int.reduceGT, Int.reduceGE, Int.reduceEq, Int.reduceNe, Int.reduceBEq, Int.reduceBNe, Int.reduceToNat, Int.reduceNeg]
  have hd1 : be8 (fnv s.seed (headAt b s.pos)) = sumAt b s.pos := by simpa using hd
  try (refine ev ?_; try exact True.intro)
  (repeat (with_reducible refine ob ?_)); refine cl xfr (qi9 (headAt b s.pos) s.now.length hh (by omega)) ?_
  try (refine ev ?_; try exact True.intro)
  refine xt _ (fun hd => ?_) (fun hd => ?_)
  ·have he : cErr b s = some 4 := by
    unfold cErr
    rw [if_pos hd1, if_neg (by simpa using hd)]
   have hr := hx.symm.trans (qdf hil he)
   try simp only [hr, go_sem, Nat.reduceAdd, Nat.reduceMul, Nat.reduceSub, Nat.reduceEqDiff, Nat.reduceLT, Nat.reduceLeDiff, Nat.reduceBEq, reduceIte, reduceCtorEq, Int.reduceAdd, Int.reduceLT, Int.reduceLE, Int.reduceGT, Int.reduceGE, Int.reduceEq, Int.reduceNe, Int.reduceBEq, Int.reduceBNe, Int.reduceToNat, Int.reduceNeg]
  have hd2 : cProper (headAt b s.pos) s.now.length = true := by simpa using hd
  have he : cErr b s = none := by
   unfold cErr
   rw [if_pos hd1, if_pos hd2]
  obtain ⟨p1, p2, p3, p4, p5, p6⟩ := ja.1 hd2
  have hk0 := qq5 (h := headAt b s.pos) (by omega)
  have hm0 := qu3 (h := headAt b s.pos) (by omega)
  have w3 : IntKind.i64.wrap ((numB (headAt b s.pos) : Nat) : Int) = (numB (headAt b s.pos) : Nat) := qu (by unfold I64; omega)
  have w4 : IntKind.i64.wrap (2 + ((numB (headAt b s.pos) : Nat) : Int)) = ((2 + numB (headAt b s.pos) : Nat) : Int) := by rw [qu (by unfold I64; omega)]; omega
  have e6 : (2 + ((numB (headAt b s.pos) : Nat) : Int)).toNat - 2 = numB (headAt b s.pos) := by omega
  have e7 : ((byteRows (headAt b s.pos)).drop 2).take (numB (headAt b s.pos)) = byteRows (((headAt b s.pos).drop 2).take (numB (headAt b s.pos))) := by rw [xp, qx]
  have hln : (((headAt b s.pos).drop 2).take (numB (headAt b s.pos))).length ≤ 22 := by rw [List.length_take]; omega
  try simp only [qq (headAt b s.pos) (show 0 < (headAt b s.pos).length by omega), qq (headAt b s.pos) (show 1 < (headAt b s.pos).length by omega), ← hm0, ← hk0, w3, go_sem, Nat.reduceAdd, Nat.reduceMul, Nat.reduceSub, Nat.reduceEqDiff, Nat.reduceLT, Nat.reduceLeDiff, Nat.reduceBEq, reduceIte, reduceCtorEq, Int.reduceAdd, Int.reduceLT, Int.reduceLE, Int.reduceGT, Int.reduceGE, Int.reduceEq, Int.reduceNe, Int.reduceBEq, Int.reduceBNe, Int.reduceToNat, Int.reduceNeg]
  try simp only [w4, e6, e7, qn, go_sem, Nat.reduceAdd, Nat.reduceMul, Nat.reduceSub, Nat.reduceEqDiff, Nat.reduceLT, Nat.reduceLeDiff, Nat.reduceBEq, reduceIte, reduceCtorEq, Int.reduceAdd, Int.reduceLT, Int.reduceLE, Int.reduceGT, Int.reduceGE, Int.reduceEq, Int.reduceNe, Int.reduceBEq, Int.reduceBNe, Int.reduceToNat, Int.reduceNeg]
  refine ⟨by omega, by omega, by omega, by omega, ?_⟩
  have hcn : s.now ++ ((headAt b s.pos).drop 2).take (numB (headAt b s.pos)) = cNow b s := rfl
  rw [hcn]
  have hcl := qme he
  have hok := qmf ⟨q1, q2, q3, q4, q5, q6, q7⟩ hil he
  have hnx := (qa5 hil he).symm.trans hx
  refine xt _ (fun hd => ?_) (fun hd => ?_)
  ·have hk2 : kindOf (headAt b s.pos) = 2 := by simp at hd; omega
   have hn : cNext b s = ⟨s.pos + 32, fnv s.seed (headAt b s.pos), [], s.recs ++ [cNow b s], s.ends ++ [s.pos + 32]⟩ := by rw [cNext, if_pos hk2]
   try simp only [qja, go_sem, Nat.reduceAdd, Nat.reduceMul, Nat.reduceSub, Nat.reduceEqDiff, Nat.reduceLT, Nat.reduceLeDiff, Nat.reduceBEq, reduceIte, reduceCtorEq, Int.reduceAdd, Int.reduceLT, Int.reduceLE, Int.reduceGT, Int.reduceGE, Int.reduceEq, Int.reduceNe, Int.reduceBEq, Int.reduceBNe, Int.reduceToNat, Int.reduceNeg]
   (repeat (with_reducible refine ob ?_))
   refine ⟨⟨cNext b s, hok, hnx⟩, ?_, by dsimp only; rw [hn]; dsimp only; omega⟩
   have hes : endRows s.ends ++ [[.int .i64 ((s.pos : Int) + 32)]] = endRows (s.ends ++ [s.pos + 32]) := by simp [endRows]
   try simp only [Sread, hn, w1, hes, qj, go_sem, Nat.reduceAdd, Nat.reduceMul, Nat.reduceSub, Nat.reduceEqDiff, Nat.reduceLT, Nat.reduceLeDiff, Nat.reduceBEq, reduceIte, reduceCtorEq, Int.reduceAdd, Int.reduceLT, Int.reduceLE, Int.reduceGT, Int.reduceGE, Int.reduceEq, Int.reduceNe, Int.reduceBEq, Int.reduceBNe, Int.reduceToNat, Int.reduceNeg]
  ·have hk2 : ¬ kindOf (headAt b s.pos) = 2 := by simp at hd; omega
   have hn : cNext b s = ⟨s.pos + 32, fnv s.seed (headAt b s.pos), cNow b s, s.recs, s.ends⟩ := by rw [cNext, if_neg hk2]
   try (refine ev ?_; try exact True.intro)
   refine ⟨⟨cNext b s, hok, hnx⟩, ?_, by dsimp only; rw [hn]; dsimp only; omega⟩
   try simp only [Sread, hn, w1, go_sem, Nat.reduceAdd, Nat.reduceMul, Nat.reduceSub, Nat.reduceEqDiff, Nat.reduceLT, Nat.reduceLeDiff, Nat.reduceBEq, reduceIte, reduceCtorEq, Int.reduceAdd, Int.reduceLT, Int.reduceLE, Int.reduceGT, Int.reduceGE, Int.reduceEq, Int.reduceNe, Int.reduceBEq, Int.reduceBNe, Int.reduceToNat, Int.reduceNeg]
 ·have hxe := hx.symm.trans (vu (b := b) (s := s) (by simp at hc; omega))
  try (refine ev ?_; try exact True.intro)
  (repeat (with_reducible refine ob ?_)); refine cl xbg (qq7 s.ends (by omega)) ?_
  try (refine ev ?_; try exact True.intro)
  have hu : s.ends.getLastD 0 = s.used := rfl
  refine xt _ (fun hd => ?_) (fun hd => ?_)
  ·have hr : wRead b rds0 = (s, 4) := by
    rw [hxe, if_neg]
    intro h
    rw [← hu] at h
    rw [h] at hd
    simp at hd
   try simp only [hr, go_sem, Nat.reduceAdd, Nat.reduceMul, Nat.reduceSub, Nat.reduceEqDiff, Nat.reduceLT, Nat.reduceLeDiff, Nat.reduceBEq, reduceIte, reduceCtorEq, Int.reduceAdd, Int.reduceLT, Int.reduceLE, Int.reduceGT, Int.reduceGE, Int.reduceEq, Int.reduceNe, Int.reduceBEq, Int.reduceBNe, Int.reduceToNat, Int.reduceNeg]
  ·have hr : wRead b rds0 = (s, 0) := by
    rw [hxe, if_pos]
    rw [← hu]
    simp only [bne_eq_false_iff_eq] at hd
    omega
   try simp only [hr, go_sem, Nat.reduceAdd, Nat.reduceMul, Nat.reduceSub, Nat.reduceEqDiff, Nat.reduceLT, Nat.reduceLeDiff, Nat.reduceBEq, reduceIte, reduceCtorEq, Int.reduceAdd, Int.reduceLT, Int.reduceLE, Int.reduceGT, Int.reduceGE, Int.reduceEq, Int.reduceNe, Int.reduceBEq, Int.reduceBNe, Int.reduceToNat, Int.reduceNeg]
theorem qoc (b : List UInt8) (hb : b.length ≤ 1000000000) : ACall Try.prog 121 [.d (.sl 1 (byteRows b))] [] (.tup [.d (.sl 1 (recRows (wRead b rds0).1.recs)), .d (.int .i64 ((wRead b rds0).1.used : Nat)), .d (.int .i64 (wRead b rds0).2)]) [] := by
 have hok := k9 (yg b)
 have h1 := hok.ends
 have h2 := hok.pos
 refine xft.goT ?_
 try (refine ev ?_; try exact True.intro)
 (repeat (with_reducible refine ob ?_)); refine cl xfs (qwr b hb) ?_
 try (refine ev ?_; try exact True.intro)
 (repeat (with_reducible refine ob ?_)); refine cl xbg (qq7 (wRead b rds0).1.ends (by omega)) ?_
 try simp only [Rds.used, go_sem, Nat.reduceAdd, Nat.reduceMul, Nat.reduceSub, Nat.reduceEqDiff, Nat.reduceLT, Nat.reduceLeDiff, Nat.reduceBEq, reduceIte, reduceCtorEq, Int.reduceAdd, Int.reduceLT, Int.reduceLE, Int.reduceGT, Int.reduceGE, Int.reduceEq, Int.reduceNe, Int.reduceBEq, Int.reduceBNe, Int.reduceToNat, Int.reduceNeg]
def wRecs (b : List UInt8) : List (List UInt8) := (wRead b rds0).1.recs
def wUsed (b : List UInt8) : Nat := (wRead b rds0).1.used
theorem qmi (b : List UInt8) : wUsed b ≤ b.length := Nat.le_trans (k9 (yg b)).used (k9 (yg b)).pos
theorem qq8 (b : List UInt8) : (wRecs b).length ≤ b.length := Nat.le_trans (k9 (yg b)).recs (k9 (yg b)).pos
theorem qdj (b : List UInt8) : ∀ r ∈ wRecs b, r.length ≤ 2000 := (k9 (yg b)).small
theorem qfb (b : List UInt8) (hb : b.length ≤ 1000000000) : ACall Try.prog 90 [.d (.sl 1 (byteRows b))] [] (.tup [.d (.agg (encLog (b.take (wUsed b)) (wUsed b))), .d (.sl 1 (recRows (wRecs b)))]) [] := by
 have hr := qoc b hb
 have hu := qmi b
 change ACall Try.prog 121 [.d (.sl 1 (byteRows b))] [] (.tup [.d (.sl 1 (recRows (wRecs b))), .d (.int .i64 (wUsed b : Nat)), .d (.int .i64 (wRead b rds0).2)]) [] at hr
 refine F90.goT ?_
 try (refine ev ?_; try exact True.intro)
 (repeat (with_reducible refine ob ?_)); refine cl xft (hr) ?_
 have e1 : ((byteRows b).drop 0).take (wUsed b - 0) = byteRows (b.take (wUsed b)) := by rw [List.drop_zero, qx, Nat.sub_zero]
 try simp only [qx, Nat.sub_zero, go_sem, Nat.reduceAdd, Nat.reduceMul, Nat.reduceSub, Nat.reduceEqDiff, Nat.reduceLT, Nat.reduceLeDiff, Nat.reduceBEq, reduceIte, reduceCtorEq, Int.reduceAdd, Int.reduceLT, Int.reduceLE, Int.reduceGT, Int.reduceGE, Int.reduceEq, Int.reduceNe, Int.reduceBEq, Int.reduceBNe, Int.reduceToNat, Int.reduceNeg]
 (repeat (with_reducible refine ob ?_))
 (repeat (with_reducible refine ob ?_)); refine cl F43 (xi (b.take (wUsed b)) (by rw [List.length_take]; omega)) ?_
 try simp only [encLog, go_sem, Nat.reduceAdd, Nat.reduceMul, Nat.reduceSub, Nat.reduceEqDiff, Nat.reduceLT, Nat.reduceLeDiff, Nat.reduceBEq, reduceIte, reduceCtorEq, Int.reduceAdd, Int.reduceLT, Int.reduceLE, Int.reduceGT, Int.reduceGE, Int.reduceEq, Int.reduceNe, Int.reduceBEq, Int.reduceBNe, Int.reduceToNat, Int.reduceNeg]
end Go.Proofs.Ytinnaedmdoengaa
namespace Go.Proofs.Ytinnaedmdoengaa
open Go.Abs
set_option linter.unusedSimpArgs false
set_option linter.unusedVariables false
noncomputable section
set_option maxRecDepth 100000
def s75r0 : List SOper := [
 ⟨some 2, .mov (.k (.d .nilsl)), none⟩]
def s75r1 : List SOper := [
 ⟨some 5, .mov (.t 0), none⟩,
 ⟨some 6, .conv .u64 (.t 5), none⟩,
 ⟨some 7, .bin .mul (.t 6) (.k (.d (.int .u64 2))), none⟩,
 ⟨some 3, .mov (.t 7), none⟩]
def s75r2 : List SOper := [
 ⟨some 8, .mov (.t 0), none⟩,
 ⟨some 9, .bin .lss (.t 8) (.k (.d (.int .i64 0))), none⟩]
def s75r3 : List SOper := [
 ⟨some 10, .mov (.t 0), none⟩,
 ⟨some 11, .bin .add (.t 10) (.k (.d (.int .i64 1))), none⟩,
 ⟨some 12, .neg (.t 11), none⟩,
 ⟨some 13, .conv .u64 (.t 12), none⟩,
 ⟨some 14, .bin .mul (.t 13) (.k (.d (.int .u64 2))), none⟩,
 ⟨some 15, .bin .add (.t 14) (.k (.d (.int .u64 1))), none⟩,
 ⟨some 3, .mov (.t 15), none⟩]
def s75r4 : List SOper := [
 ⟨some 4, .mov (.k (.d .nilsl)), none⟩]
def s75r5 : List SOper := [
 ⟨some 16, .mov (.t 3), none⟩,
 ⟨some 17, .bin .geq (.t 16) (.k (.d (.int .u64 128))), none⟩]
def s75r6 : List SOper := [
 ⟨some 18, .mov (.t 4), none⟩,
 ⟨some 19, .mov (.t 3), none⟩,
 ⟨some 20, .bin .rem (.t 19) (.k (.d (.int .u64 128))), none⟩,
 ⟨some 21, .conv .u8 (.t 20), none⟩,
 ⟨some 22, .bin .add (.t 21) (.k (.d (.int .u8 128))), none⟩,
 ⟨some 23, .buildSlice false 1 1 [(.int .u8 0)] [(0, 1, (.t 22))], none⟩,
 ⟨some 24, .append false 1 1 (.t 18) (.t 23), none⟩,
 ⟨some 4, .mov (.t 24), none⟩]
def s75r7 : List SOper := [
 ⟨some 25, .mov (.t 3), none⟩,
 ⟨some 26, .bin .quo (.t 25) (.k (.d (.int .u64 128))), none⟩,
 ⟨some 3, .mov (.t 26), none⟩]
def s75l8 : SCode := (.seq (.seq (.region s75r5 0 []) (.cond (.t 17) .skip (.exit 0))) (.block 1 (.seq (.region s75r6 0 []) (.region s75r7 0 []))))
theorem xbk : CodeIs s75l8.eq_1 := qc s75l8.eq_1
def s75r9 : List SOper := [
 ⟨some 27, .mov (.t 4), none⟩,
 ⟨some 28, .mov (.t 3), none⟩,
 ⟨some 29, .conv .u8 (.t 28), none⟩,
 ⟨some 30, .buildSlice false 1 1 [(.int .u8 0)] [(0, 1, (.t 29))], none⟩,
 ⟨some 31, .append false 1 1 (.t 27) (.t 30), none⟩,
 ⟨some 2, .mov (.t 31), none⟩]
def s75 : SCode := (.seq (.region s75r0 0 []) (.seq (.region s75r1 0 []) (.seq (.seq (.region s75r2 0 []) (.cond (.t 9) (.region s75r3 0 []) .skip)) (.seq (.region s75r4 0 []) (.seq (.block 0 (.loop s75l8)) (.seq (.region s75r9 0 []) .ret))))))
theorem e75 : CodeIs s75.eq_1 := qc s75.eq_1
theorem xbl : RegIs s75r0.eq_1 := qa
theorem xbm : RegIs s75r1.eq_1 := qa
theorem xbn : RegIs s75r2.eq_1 := qa
theorem xbo : RegIs s75r3.eq_1 := qa
theorem xbp : RegIs s75r4.eq_1 := qa
theorem xbq : RegIs s75r5.eq_1 := qa
theorem xbr : RegIs s75r6.eq_1 := qa
theorem xbs : RegIs s75r7.eq_1 := qa
theorem xbt : RegIs s75r9.eq_1 := qa
attribute [go_sem] xbl xbm xbn xbo xbp xbq xbr xbs xbk xbt e75
theorem F75 : FnIs Try.prog 75 Try.f75 [] news s75 [.tmp 2] 32 := xg follows Try.func75
def s79r0 : List SOper := [
 ⟨some 2, .mov (.k (.d .nilsl)), none⟩]
def s79r1 : List SOper := [
 ⟨some 3, .mov (.t 0), none⟩,
 ⟨some 4, .len (.t 3), none⟩,
 ⟨some 5, .call (.k (.d (.func (.func 75) [] []))) [(.t 4)], none⟩,
 ⟨some 6, .mov (.t 0), none⟩,
 ⟨some 7, .append false 1 1 (.t 5) (.t 6), none⟩,
 ⟨some 2, .mov (.t 7), none⟩]
def s79 : SCode := (.seq (.region s79r0 0 []) (.seq (.region s79r1 0 []) .ret))
theorem e79 : CodeIs s79.eq_1 := qc s79.eq_1
theorem xbu : RegIs s79r0.eq_1 := qa
theorem xbv : RegIs s79r1.eq_1 := qa
attribute [go_sem] xbu xbv e79
theorem F79 : FnIs Try.prog 79 Try.f79 [] news s79 [.tmp 2] 8 := xg follows Try.func79
def s77r0 : List SOper := [
 ⟨some 2, .mov (.k (.d .nilsl)), none⟩]
def s77r1 : List SOper := [
 ⟨some 3, .mov (.t 0), none⟩,
 ⟨some 4, .s2b (.t 3), none⟩,
 ⟨some 5, .call (.k (.d (.func (.func 79) [] []))) [(.t 4)], none⟩,
 ⟨some 2, .mov (.t 5), none⟩]
def s77 : SCode := (.seq (.region s77r0 0 []) (.seq (.region s77r1 0 []) .ret))
theorem e77 : CodeIs s77.eq_1 := qc s77.eq_1
theorem xbw : RegIs s77r0.eq_1 := qa
theorem xbx : RegIs s77r1.eq_1 := qa
attribute [go_sem] xbw xbx e77
theorem F77 : FnIs Try.prog 77 Try.f77 [] news s77 [.tmp 2] 6 := xg follows Try.func77
def s78r0 : List SOper := [
 ⟨some 2, .mov (.k (.d .nilsl)), none⟩]
def s78r1 : List SOper := [
 ⟨some 3, .mov (.t 0), none⟩]
def s78r2 : List SOper := [
 ⟨some 4, .buildSlice false 1 1 [(.int .u8 0)] [(0, 1, (.k (.d (.int .u8 1))))], none⟩,
 ⟨some 2, .mov (.t 4), none⟩]
def s78r3 : List SOper := [
 ⟨some 5, .buildSlice false 1 1 [(.int .u8 0)] [(0, 1, (.k (.d (.int .u8 0))))], none⟩,
 ⟨some 2, .mov (.t 5), none⟩]
def s78 : SCode := (.seq (.region s78r0 0 []) (.seq (.seq (.region s78r1 0 []) (.cond (.t 3) (.seq (.region s78r2 0 []) .ret) .skip)) (.seq (.region s78r3 0 []) .ret)))
theorem e78 : CodeIs s78.eq_1 := qc s78.eq_1
theorem xby : RegIs s78r0.eq_1 := qa
theorem xbz : RegIs s78r1.eq_1 := qa
theorem xb0 : RegIs s78r2.eq_1 := qa
theorem xb1 : RegIs s78r3.eq_1 := qa
attribute [go_sem] xby xbz xb0 xb1 e78
theorem F78 : FnIs Try.prog 78 Try.f78 [] news s78 [.tmp 2] 6 := xg follows Try.func78
def s76r0 : List SOper := [
 ⟨some 1, .box 1 (.t 0), none⟩,
 ⟨some 2, .mov (.k (.d (.bool false))), none⟩]
def s76r1 : List SOper := [
 ⟨some 3, .faddr 0 (.t 1), none⟩,
 ⟨some 4, .load none (.t 3), none⟩,
 ⟨some 5, .lenS (.t 4), none⟩,
 ⟨some 6, .bin .geq (.t 5) (.k (.d (.int .i64 1))), none⟩,
 ⟨some 7, .mov (.t 6), none⟩,
 ⟨some 8, .faddr 0 (.t 1), some (7, true)⟩,
 ⟨some 9, .load none (.t 8), some (7, true)⟩,
 ⟨some 10, .lenS (.t 9), some (7, true)⟩,
 ⟨some 11, .bin .leq (.t 10) (.k (.d (.int .i64 40))), some (7, true)⟩,
 ⟨some 12, .pick (.t 7) (.t 11) (.k (.d (.bool false))), none⟩,
 ⟨some 13, .mov (.t 12), none⟩,
 ⟨some 14, .faddr 2 (.t 1), some (13, true)⟩,
 ⟨some 15, .load none (.t 14), some (13, true)⟩,
 ⟨some 16, .len (.t 15), some (13, true)⟩,
 ⟨some 17, .bin .leq (.t 16) (.k (.d (.int .i64 900))), some (13, true)⟩,
 ⟨some 18, .pick (.t 13) (.t 17) (.k (.d (.bool false))), none⟩,
 ⟨some 19, .mov (.t 18), none⟩,
 ⟨some 20, .faddr 1 (.t 1), some (19, true)⟩,
 ⟨some 21, .load none (.t 20), some (19, true)⟩,
 ⟨some 22, .not (.t 21), some (19, true)⟩,
 ⟨some 23, .mov (.t 22), some (19, true)⟩,
 ⟨some 24, .faddr 2 (.t 1), some (23, false)⟩,
 ⟨some 25, .load none (.t 24), some (23, false)⟩,
 ⟨some 26, .len (.t 25), some (23, false)⟩,
 ⟨some 27, .bin .eql (.t 26) (.k (.d (.int .i64 0))), some (23, false)⟩,
 ⟨some 28, .pick (.t 23) (.k (.d (.bool true))) (.t 27), some (19, true)⟩,
 ⟨some 29, .pick (.t 19) (.t 28) (.k (.d (.bool false))), none⟩,
 ⟨some 2, .mov (.t 29), none⟩]
def s76 : SCode := (.seq (.region s76r0 1 []) (.seq (.region s76r1 0 []) .ret))
theorem e76 : CodeIs s76.eq_1 := qc s76.eq_1
theorem xb2 : RegIs s76r0.eq_1 := qa
theorem xb3 : RegIs s76r1.eq_1 := qa
attribute [go_sem] xb2 xb3 e76
theorem F76 : FnIs Try.prog 76 Try.f76 [] news s76 [.tmp 2] 30 := xg follows Try.func76
def s31r0 : List SOper := [
 ⟨some 2, .mov (.k (.d .nilsl)), none⟩,
 ⟨some 3, .mov (.k (.d (.int .i64 0))), none⟩]
def s31r1 : List SOper := [
 ⟨some 6, .mov (.t 0), none⟩,
 ⟨some 7, .len (.t 6), none⟩,
 ⟨some 8, .bin .eql (.t 7) (.k (.d (.int .i64 0))), none⟩]
def s31r2 : List SOper := [
 ⟨some 2, .mov (.k (.d .nilsl)), none⟩,
 ⟨some 3, .mov (.k (.d (.int .i64 1))), none⟩]
def s31r3 : List SOper := [
 ⟨some 9, .mov (.t 0), none⟩,
 ⟨some 10, .len (.t 9), none⟩,
 ⟨some 11, .call (.k (.d (.func (.func 75) [] []))) [(.t 10)], none⟩,
 ⟨some 4, .mov (.t 11), none⟩]
def s31r4 : List SOper := [
 ⟨some 5, .mov (.k (.d (.int .i64 0))), none⟩]
def s31r5 : List SOper := [
 ⟨some 12, .mov (.t 5), none⟩,
 ⟨some 13, .mov (.t 0), none⟩,
 ⟨some 14, .len (.t 13), none⟩,
 ⟨some 15, .bin .lss (.t 12) (.t 14), none⟩]
def s31r6 : List SOper := [
 ⟨some 18, .mov (.t 0), none⟩,
 ⟨some 19, .mov (.t 5), none⟩,
 ⟨some 20, .iaddr 3 (.t 18) (.t 19), none⟩,
 ⟨some 21, .load (some 3) (.t 20), none⟩,
 ⟨some 22, .call (.k (.d (.func (.func 76) [] []))) [(.t 21)], none⟩,
 ⟨some 23, .not (.t 22), none⟩]
def s31r7 : List SOper := [
 ⟨some 2, .mov (.k (.d .nilsl)), none⟩,
 ⟨some 3, .mov (.k (.d (.int .i64 1))), none⟩]
def s31r8 : List SOper := [
 ⟨some 24, .mov (.t 4), none⟩,
 ⟨some 25, .mov (.t 0), none⟩,
 ⟨some 26, .mov (.t 5), none⟩,
 ⟨some 27, .iaddr 3 (.t 25) (.t 26), none⟩,
 ⟨some 28, .faddr 0 (.t 27), none⟩,
 ⟨some 29, .load none (.t 28), none⟩,
 ⟨some 30, .call (.k (.d (.func (.func 77) [] []))) [(.t 29)], none⟩,
 ⟨some 31, .append false 1 1 (.t 24) (.t 30), none⟩,
 ⟨some 32, .mov (.t 0), none⟩,
 ⟨some 33, .mov (.t 5), none⟩,
 ⟨some 34, .iaddr 3 (.t 32) (.t 33), none⟩,
 ⟨some 35, .faddr 1 (.t 34), none⟩,
 ⟨some 36, .load none (.t 35), none⟩,
 ⟨some 37, .call (.k (.d (.func (.func 78) [] []))) [(.t 36)], none⟩,
 ⟨some 38, .append false 1 1 (.t 31) (.t 37), none⟩,
 ⟨some 4, .mov (.t 38), none⟩]
def s31r9 : List SOper := [
 ⟨some 39, .mov (.t 4), none⟩,
 ⟨some 40, .mov (.t 0), none⟩,
 ⟨some 41, .mov (.t 5), none⟩,
 ⟨some 42, .iaddr 3 (.t 40) (.t 41), none⟩,
 ⟨some 43, .faddr 2 (.t 42), none⟩,
 ⟨some 44, .load none (.t 43), none⟩,
 ⟨some 45, .call (.k (.d (.func (.func 79) [] []))) [(.t 44)], none⟩,
 ⟨some 46, .append false 1 1 (.t 39) (.t 45), none⟩,
 ⟨some 4, .mov (.t 46), none⟩]
def s31r10 : List SOper := [
 ⟨some 16, .mov (.t 5), none⟩,
 ⟨some 17, .bin .add (.t 16) (.k (.d (.int .i64 1))), none⟩,
 ⟨some 5, .mov (.t 17), none⟩]
def s31l11 : SCode := (.seq (.seq (.region s31r5 0 []) (.cond (.t 15) .skip (.exit 0))) (.seq (.block 1 (.seq (.seq (.region s31r6 0 []) (.cond (.t 23) (.seq (.region s31r7 0 []) .ret) .skip)) (.seq (.region s31r8 0 [(6, 12)]) (.region s31r9 0 [])))) (.region s31r10 0 [])))
theorem q19 : CodeIs s31l11.eq_1 := qc s31l11.eq_1
def s31r12 : List SOper := [
 ⟨some 47, .mov (.t 0), none⟩,
 ⟨some 48, .len (.t 47), none⟩,
 ⟨some 49, .bin .gtr (.t 48) (.k (.d (.int .i64 20))), none⟩,
 ⟨some 50, .mov (.t 49), none⟩,
 ⟨some 51, .mov (.t 4), some (50, false)⟩,
 ⟨some 52, .len (.t 51), some (50, false)⟩,
 ⟨some 53, .bin .gtr (.t 52) (.k (.d (.int .i64 2000))), some (50, false)⟩,
 ⟨some 54, .pick (.t 50) (.k (.d (.bool true))) (.t 53), none⟩]
def s31r13 : List SOper := [
 ⟨some 2, .mov (.k (.d .nilsl)), none⟩,
 ⟨some 3, .mov (.k (.d (.int .i64 6))), none⟩]
def s31r14 : List SOper := [
 ⟨some 55, .mov (.t 4), none⟩,
 ⟨some 2, .mov (.t 55), none⟩,
 ⟨some 3, .mov (.k (.d (.int .i64 0))), none⟩]
def s31 : SCode := (.seq (.region s31r0 0 []) (.seq (.seq (.region s31r1 0 []) (.cond (.t 8) (.seq (.region s31r2 0 []) .ret) .skip)) (.seq (.region s31r3 0 []) (.seq (.seq (.region s31r4 0 []) (.block 0 (.loop s31l11))) (.seq (.seq (.region s31r12 0 []) (.cond (.t 54) (.seq (.region s31r13 0 []) .ret) .skip)) (.seq (.region s31r14 0 []) .ret))))))
theorem e31 : CodeIs s31.eq_1 := qc s31.eq_1
theorem xb4 : RegIs s31r0.eq_1 := qa
theorem xb5 : RegIs s31r1.eq_1 := qa
theorem xb6 : RegIs s31r2.eq_1 := qa
theorem xb7 : RegIs s31r3.eq_1 := qa
theorem xb8 : RegIs s31r4.eq_1 := qa
theorem xb9 : RegIs s31r5.eq_1 := qa
theorem xca : RegIs s31r6.eq_1 := qa
theorem xcb : RegIs s31r7.eq_1 := qa
theorem xcc : RegIs s31r8.eq_1 := qa
theorem xcd : RegIs s31r9.eq_1 := qa
theorem q2a : RegIs s31r10.eq_1 := qa
theorem q2b : RegIs s31r12.eq_1 := qa
theorem q2c : RegIs s31r13.eq_1 := qa
theorem q2d : RegIs s31r14.eq_1 := qa
attribute [go_sem] xb4 xb5 xb6 xb7 xb8 xb9 xca xcb xcc xcd q2a q19 q2b q2c q2d e31
theorem F31 : FnIs Try.prog 31 Try.f31 [] news s31 [.tmp 2, .tmp 3] 56 := xg follows Try.func31
end
def SrefInt (n : Int) (i : { x : List UInt8 × Nat // x.1 ++ vbytes x.2 = wInt n ∧ x.2 < 18446744073709551616 }) : St :=
 ⟨[(3, true, .d (.int .u64 (i.val.2 : Nat))), (4, true, .own 0 1 (byteRows i.val.1))], [], [0], 1⟩
theorem qjb (n : Int) (hn : I64 n) : ACall Try.prog 75 [.d (.int .i64 n)] [] (.own 0 1 (byteRows (wInt n))) [] := by
 have hz := qtu hn
 obtain ⟨hn1, hn2⟩ := hn
 have hrest : ∀ Q : SExit → St → Prop, True := fun _ => trivial
 refine F75.go ?_
 try (refine ev ?_; try exact True.intro)
 have b128 : ∀ u : Nat, u < 18446744073709551616 → IntKind.u8.wrap (IntKind.u8.wrap ((u : Int).tmod 128) + 128) = ((UInt8.ofNat (u % 128 + 128)).toNat : Int) := by
  intro u hu
  rw [Int.tmod_eq_emod_of_nonneg (by omega), qc2, qc2, show ((u : Int) % 128 % 256 + 128) % 256 = ((u % 128 + 128 : Nat) : Int) by omega]
  simp [UInt8.toNat_ofNat]; omega
 have q128 : ∀ u : Nat, u < 18446744073709551616 → IntKind.u64.wrap ((u : Int).tdiv 128) = ((u / 128 : Nat) : Int) := by
  intro u hu
  rw [Int.tdiv_eq_ediv_of_nonneg (by omega), show ((u : Int) / 128) = ((u / 128 : Nat) : Int) by omega, f2 _ (by omega)]
 refine xt _ (fun h => ?_) (fun h => ?_)
 ·have e : IntKind.u64.wrap (IntKind.u64.wrap (IntKind.u64.wrap (IntKind.i64.wrap (0 - IntKind.i64.wrap (n + 1))) * 2) + 1) = ((zz n : Nat) : Int) := by
   simp at h
   rw [qu (n := n + 1) (by unfold I64; omega), qu (by unfold I64; omega)]
   simp only [yd]
   unfold zz; rw [if_neg (by omega)]; omega
  try simp only [e, go_sem, Nat.reduceAdd, Nat.reduceMul, Nat.reduceSub, Nat.reduceEqDiff, Nat.reduceLT, Nat.reduceLeDiff, Nat.reduceBEq, reduceIte, reduceCtorEq, Int.reduceAdd, Int.reduceLT, Int.reduceLE, Int.reduceGT, Int.reduceGE, Int.reduceEq, Int.reduceNe, Int.reduceBEq, Int.reduceBNe, Int.reduceToNat, Int.reduceNeg]
  refine ql (SrefInt n) (fun i => i.val.2) ⟨([], zz n), by simp [wInt], hz⟩ ?_ (fun i => ?_)
  ·try simp only [SrefInt, qj, go_sem, Nat.reduceAdd, Nat.reduceMul, Nat.reduceSub, Nat.reduceEqDiff, Nat.reduceLT, Nat.reduceLeDiff, Nat.reduceBEq, reduceIte, reduceCtorEq, Int.reduceAdd, Int.reduceLT, Int.reduceLE, Int.reduceGT, Int.reduceGE, Int.reduceEq, Int.reduceNe, Int.reduceBEq, Int.reduceBNe, Int.reduceToNat, Int.reduceNeg]
  obtain ⟨⟨p, u⟩, hi, hu⟩ := i
  simp only at hi hu
  have hl : p.length ≤ 10 := by
   have h1 := congrArg List.length hi
   have h2 := zo (n := n) ⟨hn1, hn2⟩
   simp at h1; omega
  try simp only [SrefInt, go_sem, Nat.reduceAdd, Nat.reduceMul, Nat.reduceSub, Nat.reduceEqDiff, Nat.reduceLT, Nat.reduceLeDiff, Nat.reduceBEq, reduceIte, reduceCtorEq, Int.reduceAdd, Int.reduceLT, Int.reduceLE, Int.reduceGT, Int.reduceGE, Int.reduceEq, Int.reduceNe, Int.reduceBEq, Int.reduceBNe, Int.reduceToNat, Int.reduceNeg]
  refine xt _ (fun hc => ?_) (fun hc => ?_)
  ·have hc2 : ¬ u < 128 := by simp at hc; omega
   try simp only [b128 u hu, q128 u hu, zf, qn, go_sem, Nat.reduceAdd, Nat.reduceMul, Nat.reduceSub, Nat.reduceEqDiff, Nat.reduceLT, Nat.reduceLeDiff, Nat.reduceBEq, reduceIte, reduceCtorEq, Int.reduceAdd, Int.reduceLT, Int.reduceLE, Int.reduceGT, Int.reduceGE, Int.reduceEq, Int.reduceNe, Int.reduceBEq, Int.reduceBNe, Int.reduceToNat, Int.reduceNeg]
   (repeat (with_reducible refine ob ?_))
   refine ⟨⟨(p ++ [UInt8.ofNat (u % 128 + 128)], u / 128), ?_, by omega⟩, ?_, by simp only; omega⟩
   ·simp only at hi ⊢; rw [jx hc2] at hi; rw [← hi]; simp
   ·try simp only [SrefInt, go_sem, Nat.reduceAdd, Nat.reduceMul, Nat.reduceSub, Nat.reduceEqDiff, Nat.reduceLT, Nat.reduceLeDiff, Nat.reduceBEq, reduceIte, reduceCtorEq, Int.reduceAdd, Int.reduceLT, Int.reduceLE, Int.reduceGT, Int.reduceGE, Int.reduceEq, Int.reduceNe, Int.reduceBEq, Int.reduceBNe, Int.reduceToNat, Int.reduceNeg]
  ·have hc2 : u < 128 := by simp at hc; omega
   try simp only [qgj, zf, qn, go_sem, Nat.reduceAdd, Nat.reduceMul, Nat.reduceSub, Nat.reduceEqDiff, Nat.reduceLT, Nat.reduceLeDiff, Nat.reduceBEq, reduceIte, reduceCtorEq, Int.reduceAdd, Int.reduceLT, Int.reduceLE, Int.reduceGT, Int.reduceGE, Int.reduceEq, Int.reduceNe, Int.reduceBEq, Int.reduceBNe, Int.reduceToNat, Int.reduceNeg]
   (repeat (with_reducible refine ob ?_))
   simp only [zy hc2] at hi
   try simp only [hi, go_sem, Nat.reduceAdd, Nat.reduceMul, Nat.reduceSub, Nat.reduceEqDiff, Nat.reduceLT, Nat.reduceLeDiff, Nat.reduceBEq, reduceIte, reduceCtorEq, Int.reduceAdd, Int.reduceLT, Int.reduceLE, Int.reduceGT, Int.reduceGE, Int.reduceEq, Int.reduceNe, Int.reduceBEq, Int.reduceBNe, Int.reduceToNat, Int.reduceNeg]
 ·have e : IntKind.u64.wrap (IntKind.u64.wrap n * 2) = ((zz n : Nat) : Int) := by
   simp at h
   simp only [yd]
   unfold zz; rw [if_pos (by omega)]; omega
  try simp only [e, go_sem, Nat.reduceAdd, Nat.reduceMul, Nat.reduceSub, Nat.reduceEqDiff, Nat.reduceLT, Nat.reduceLeDiff, Nat.reduceBEq, reduceIte, reduceCtorEq, Int.reduceAdd, Int.reduceLT, Int.reduceLE, Int.reduceGT, Int.reduceGE, Int.reduceEq, Int.reduceNe, Int.reduceBEq, Int.reduceBNe, Int.reduceToNat, Int.reduceNeg]
  refine ql (SrefInt n) (fun i => i.val.2) ⟨([], zz n), by simp [wInt], hz⟩ ?_ (fun i => ?_)
  ·try simp only [SrefInt, qj, go_sem, Nat.reduceAdd, Nat.reduceMul, Nat.reduceSub, Nat.reduceEqDiff, Nat.reduceLT, Nat.reduceLeDiff, Nat.reduceBEq, reduceIte, reduceCtorEq, Int.reduceAdd, Int.reduceLT, Int.reduceLE, Int.reduceGT, Int.reduceGE, Int.reduceEq, Int.reduceNe, Int.reduceBEq, Int.reduceBNe, Int.reduceToNat, Int.reduceNeg]
  obtain ⟨⟨p, u⟩, hi, hu⟩ := i
  simp only at hi hu
  have hl : p.length ≤ 10 := by
   have h1 := congrArg List.length hi
   have h2 := zo (n := n) ⟨hn1, hn2⟩
   simp at h1; omega
  try simp only [SrefInt, go_sem, Nat.reduceAdd, Nat.reduceMul, Nat.reduceSub, Nat.reduceEqDiff, Nat.reduceLT, Nat.reduceLeDiff, Nat.reduceBEq, reduceIte, reduceCtorEq, Int.reduceAdd, Int.reduceLT, Int.reduceLE, Int.reduceGT, Int.reduceGE, Int.reduceEq, Int.reduceNe, Int.reduceBEq, Int.reduceBNe, Int.reduceToNat, Int.reduceNeg]
  refine xt _ (fun hc => ?_) (fun hc => ?_)
  ·have hc2 : ¬ u < 128 := by simp at hc; omega
   try simp only [b128 u hu, q128 u hu, zf, qn, go_sem, Nat.reduceAdd, Nat.reduceMul, Nat.reduceSub, Nat.reduceEqDiff, Nat.reduceLT, Nat.reduceLeDiff, Nat.reduceBEq, reduceIte, reduceCtorEq, Int.reduceAdd, Int.reduceLT, Int.reduceLE, Int.reduceGT, Int.reduceGE, Int.reduceEq, Int.reduceNe, Int.reduceBEq, Int.reduceBNe, Int.reduceToNat, Int.reduceNeg]
   (repeat (with_reducible refine ob ?_))
   refine ⟨⟨(p ++ [UInt8.ofNat (u % 128 + 128)], u / 128), ?_, by omega⟩, ?_, by simp only; omega⟩
   ·simp only at hi ⊢; rw [jx hc2] at hi; rw [← hi]; simp
   ·try simp only [SrefInt, go_sem, Nat.reduceAdd, Nat.reduceMul, Nat.reduceSub, Nat.reduceEqDiff, Nat.reduceLT, Nat.reduceLeDiff, Nat.reduceBEq, reduceIte, reduceCtorEq, Int.reduceAdd, Int.reduceLT, Int.reduceLE, Int.reduceGT, Int.reduceGE, Int.reduceEq, Int.reduceNe, Int.reduceBEq, Int.reduceBNe, Int.reduceToNat, Int.reduceNeg]
  ·have hc2 : u < 128 := by simp at hc; omega
   try simp only [qgj, zf, qn, go_sem, Nat.reduceAdd, Nat.reduceMul, Nat.reduceSub, Nat.reduceEqDiff, Nat.reduceLT, Nat.reduceLeDiff, Nat.reduceBEq, reduceIte, reduceCtorEq, Int.reduceAdd, Int.reduceLT, Int.reduceLE, Int.reduceGT, Int.reduceGE, Int.reduceEq, Int.reduceNe, Int.reduceBEq, Int.reduceBNe, Int.reduceToNat, Int.reduceNeg]
   (repeat (with_reducible refine ob ?_))
   simp only [zy hc2] at hi
   try simp only [hi, go_sem, Nat.reduceAdd, Nat.reduceMul, Nat.reduceSub, Nat.reduceEqDiff, Nat.reduceLT, Nat.reduceLeDiff, Nat.reduceBEq, reduceIte, reduceCtorEq, Int.reduceAdd, Int.reduceLT, Int.reduceLE, Int.reduceGT, Int.reduceGE, Int.reduceEq, Int.reduceNe, Int.reduceBEq, Int.reduceBNe, Int.reduceToNat, Int.reduceNeg]
theorem qdk (s : List UInt8) (hs : s.length ≤ 100000000) : ACall Try.prog 79 [.d (.sl 1 (byteRows s))] [] (.own 0 1 (byteRows (wText s))) [] := by
 have hw := zo (xc (n := s.length) (by omega))
 refine F79.go ?_
 try (refine ev ?_; try exact True.intro)
 refine clA F75 (qjb s.length (xc (by omega))) ?_
 try simp only [qn, wText, go_sem, Nat.reduceAdd, Nat.reduceMul, Nat.reduceSub, Nat.reduceEqDiff, Nat.reduceLT, Nat.reduceLeDiff, Nat.reduceBEq, reduceIte, reduceCtorEq, Int.reduceAdd, Int.reduceLT, Int.reduceLE, Int.reduceGT, Int.reduceGE, Int.reduceEq, Int.reduceNe, Int.reduceBEq, Int.reduceBNe, Int.reduceToNat, Int.reduceNeg]
 omega
theorem qod (s : List UInt8) (hs : s.length ≤ 100000000) : ACall Try.prog 77 [.d (.str s)] [] (.own 0 1 (byteRows (wText s))) [] := by
 refine F77.go ?_
 try (refine ev ?_; try exact True.intro)
 refine clA F79 (qdk s hs) ?_
 try (refine ev ?_; try exact True.intro)
theorem qfc (v : Bool) : ACall Try.prog 78 [.d (.bool v)] [] (.full 1 (byteRows [if v then 1 else 0])) [] := by
 refine F78.go ?_
 try (refine ev ?_; try exact True.intro)
 have e1 : [[D.int .u8 1]] = byteRows [1] := rfl
 have e0 : [[D.int .u8 0]] = byteRows [0] := rfl
 cases v with
 | true =>
  (repeat (with_reducible refine ob ?_)); refine y8 ?_
  try simp only [e1, go_sem, Nat.reduceAdd, Nat.reduceMul, Nat.reduceSub, Nat.reduceEqDiff, Nat.reduceLT, Nat.reduceLeDiff, Nat.reduceBEq, reduceIte, reduceCtorEq, Int.reduceAdd, Int.reduceLT, Int.reduceLE, Int.reduceGT, Int.reduceGE, Int.reduceEq, Int.reduceNe, Int.reduceBEq, Int.reduceBNe, Int.reduceToNat, Int.reduceNeg]
 | false =>
  (repeat (with_reducible refine ob ?_)); refine no_ ?_
  try simp only [e0, go_sem, Nat.reduceAdd, Nat.reduceMul, Nat.reduceSub, Nat.reduceEqDiff, Nat.reduceLT, Nat.reduceLeDiff, Nat.reduceBEq, reduceIte, reduceCtorEq, Int.reduceAdd, Int.reduceLT, Int.reduceLE, Int.reduceGT, Int.reduceGE, Int.reduceEq, Int.reduceNe, Int.reduceBEq, Int.reduceBNe, Int.reduceToNat, Int.reduceNeg]
def rProper (o : OpS) : Bool := decide ((o.key.length : Int) ≥ 1) && decide ((o.key.length : Int) ≤ 40) && decide ((o.val.length : Int) ≤ 900) && (!o.del || (o.val.length : Int) == 0)
theorem qoe (o : OpS) : rProper o = sProper o := by
 unfold rProper sProper
 congr 1
 cases o.del
 ·rfl
 ·rw [Bool.eq_iff_iff]; simp
theorem qof (o : OpS) : ACall Try.prog 76 [.d (.agg (encOp o))] [] (.d (.bool (sProper o))) [] := by
 rw [← qoe]
 refine F76.go ?_
 try simp only [encOp, rProper, go_sem, Nat.reduceAdd, Nat.reduceMul, Nat.reduceSub, Nat.reduceEqDiff, Nat.reduceLT, Nat.reduceLeDiff, Nat.reduceBEq, reduceIte, reduceCtorEq, Int.reduceAdd, Int.reduceLT, Int.reduceLE, Int.reduceGT, Int.reduceGE, Int.reduceEq, Int.reduceNe, Int.reduceBEq, Int.reduceBNe, Int.reduceToNat, Int.reduceNeg]
 intro h
 exact ⟨h, fun h2 => by rw [h]; simpa using h2⟩
def SrEnc (l : List OpS) (i : { i : Nat // i ≤ l.length ∧ ∀ o ∈ l.take i, sProper o = true }) : St :=
 ⟨[(0, true, .d (.sl 3 (l.map encOp))), (4, true, .own 0 1 (byteRows (wInt l.length ++ (l.take i.val).flatMap wOp))), (5, true, .d (.int .i64 (i.val : Nat)))], [], [0], 1⟩
set_option maxRecDepth 10000 in
theorem qbr (l : List OpS) (hl : l.length ≤ 100000) : ACall Try.prog 31 [.d (.sl 3 (l.map encOp))] [] (.tup [.d (.sl 1 (byteRows (sEncode l).1)), .d (.int .i64 (sEncode l).2)]) [] := by
 refine F31.goT ?_
 try (refine ev ?_; try exact True.intro)
 (repeat (with_reducible refine ob ?_)); refine xt _ (fun h => ?_) (fun h => ?_)
 ·have hb : sEncode l = ([], 1) := by
   unfold sEncode
   rw [if_pos]
   simp at h ⊢
   exact .inl h
  try simp only [hb, qj, go_sem, Nat.reduceAdd, Nat.reduceMul, Nat.reduceSub, Nat.reduceEqDiff, Nat.reduceLT, Nat.reduceLeDiff, Nat.reduceBEq, reduceIte, reduceCtorEq, Int.reduceAdd, Int.reduceLT, Int.reduceLE, Int.reduceGT, Int.reduceGE, Int.reduceEq, Int.reduceNe, Int.reduceBEq, Int.reduceBNe, Int.reduceToNat, Int.reduceNeg]
 have hw := zo (xc (n := l.length) (by omega))
 try (refine ev ?_; try exact True.intro)
 refine clA F75 (qjb l.length (xc (by omega))) ?_
 try (refine ev ?_; try exact True.intro)
 refine ql (SrEnc l) (fun i => l.length - i.val) ⟨0, Nat.zero_le _, by simp⟩ ?_ (fun i => ?_)
 ·try simp only [SrEnc, List.take_zero, List.flatMap_nil, List.append_nil, go_sem, Nat.reduceAdd, Nat.reduceMul, Nat.reduceSub, Nat.reduceEqDiff, Nat.reduceLT, Nat.reduceLeDiff, Nat.reduceBEq, reduceIte, reduceCtorEq, Int.reduceAdd, Int.reduceLT, Int.reduceLE, Int.reduceGT, Int.reduceGE, Int.reduceEq, Int.reduceNe, Int.reduceBEq, Int.reduceBNe, Int.reduceToNat, Int.reduceNeg]
 obtain ⟨i, hi, hp⟩ := i
 try simp only [SrEnc, go_sem, Nat.reduceAdd, Nat.reduceMul, Nat.reduceSub, Nat.reduceEqDiff, Nat.reduceLT, Nat.reduceLeDiff, Nat.reduceBEq, reduceIte, reduceCtorEq, Int.reduceAdd, Int.reduceLT, Int.reduceLE, Int.reduceGT, Int.reduceGE, Int.reduceEq, Int.reduceNe, Int.reduceBEq, Int.reduceBNe, Int.reduceToNat, Int.reduceNeg]
 refine xt _ (fun hc => ?_) (fun hc => ?_)
 ·have hil : i < l.length := by simpa using hc
  have hwl := wa hp
  have hwt : (l.take i).length ≤ i := by rw [List.length_take]; omega
  try simp only [qt encOp l hil, encOp, go_sem, Nat.reduceAdd, Nat.reduceMul, Nat.reduceSub, Nat.reduceEqDiff, Nat.reduceLT, Nat.reduceLeDiff, Nat.reduceBEq, reduceIte, reduceCtorEq, Int.reduceAdd, Int.reduceLT, Int.reduceLE, Int.reduceGT, Int.reduceGE, Int.reduceEq, Int.reduceNe, Int.reduceBEq, Int.reduceBNe, Int.reduceToNat, Int.reduceNeg]
  (repeat (with_reducible refine ob ?_))
  have hpo := qof l[i]
  simp only [encOp] at hpo
  (repeat (with_reducible refine ob ?_)); first | refine cl F76 (hpo) ?_ | refine clF F76 (hpo) (fun _ => by simp only [encOp, encEn, encStep, go_sem, Nat.reduceAdd, Nat.reduceMul, Nat.reduceSub, Nat.reduceEqDiff, Nat.reduceLT, Nat.reduceLeDiff, Nat.reduceBEq, reduceIte, reduceCtorEq, Int.reduceAdd, Int.reduceLT, Int.reduceLE, Int.reduceGT, Int.reduceGE, Int.reduceEq, Int.reduceNe, Int.reduceBEq, Int.reduceBNe, Int.reduceToNat, Int.reduceNeg]) ?_
  try (refine ev ?_; try exact True.intro)
  refine xt _ (fun hc => ?_) (fun hc => ?_)
  ·have hb : sEncode l = ([], 1) := by
    unfold sEncode
    rw [if_pos]
    simp only [Bool.or_eq_true, List.any_eq_true]
    exact .inr ⟨l[i], List.getElem_mem hil, hc⟩
   try simp only [hb, qj, go_sem, Nat.reduceAdd, Nat.reduceMul, Nat.reduceSub, Nat.reduceEqDiff, Nat.reduceLT, Nat.reduceLeDiff, Nat.reduceBEq, reduceIte, reduceCtorEq, Int.reduceAdd, Int.reduceLT, Int.reduceLE, Int.reduceGT, Int.reduceGE, Int.reduceEq, Int.reduceNe, Int.reduceBEq, Int.reduceBNe, Int.reduceToNat, Int.reduceNeg]
  have hpi : sProper l[i] = true := by simpa using hc
  obtain ⟨q1, q2, q3, _⟩ := xo.1 hpi
  try simp only [qt encOp l hil, encOp, go_sem, Nat.reduceAdd, Nat.reduceMul, Nat.reduceSub, Nat.reduceEqDiff, Nat.reduceLT, Nat.reduceLeDiff, Nat.reduceBEq, reduceIte, reduceCtorEq, Int.reduceAdd, Int.reduceLT, Int.reduceLE, Int.reduceGT, Int.reduceGE, Int.reduceEq, Int.reduceNe, Int.reduceBEq, Int.reduceBNe, Int.reduceToNat, Int.reduceNeg]
  (repeat (with_reducible refine ob ?_))
  have hw2 := qk2 hpi
  have hk := kk l[i].key (by omega)
  have hv := kk l[i].val (by omega)
  refine clA F77 (qod l[i].key (by omega)) ?_
  try simp only [qn, go_sem, Nat.reduceAdd, Nat.reduceMul, Nat.reduceSub, Nat.reduceEqDiff, Nat.reduceLT, Nat.reduceLeDiff, Nat.reduceBEq, reduceIte, reduceCtorEq, Int.reduceAdd, Int.reduceLT, Int.reduceLE, Int.reduceGT, Int.reduceGE, Int.reduceEq, Int.reduceNe, Int.reduceBEq, Int.reduceBNe, Int.reduceToNat, Int.reduceNeg]
  (repeat (with_reducible refine ob ?_))
  try simp only [qt encOp l hil, encOp, go_sem, Nat.reduceAdd, Nat.reduceMul, Nat.reduceSub, Nat.reduceEqDiff, Nat.reduceLT, Nat.reduceLeDiff, Nat.reduceBEq, reduceIte, reduceCtorEq, Int.reduceAdd, Int.reduceLT, Int.reduceLE, Int.reduceGT, Int.reduceGE, Int.reduceEq, Int.reduceNe, Int.reduceBEq, Int.reduceBNe, Int.reduceToNat, Int.reduceNeg]
  (repeat (with_reducible refine ob ?_))
  (repeat (with_reducible refine ob ?_)); first | refine cl F78 (qfc l[i].del) ?_ | refine clF F78 (qfc l[i].del) (fun _ => by simp only [encOp, encEn, encStep, go_sem, Nat.reduceAdd, Nat.reduceMul, Nat.reduceSub, Nat.reduceEqDiff, Nat.reduceLT, Nat.reduceLeDiff, Nat.reduceBEq, reduceIte, reduceCtorEq, Int.reduceAdd, Int.reduceLT, Int.reduceLE, Int.reduceGT, Int.reduceGE, Int.reduceEq, Int.reduceNe, Int.reduceBEq, Int.reduceBNe, Int.reduceToNat, Int.reduceNeg]) ?_
  try simp only [qn, go_sem, Nat.reduceAdd, Nat.reduceMul, Nat.reduceSub, Nat.reduceEqDiff, Nat.reduceLT, Nat.reduceLeDiff, Nat.reduceBEq, reduceIte, reduceCtorEq, Int.reduceAdd, Int.reduceLT, Int.reduceLE, Int.reduceGT, Int.reduceGE, Int.reduceEq, Int.reduceNe, Int.reduceBEq, Int.reduceBNe, Int.reduceToNat, Int.reduceNeg]
  (repeat (with_reducible refine ob ?_))
  try simp only [qt encOp l hil, encOp, go_sem, Nat.reduceAdd, Nat.reduceMul, Nat.reduceSub, Nat.reduceEqDiff, Nat.reduceLT, Nat.reduceLeDiff, Nat.reduceBEq, reduceIte, reduceCtorEq, Int.reduceAdd, Int.reduceLT, Int.reduceLE, Int.reduceGT, Int.reduceGE, Int.reduceEq, Int.reduceNe, Int.reduceBEq, Int.reduceBNe, Int.reduceToNat, Int.reduceNeg]
  (repeat (with_reducible refine ob ?_))
  refine clA F79 (qdk l[i].val (by omega)) ?_
  try simp only [qn, go_sem, Nat.reduceAdd, Nat.reduceMul, Nat.reduceSub, Nat.reduceEqDiff, Nat.reduceLT, Nat.reduceLeDiff, Nat.reduceBEq, reduceIte, reduceCtorEq, Int.reduceAdd, Int.reduceLT, Int.reduceLE, Int.reduceGT, Int.reduceGE, Int.reduceEq, Int.reduceNe, Int.reduceBEq, Int.reduceBNe, Int.reduceToNat, Int.reduceNeg]
  (repeat (with_reducible refine ob ?_))
  have h1 : wInt l.length ++ (l.take (i + 1)).flatMap wOp = wInt l.length ++ List.flatMap wOp (List.take i l) ++ wText l[i].key ++ [if l[i].del = true then 1 else 0] ++ wText l[i].val := by
   rw [qc5 wOp l hil]; simp [wOp]
  refine ⟨⟨i + 1, hil, fun o ho => ?_⟩, ?_, by dsimp only; omega⟩
  ·rw [List.take_succ_eq_append_getElem hil] at ho
   rcases List.mem_append.1 ho with ho | ho
   ·exact hp o ho
   ·simp at ho; subst ho; exact hpi
  try simp only [SrEnc, h1, qk (show i < 9223372036854775807 by omega), go_sem, Nat.reduceAdd, Nat.reduceMul, Nat.reduceSub, Nat.reduceEqDiff, Nat.reduceLT, Nat.reduceLeDiff, Nat.reduceBEq, reduceIte, reduceCtorEq, Int.reduceAdd, Int.reduceLT, Int.reduceLE, Int.reduceGT, Int.reduceGE, Int.reduceEq, Int.reduceNe, Int.reduceBEq, Int.reduceBNe, Int.reduceToNat, Int.reduceNeg]
 ·have hil : i = l.length := by simp at hc; omega
  subst hil
  rw [List.take_length] at hp
  have hwl := wa hp
  have hne : ¬ (decide (l.length = 0) || l.any (fun o => !sProper o)) = true := by
   simp only [Bool.or_eq_true, decide_eq_true_eq, not_or, List.any_eq_true, not_exists, not_and]
   exact ⟨by simp at h; simpa using h, fun o ho => by simp [hp o ho]⟩
  have hx : wInt l.length ++ l.flatMap wOp = wOps l := rfl
  try simp only [List.take_length, hx, go_sem, Nat.reduceAdd, Nat.reduceMul, Nat.reduceSub, Nat.reduceEqDiff, Nat.reduceLT, Nat.reduceLeDiff, Nat.reduceBEq, reduceIte, reduceCtorEq, Int.reduceAdd, Int.reduceLT, Int.reduceLE, Int.reduceGT, Int.reduceGE, Int.reduceEq, Int.reduceNe, Int.reduceBEq, Int.reduceBNe, Int.reduceToNat, Int.reduceNeg]
  refine ⟨fun h => by rw [h]; rfl, ?_⟩
  refine xt _ (fun hc => ?_) (fun hc => ?_)
  ·have hb : sEncode l = ([], 6) := by
    unfold sEncode
    rw [if_neg hne, if_pos]
    simp only [Bool.or_eq_true, decide_eq_true_eq] at hc ⊢
    omega
   try simp only [hb, qj, go_sem, Nat.reduceAdd, Nat.reduceMul, Nat.reduceSub, Nat.reduceEqDiff, Nat.reduceLT, Nat.reduceLeDiff, Nat.reduceBEq, reduceIte, reduceCtorEq, Int.reduceAdd, Int.reduceLT, Int.reduceLE, Int.reduceGT, Int.reduceGE, Int.reduceEq, Int.reduceNe, Int.reduceBEq, Int.reduceBNe, Int.reduceToNat, Int.reduceNeg]
  ·have hb : sEncode l = (wOps l, 0) := by
    unfold sEncode
    rw [if_neg hne, if_neg]
    simp only [Bool.or_eq_true, Bool.or_eq_false_iff, decide_eq_true_eq, decide_eq_false_iff_not] at hc ⊢
    omega
   try simp only [hb, go_sem, Nat.reduceAdd, Nat.reduceMul, Nat.reduceSub, Nat.reduceEqDiff, Nat.reduceLT, Nat.reduceLeDiff, Nat.reduceBEq, reduceIte, reduceCtorEq, Int.reduceAdd, Int.reduceLT, Int.reduceLE, Int.reduceGT, Int.reduceGE, Int.reduceEq, Int.reduceNe, Int.reduceBEq, Int.reduceBNe, Int.reduceToNat, Int.reduceNeg]
end Go.Proofs.Ytinnaedmdoengaa
namespace Go.Proofs.Ytinnaedmdoengaa
open Go.Abs
set_option linter.unusedSimpArgs false
set_option linter.unusedVariables false
structure Rd where
 b : List UInt8
 pos : Nat
 failed : Bool
 deriving DecidableEq, Inhabited
def rdO (r : Rd) : AObj := .row [.d (.sl 1 (byteRows r.b)), .d (.int .i64 (r.pos : Nat)), .d (.bool r.failed)]
structure Rd.Ok (r : Rd) : Prop where
 len : r.b.length ≤ 1000000000
 pos : r.pos ≤ r.b.length
def rNext (n : Nat) (r : Rd) : List UInt8 × Rd := if r.failed || decide (r.b.length - r.pos < n) then ([], { r with failed := true }) else ((r.b.drop r.pos).take n, { r with pos := r.pos + n })
noncomputable section
set_option maxRecDepth 100000
def s61r0 : List SOper := [
 ⟨some 2, .mov (.k (.d .nilptr)), none⟩]
def s61r1 : List SOper := [
 ⟨some 3, .mov (.t 0), none⟩,
 ⟨some 4, .append false 1 1 (.k (.d .nilsl)) (.t 3), none⟩,
 ⟨some 5, .build [.nilsl, (.int .i64 0), (.bool false)] [(0, 1, (.t 4))], none⟩,
 ⟨some 6, .box 1 (.t 5), none⟩,
 ⟨some 2, .mov (.t 6), none⟩]
def s61 : SCode := (.seq (.region s61r0 0 []) (.seq (.region s61r1 1 []) .ret))
theorem e61 : CodeIs s61.eq_1 := qc s61.eq_1
theorem xce : RegIs s61r0.eq_1 := qa
theorem xcf : RegIs s61r1.eq_1 := qa
attribute [go_sem] xce xcf e61
theorem F61 : FnIs Try.prog 61 Try.f61 [] news s61 [.tmp 2] 7 := xg follows Try.func61
def s141r0 : List SOper := [
 ⟨some 4, .mov (.k (.d .nilsl)), none⟩]
def s141r1 : List SOper := [
 ⟨some 5, .mov (.t 0), none⟩,
 ⟨some 6, .nilCheck (.t 5), none⟩,
 ⟨some 7, .faddr 2 (.t 6), none⟩,
 ⟨some 8, .load none (.t 7), none⟩,
 ⟨some 9, .mov (.t 8), none⟩,
 ⟨some 10, .mov (.t 1), some (9, false)⟩,
 ⟨some 11, .mov (.t 0), some (9, false)⟩,
 ⟨some 12, .nilCheck (.t 11), some (9, false)⟩,
 ⟨some 13, .faddr 0 (.t 12), some (9, false)⟩,
 ⟨some 14, .load none (.t 13), some (9, false)⟩,
 ⟨some 15, .len (.t 14), some (9, false)⟩,
 ⟨some 16, .mov (.t 0), some (9, false)⟩,
 ⟨some 17, .nilCheck (.t 16), some (9, false)⟩,
 ⟨some 18, .faddr 1 (.t 17), some (9, false)⟩,
 ⟨some 19, .load none (.t 18), some (9, false)⟩,
 ⟨some 20, .bin .sub (.t 15) (.t 19), some (9, false)⟩,
 ⟨some 21, .bin .gtr (.t 10) (.t 20), some (9, false)⟩,
 ⟨some 22, .pick (.t 9) (.k (.d (.bool true))) (.t 21), none⟩]
def s141r2 : List SOper := [
 ⟨some 23, .mov (.t 0), none⟩,
 ⟨some 24, .nilCheck (.t 23), none⟩,
 ⟨some 25, .faddr 2 (.t 24), none⟩,
 ⟨none, .store none (.t 25) (.k (.d (.bool true))), none⟩]
def s141r3 : List SOper := [
 ⟨some 4, .mov (.k (.d .nilsl)), none⟩]
def s141r4 : List SOper := [
 ⟨some 26, .mov (.t 0), none⟩,
 ⟨some 27, .nilCheck (.t 26), none⟩,
 ⟨some 28, .faddr 1 (.t 27), none⟩,
 ⟨some 29, .load none (.t 28), none⟩,
 ⟨some 30, .mov (.t 1), none⟩,
 ⟨some 31, .bin .add (.t 29) (.t 30), none⟩,
 ⟨some 32, .nilCheck (.t 26), none⟩,
 ⟨some 33, .faddr 1 (.t 32), none⟩,
 ⟨none, .store none (.t 33) (.t 31), none⟩]
def s141r5 : List SOper := [
 ⟨some 34, .mov (.t 0), none⟩,
 ⟨some 35, .nilCheck (.t 34), none⟩,
 ⟨some 36, .faddr 0 (.t 35), none⟩,
 ⟨some 37, .load none (.t 36), none⟩,
 ⟨some 38, .mov (.t 0), none⟩,
 ⟨some 39, .nilCheck (.t 38), none⟩,
 ⟨some 40, .faddr 1 (.t 39), none⟩,
 ⟨some 41, .load none (.t 40), none⟩,
 ⟨some 42, .mov (.t 1), none⟩,
 ⟨some 43, .bin .sub (.t 41) (.t 42), none⟩,
 ⟨some 44, .mov (.t 0), none⟩,
 ⟨some 45, .nilCheck (.t 44), none⟩,
 ⟨some 46, .faddr 1 (.t 45), none⟩,
 ⟨some 47, .load none (.t 46), none⟩,
 ⟨some 48, .slice 1 (.t 37) (some (.t 43)) (some (.t 47)) none, none⟩,
 ⟨some 4, .mov (.t 48), none⟩]
def s141 : SCode := (.seq (.region s141r0 0 []) (.seq (.seq (.region s141r1 0 []) (.cond (.t 22) (.seq (.region s141r2 0 []) (.seq (.region s141r3 0 []) .ret)) .skip)) (.seq (.region s141r4 0 []) (.seq (.region s141r5 0 []) .ret))))
theorem xgw : CodeIs s141.eq_1 := qc s141.eq_1
theorem q2e : RegIs s141r0.eq_1 := qa
theorem q2f : RegIs s141r1.eq_1 := qa
theorem q2g : RegIs s141r2.eq_1 := qa
theorem q2h : RegIs s141r3.eq_1 := qa
theorem q2i : RegIs s141r4.eq_1 := qa
theorem q2j : RegIs s141r5.eq_1 := qa
attribute [go_sem] q2e q2f q2g q2h q2i q2j xgw
theorem q6e : FnIs Try.prog 141 Try.f141 [] news s141 [.tmp 4] 49 := xg follows Try.func141
def s118r0 : List SOper := [
 ⟨some 2, .mov (.k (.d (.int .i64 0))), none⟩]
def s118r1 : List SOper := [
 ⟨some 3, .mov (.t 0), none⟩,
 ⟨some 4, .eqnil false .ptr (.t 3), none⟩]
def s118r2 : List SOper := [
 ⟨some 2, .mov (.k (.d (.int .i64 0))), none⟩]
def s118r3 : List SOper := [
 ⟨some 5, .mov (.t 0), none⟩,
 ⟨some 6, .nilCheck (.t 5), none⟩,
 ⟨some 7, .faddr 0 (.t 6), none⟩,
 ⟨some 8, .load none (.t 7), none⟩,
 ⟨some 9, .len (.t 8), none⟩,
 ⟨some 10, .mov (.t 0), none⟩,
 ⟨some 11, .nilCheck (.t 10), none⟩,
 ⟨some 12, .faddr 1 (.t 11), none⟩,
 ⟨some 13, .load none (.t 12), none⟩,
 ⟨some 14, .bin .sub (.t 9) (.t 13), none⟩,
 ⟨some 2, .mov (.t 14), none⟩]
def s118 : SCode := (.seq (.region s118r0 0 []) (.seq (.seq (.region s118r1 0 []) (.cond (.t 4) (.seq (.region s118r2 0 []) .ret) .skip)) (.seq (.region s118r3 0 []) .ret)))
theorem xgx : CodeIs s118.eq_1 := qc s118.eq_1
theorem q2k : RegIs s118r0.eq_1 := qa
theorem q2l : RegIs s118r1.eq_1 := qa
theorem q2m : RegIs s118r2.eq_1 := qa
theorem q2n : RegIs s118r3.eq_1 := qa
attribute [go_sem] q2k q2l q2m q2n xgx
theorem xfu : FnIs Try.prog 118 Try.f118 [] news s118 [.tmp 2] 15 := xg follows Try.func118
def s84r0 : List SOper := [
 ⟨some 2, .mov (.k (.d (.int .i64 0))), none⟩]
def s84r1 : List SOper := [
 ⟨some 4, .mov (.t 0), none⟩,
 ⟨some 5, .eqnil false .ptr (.t 4), none⟩,
 ⟨some 3, .mov (.t 5), none⟩]
def s84r2 : List SOper := [
 ⟨some 2, .mov (.k (.d (.int .i64 7))), none⟩]
def s84r3 : List SOper := [
 ⟨some 7, .mov (.t 0), none⟩,
 ⟨some 8, .nilCheck (.t 7), none⟩,
 ⟨some 9, .faddr 2 (.t 8), none⟩,
 ⟨some 10, .load none (.t 9), none⟩,
 ⟨some 11, .mov (.t 10), none⟩,
 ⟨some 12, .mov (.t 0), some (11, false)⟩,
 ⟨some 13, .call (.k (.d (.func (.func 118) [] []))) [(.t 12)], some (11, false)⟩,
 ⟨some 14, .bin .gtr (.t 13) (.k (.d (.int .i64 0))), some (11, false)⟩,
 ⟨some 15, .pick (.t 11) (.k (.d (.bool true))) (.t 14), none⟩,
 ⟨some 6, .mov (.t 15), none⟩]
def s84r4 : List SOper := [
 ⟨some 2, .mov (.k (.d (.int .i64 4))), none⟩]
def s84r5 : List SOper := [
 ⟨some 2, .mov (.k (.d (.int .i64 0))), none⟩]
def s84 : SCode := (.seq (.region s84r0 0 []) (.seq (.block 0 (.seq (.region s84r1 0 []) (.cond (.t 3) (.seq (.region s84r2 0 []) .ret) (.seq (.region s84r3 0 []) (.cond (.t 6) (.seq (.region s84r4 0 []) .ret) .skip))))) (.seq (.region s84r5 0 []) .ret)))
theorem e84 : CodeIs s84.eq_1 := qc s84.eq_1
theorem xcg : RegIs s84r0.eq_1 := qa
theorem xch : RegIs s84r1.eq_1 := qa
theorem xci : RegIs s84r2.eq_1 := qa
theorem xcj : RegIs s84r3.eq_1 := qa
theorem xck : RegIs s84r4.eq_1 := qa
theorem xcl : RegIs s84r5.eq_1 := qa
attribute [go_sem] xcg xch xci xcj xck xcl e84
theorem F84 : FnIs Try.prog 84 Try.f84 [] news s84 [.tmp 2] 16 := xg follows Try.func84
end
theorem qua (b : List UInt8) (hb : b.length ≤ 1000000000) : ACall Try.prog 61 [.d (.sl 1 (byteRows b))] [] (.d (.ptr 0 0)) [rdO ⟨b, 0, false⟩] := by
 refine F61.go ?_
 try (refine ev ?_; try exact True.intro)
 (repeat (with_reducible refine ob ?_))
 try (refine ev2 @rdO.eq_1 @Int.ofNat_zero ?_; try exact True.intro)
theorem qgv (r : Rd) (n : Nat) (hr : r.Ok) (hn : n ≤ 1000000000) : ACall Try.prog 141 [.d (.ptr 0 0), .d (.int .i64 n)] [rdO r] (.d (.sl 1 (byteRows (rNext n r).1))) [rdO (rNext n r).2] := by
 have h1 := hr.len
 have h2 := hr.pos
 have e1 : IntKind.i64.wrap ((r.b.length : Int) - (r.pos : Int)) = ((r.b.length - r.pos : Nat) : Int) := by rw [qu (by unfold I64; omega)]; omega
 have e2 : IntKind.i64.wrap ((r.pos : Int) + (n : Int)) = ((r.pos + n : Nat) : Int) := by rw [qu (by unfold I64; omega)]; omega
 have e3 : IntKind.i64.wrap ((r.pos : Int) + (n : Int) - (n : Int)) = ((r.pos : Nat) : Int) := by rw [qu (by unfold I64; omega)]; omega
 have e5 : ((r.pos : Int) + (n : Int)).toNat = r.pos + n := by omega
 refine q6e.go ?_
 try (refine ev2 @rdO.eq_1 @e1 ?_; try exact True.intro)
 refine ⟨fun h => by rw [h]; rfl, ?_⟩
 have hd : (r.failed || decide ((n : Int) > ((r.b.length - r.pos : Nat) : Int))) = (r.failed || decide (r.b.length - r.pos < n)) := by
  congr 1; exact decide_eq_decide.2 (by omega)
 refine xt _ (fun h => ?_) (fun h => ?_)
 ·rw [hd] at h
  have hx : rNext n r = ([], { r with failed := true }) := by unfold rNext; rw [if_pos h]
  try (refine ev2 @hx @qj ?_; try exact True.intro)
 ·rw [hd] at h
  have hx : rNext n r = ((r.b.drop r.pos).take n, { r with pos := r.pos + n }) := by unfold rNext; rw [if_neg (by rw [h]; simp)]
  simp only [Bool.or_eq_false_iff, decide_eq_false_iff_not] at h
  have e4 : r.pos + n - r.pos = n := by omega
  try (refine ev2 @hx @e2 ?_; try exact True.intro)
  try (refine ev1 @e3 ?_; try exact True.intro)
  (repeat (with_reducible refine ob ?_))
  try (refine ev6 @xp @qx @e4 @e3 @e5 @Int.toNat_natCast ?_; try exact True.intro)
theorem vw {r : Rd} (hr : r.Ok) (n : Nat) : (rNext n r).2.Ok ∧ (rNext n r).2.b = r.b := by
 unfold rNext
 split
 ·exact ⟨⟨hr.len, hr.pos⟩, rfl⟩
 ·rename_i h
  simp only [Bool.or_eq_true, decide_eq_true_eq, not_or] at h
  have := hr.pos
  exact ⟨⟨hr.len, by simp only; omega⟩, rfl⟩
theorem qub (r : Rd) (hr : r.Ok) : ACall Try.prog 118 [.d (.ptr 0 0)] [rdO r] (.d (.int .i64 (r.b.length - r.pos : Nat))) [rdO r] := by
 have h1 := hr.len
 have h2 := hr.pos
 have e1 : IntKind.i64.wrap ((r.b.length : Int) - (r.pos : Int)) = ((r.b.length - r.pos : Nat) : Int) := by rw [qu (by unfold I64; omega)]; omega
 refine xfu.go ?_
 try (refine ev1 @rdO.eq_1 ?_; try exact True.intro)
 (repeat (with_reducible refine ob ?_)); refine no_ ?_
 try (refine ev1 @e1 ?_; try exact True.intro)
def rEnd (r : Rd) : Int := if r.failed || decide (r.pos < r.b.length) then 4 else 0
theorem qws (r : Rd) (hr : r.Ok) : ACall Try.prog 84 [.d (.ptr 0 0)] [rdO r] (.d (.int .i64 (rEnd r))) [rdO r] := by
 have h2 := hr.pos
 have hl := qub r hr
 simp only [rdO] at hl
 obtain ⟨b, p, f⟩ := r
 refine F84.go ?_
 try (refine ev1 @rdO.eq_1 ?_; try exact True.intro)
 (repeat (with_reducible refine ob ?_)); refine no_ ?_
 cases f
 ·try (refine ev ?_; try exact True.intro)
  (repeat (with_reducible refine ob ?_)); refine clO [0] xfu (hl) ?_
  try (refine ev ?_; try exact True.intro)
  refine xt _ (fun h => ?_) (fun h => ?_)
  ·have hx : rEnd ⟨b, p, false⟩ = 4 := by unfold rEnd; rw [if_pos]; simp at h ⊢; omega
   try (refine ev1 @hx ?_; try exact True.intro)
  ·have hx : rEnd ⟨b, p, false⟩ = 0 := by unfold rEnd; rw [if_neg]; simp at h ⊢; omega
   try (refine ev1 @hx ?_; try exact True.intro)
 ·try (refine ev ?_; try exact True.intro)
  refine qct (.int .i64 0) rfl ?_
  try (refine ev1 @rEnd.eq_1 ?_; try exact True.intro)
  (repeat (with_reducible refine ob ?_)); refine y8 ?_
  try (refine ev ?_; try exact True.intro)
def unz (u : Nat) : Int := if u % 2 = 0 then (u / 2 : Nat) else -((u / 2 : Nat) : Int) - 1
def rIntG : Nat → Nat → Nat → Rd → Int × Rd
 | 0, _, _, r => (0, { r with failed := true })
 | k + 1, i, u, r =>
  if (rNext 1 r).2.failed then (0, (rNext 1 r).2) else
   if ((rNext 1 r).1.headD 0).toNat < 128 then (unz ((u + ((rNext 1 r).1.headD 0).toNat % 128 * 128 ^ i) % 18446744073709551616), { (rNext 1 r).2 with failed := (((rNext 1 r).1.headD 0).toNat == 0 && decide (0 < i)) || (decide (i = 9) && decide (((rNext 1 r).1.headD 0).toNat > 1)) })
   else rIntG k (i + 1) ((u + ((rNext 1 r).1.headD 0).toNat % 128 * 128 ^ i) % 18446744073709551616) (rNext 1 r).2
def rInt (r : Rd) : Int × Rd := rIntG 10 0 0 r
noncomputable section
set_option maxRecDepth 100000
def s106r0 : List SOper := [
 ⟨some 2, .mov (.k (.d (.int .i64 0))), none⟩]
def s106r1 : List SOper := [
 ⟨some 3, .mov (.k (.d (.int .u64 0))), none⟩]
def s106r2 : List SOper := [
 ⟨some 6, .mov (.k (.d (.int .i64 0))), none⟩]
def s106r3 : List SOper := [
 ⟨some 7, .bin .lss (.t 6) (.k (.d (.int .i64 10))), none⟩]
def s106r4 : List SOper := [
 ⟨some 8, .mov (.t 6), none⟩,
 ⟨some 4, .mov (.t 8), none⟩]
def s106r5 : List SOper := [
 ⟨some 9, .mov (.t 0), none⟩,
 ⟨some 10, .call (.k (.d (.func (.func 141) [] []))) [(.t 9), (.k (.d (.int .i64 1)))], none⟩,
 ⟨some 5, .mov (.t 10), none⟩]
def s106r6 : List SOper := [
 ⟨some 11, .mov (.t 0), none⟩,
 ⟨some 12, .nilCheck (.t 11), none⟩,
 ⟨some 13, .faddr 2 (.t 12), none⟩,
 ⟨some 14, .load none (.t 13), none⟩]
def s106r7 : List SOper := [
 ⟨some 2, .mov (.k (.d (.int .i64 0))), none⟩]
def s106r8 : List SOper := [
 ⟨some 15, .mov (.t 3), none⟩,
 ⟨some 16, .mov (.t 5), none⟩,
 ⟨some 17, .iaddr 1 (.t 16) (.k (.d (.int .i64 0))), none⟩,
 ⟨some 18, .load none (.t 17), none⟩,
 ⟨some 19, .bin .and (.t 18) (.k (.d (.int .u8 127))), none⟩,
 ⟨some 20, .conv .u64 (.t 19), none⟩,
 ⟨some 21, .mov (.t 4), none⟩,
 ⟨some 22, .bin .mul (.k (.d (.int .i64 7))) (.t 21), none⟩,
 ⟨some 23, .bin .shl (.t 20) (.t 22), none⟩,
 ⟨some 24, .bin .or (.t 15) (.t 23), none⟩,
 ⟨some 3, .mov (.t 24), none⟩]
def s106r9 : List SOper := [
 ⟨some 25, .mov (.t 5), none⟩,
 ⟨some 26, .iaddr 1 (.t 25) (.k (.d (.int .i64 0))), none⟩,
 ⟨some 27, .load none (.t 26), none⟩,
 ⟨some 28, .bin .lss (.t 27) (.k (.d (.int .u8 128))), none⟩]
def s106r10 : List SOper := [
 ⟨some 29, .mov (.t 0), none⟩,
 ⟨some 30, .mov (.t 5), none⟩,
 ⟨some 31, .iaddr 1 (.t 30) (.k (.d (.int .i64 0))), none⟩,
 ⟨some 32, .load none (.t 31), none⟩,
 ⟨some 33, .bin .eql (.t 32) (.k (.d (.int .u8 0))), none⟩,
 ⟨some 34, .mov (.t 33), none⟩,
 ⟨some 35, .mov (.t 4), some (34, true)⟩,
 ⟨some 36, .bin .gtr (.t 35) (.k (.d (.int .i64 0))), some (34, true)⟩,
 ⟨some 37, .pick (.t 34) (.t 36) (.k (.d (.bool false))), none⟩,
 ⟨some 38, .mov (.t 37), none⟩,
 ⟨some 39, .mov (.t 4), some (38, false)⟩,
 ⟨some 40, .bin .eql (.t 39) (.k (.d (.int .i64 9))), some (38, false)⟩,
 ⟨some 41, .mov (.t 40), some (38, false)⟩,
 ⟨some 42, .mov (.t 5), some (41, true)⟩,
 ⟨some 43, .iaddr 1 (.t 42) (.k (.d (.int .i64 0))), some (41, true)⟩,
 ⟨some 44, .load none (.t 43), some (41, true)⟩,
 ⟨some 45, .bin .gtr (.t 44) (.k (.d (.int .u8 1))), some (41, true)⟩,
 ⟨some 46, .pick (.t 41) (.t 45) (.k (.d (.bool false))), some (38, false)⟩,
 ⟨some 47, .pick (.t 38) (.k (.d (.bool true))) (.t 46), none⟩,
 ⟨some 48, .nilCheck (.t 29), none⟩,
 ⟨some 49, .faddr 2 (.t 48), none⟩,
 ⟨none, .store none (.t 49) (.t 47), none⟩]
def s106r11 : List SOper := [
 ⟨some 50, .mov (.t 3), none⟩,
 ⟨some 51, .bin .shr (.t 50) (.k (.d (.int .u64 1))), none⟩,
 ⟨some 52, .conv .i64 (.t 51), none⟩,
 ⟨some 53, .mov (.t 3), none⟩,
 ⟨some 54, .bin .and (.t 53) (.k (.d (.int .u64 1))), none⟩,
 ⟨some 55, .conv .i64 (.t 54), none⟩,
 ⟨some 56, .neg (.t 55), none⟩,
 ⟨some 57, .bin .xor (.t 52) (.t 56), none⟩,
 ⟨some 2, .mov (.t 57), none⟩]
def s106r12 : List SOper := [
 ⟨some 58, .bin .add (.t 6) (.k (.d (.int .i64 1))), none⟩,
 ⟨some 6, .mov (.t 58), none⟩]
def s106l13 : SCode := (.seq (.region s106r3 0 []) (.seq (.cond (.t 7) .skip (.exit 0)) (.seq (.block 1 (.seq (.region s106r4 0 []) (.seq (.region s106r5 0 []) (.seq (.seq (.region s106r6 0 []) (.cond (.t 14) (.seq (.region s106r7 0 []) .ret) .skip)) (.seq (.region s106r8 0 []) (.seq (.region s106r9 0 []) (.cond (.t 28) (.seq (.region s106r10 0 []) (.seq (.region s106r11 0 []) .ret)) .skip))))))) (.region s106r12 0 []))))
theorem qwt : CodeIs s106l13.eq_1 := qc s106l13.eq_1
def s106r14 : List SOper := [
 ⟨some 59, .mov (.t 0), none⟩,
 ⟨some 60, .nilCheck (.t 59), none⟩,
 ⟨some 61, .faddr 2 (.t 60), none⟩,
 ⟨none, .store none (.t 61) (.k (.d (.bool true))), none⟩]
def s106r15 : List SOper := [
 ⟨some 2, .mov (.k (.d (.int .i64 0))), none⟩]
def s106 : SCode := (.seq (.region s106r0 0 []) (.seq (.region s106r1 0 []) (.seq (.seq (.region s106r2 0 []) (.block 0 (.loop s106l13))) (.seq (.region s106r14 0 []) (.seq (.region s106r15 0 []) .ret)))))
theorem xgy : CodeIs s106.eq_1 := qc s106.eq_1
theorem q2o : RegIs s106r0.eq_1 := qa
theorem q2p : RegIs s106r1.eq_1 := qa
theorem q2q : RegIs s106r2.eq_1 := qa
theorem q2r : RegIs s106r3.eq_1 := qa
theorem q2s : RegIs s106r4.eq_1 := qa
theorem q2t : RegIs s106r5.eq_1 := qa
theorem q2u : RegIs s106r6.eq_1 := qa
theorem q2v : RegIs s106r7.eq_1 := qa
theorem q2w : RegIs s106r8.eq_1 := qa
theorem q2x : RegIs s106r9.eq_1 := qa
theorem qwu : RegIs s106r10.eq_1 := qa
theorem qwv : RegIs s106r11.eq_1 := qa
theorem qww : RegIs s106r12.eq_1 := qa
theorem qwx : RegIs s106r14.eq_1 := qa
theorem qwy : RegIs s106r15.eq_1 := qa
attribute [go_sem] q2o q2p q2q q2r q2s q2t q2u q2v q2w q2x qwu qwv qww qwt qwx qwy xgy
theorem xcm : FnIs Try.prog 106 Try.f106 [] news s106 [.tmp 2] 62 := xg follows Try.func106
end
theorem qr0 (s : List UInt8) (h : s ≠ []) : (byteRows s).getD 0 [] = [byteD (s.headD 0)] := by
 cases s with
 | nil => exact absurd rfl h
 | cons c s => rfl
theorem qjc {r : Rd} (h : (rNext 1 r).2.failed = false) : ∃ c, (rNext 1 r).1 = [c] := by
 unfold rNext at h ⊢
 split at h
 ·cases h
 ·rename_i hn
  rw [if_neg hn]
  simp only [Bool.or_eq_true, decide_eq_true_eq, not_or] at hn
  have : r.pos < r.b.length := by omega
  exact ⟨r.b[r.pos], by simp only; rw [List.drop_eq_getElem_cons this]; rfl⟩
theorem qq9 (u d i : Nat) (hu : u < 2 ^ i) : u ||| d * 2 ^ i = u + d * 2 ^ i := by
 have := Nat.shiftLeft_add_eq_or_of_lt hu d
 rw [Nat.shiftLeft_eq] at this
 rw [Nat.or_comm, ← this, Nat.add_comm]
theorem qra (i : Nat) : 128 ^ i = 2 ^ (7 * i) := by rw [Nat.pow_mul]
theorem qjd (n a b : Nat) (ha : a < 2 ^ n) (hb : b < 2 ^ n) : bvAnd n (a : Int) (b : Int) = ((a &&& b : Nat) : Int) := by
 unfold bvAnd
 rw [BitVec.ofInt_natCast, BitVec.ofInt_natCast, BitVec.toNat_and, BitVec.toNat_ofNat, BitVec.toNat_ofNat, Nat.mod_eq_of_lt ha, Nat.mod_eq_of_lt hb]
theorem quc {u c i : Nat} (hi : i ≤ 9) (hu : u < 128 ^ i) (hc : c < 256) :
  IntKind.u64.wrap (bvOr 64 (u : Int) (IntKind.u64.wrap (IntKind.u64.wrap (IntKind.u8.wrap (bvAnd 8 (c : Int) 127)) * 2 ^ min (7 * i) 64))) = (((u + c % 128 * 128 ^ i) % 18446744073709551616 : Nat) : Int) := by
 have e1 : bvAnd 8 (c : Int) 127 = ((c % 128 : Nat) : Int) := by
  have := qjd 8 c 127 (by omega) (by omega)
  rw [show c &&& 127 = c % 128 from Nat.and_two_pow_sub_one_eq_mod c 7] at this
  exact this
 have e2 : min (7 * i) 64 = 7 * i := by omega
 have hcm : c % 128 < 128 := Nat.mod_lt _ (by decide)
 rw [e1, e2, qc2, show ((c % 128 : Nat) : Int) % 256 = ((c % 128 : Nat) : Int) by omega, f2 _ (by omega)]
 generalize c % 128 = d at hcm
 have e3 : ((d : Nat) : Int) * 2 ^ (7 * i) = ((d * 2 ^ (7 * i) : Nat) : Int) := by simp
 rw [e3]
 have hp : 128 ^ i ≤ 128 ^ 9 := Nat.pow_le_pow_right (by decide) hi
 have hp9 : (128 : Nat) ^ 9 = 9223372036854775808 := by decide
 have e4 : IntKind.u64.wrap ((d * 2 ^ (7 * i) : Nat) : Int) = ((d * 2 ^ (7 * i) % 18446744073709551616 : Nat) : Int) := by rw [yd]; omega
 rw [e4, ql6 _ _ (by omega) (Nat.mod_lt _ (by decide)), qra]
 rw [qra] at hu
 rcases Nat.lt_or_ge i 9 with h9 | h9
 ·have hp8 : 128 ^ i ≤ 128 ^ 8 := Nat.pow_le_pow_right (by decide) (by omega)
  have e8 : (128 : Nat) ^ 8 = 72057594037927936 := by decide
  rw [qra] at hp8
  have hd : d * 2 ^ (7 * i) ≤ 127 * 72057594037927936 := Nat.mul_le_mul (by omega) (by omega)
  rw [Nat.mod_eq_of_lt (by omega), qq9 _ _ _ hu, f2 _ (by omega), Nat.mod_eq_of_lt (by omega)]
 ·have : i = 9 := by omega
  subst this
  have e9 : (2 : Nat) ^ (7 * 9) = 9223372036854775808 := by decide
  rw [e9] at hu ⊢
  have h1 : d * 9223372036854775808 % 18446744073709551616 = d % 2 * 2 ^ 63 := by
   have : (2 : Nat) ^ 63 = 9223372036854775808 := by decide
   rw [this]; omega
  rw [h1, qq9 u (d % 2) 63 (by
   have : (2 : Nat) ^ 63 = 9223372036854775808 := by decide
   omega)]
  have : (2 : Nat) ^ 63 = 9223372036854775808 := by decide
  rw [this, f2 _ (by omega)]
  congr 1
  omega
theorem qud {u : Nat} (h : u < 18446744073709551616) :
  IntKind.i64.wrap (bvXor 64 (IntKind.i64.wrap ((u : Int).fdiv (2 ^ min 1 64))) (IntKind.i64.wrap (0 - IntKind.i64.wrap (IntKind.u64.wrap (bvAnd 64 (u : Int) 1))))) = unz u := by
 have e1 : (u : Int).fdiv (2 ^ min 1 64) = ((u / 2 : Nat) : Int) := by
  show (u : Int).fdiv 2 = _
  rw [Int.fdiv_eq_ediv_of_nonneg _ (by decide)]; omega
 have e2 : bvAnd 64 (u : Int) 1 = ((u % 2 : Nat) : Int) := by
  have := qjd 64 u 1 (by omega) (by omega)
  rw [show u &&& 1 = u % 2 from Nat.and_two_pow_sub_one_eq_mod u 1] at this
  exact this
 rw [e1, e2, f2 _ (by omega), qu (n := ((u / 2 : Nat) : Int)) (by unfold I64; omega), qu (n := ((u % 2 : Nat) : Int)) (by unfold I64; omega), qu (n := 0 - ((u % 2 : Nat) : Int)) (by unfold I64; omega)]
 unfold bvXor unz
 rcases Nat.mod_two_eq_zero_or_one u with hp | hp
 ·rw [hp, if_pos rfl]
  have : BitVec.ofInt 64 (0 - ((0 : Nat) : Int)) = 0#64 := by decide
  rw [this, BitVec.xor_zero, BitVec.ofInt_natCast, BitVec.toNat_ofNat, Nat.mod_eq_of_lt (by omega), qu (by unfold I64; omega)]
 ·rw [hp, if_neg (by decide)]
  have e3 : BitVec.ofInt 64 (0 - ((1 : Nat) : Int)) = BitVec.ofInt 64 18446744073709551615 := by decide
  rw [e3, ws _ (by omega)]
  simp only [IntKind.wrap, IntKind.bits, IntKind.signed]
  simp
  omega
def SrInt (i u : Nat) (r : Rd) : St := ⟨[(0, true, .d (.ptr 0 0)), (3, true, .d (.int .u64 (u : Nat))), (6, true, .d (.int .i64 (i : Nat)))], [rdO r], [], 1⟩
set_option maxRecDepth 10000 in
theorem qrb (r : Rd) (hr : r.Ok) : ACall Try.prog 106 [.d (.ptr 0 0)] [rdO r] (.d (.int .i64 (rInt r).1)) [rdO (rInt r).2] := by
 refine xcm.go ?_
 try (refine ev ?_; try exact True.intro)
 refine ql (fun i : { x : Nat × Nat × Rd // x.1 ≤ 10 ∧ x.2.1 < 18446744073709551616 ∧ (x.1 ≤ 9 → x.2.1 < 128 ^ x.1) ∧ x.2.2.Ok ∧ rIntG (10 - x.1) x.1 x.2.1 x.2.2 = rInt r } => SrInt i.val.1 i.val.2.1 i.val.2.2) (fun i => 10 - i.val.1) ⟨(0, 0, r), by simp, by simp, by simp, hr, rfl⟩ ?_ (fun i => ?_)
 ·try (refine ev3 @SrInt.eq_1 @Int.ofNat_zero @rdO.eq_1 ?_; try exact True.intro)
 obtain ⟨⟨i, u, rd⟩, hi, hu, hu2, hrd, hx⟩ := i
 simp only at hi hu hu2 hrd hx
 try (refine ev2 @SrInt.eq_1 @rdO.eq_1 ?_; try exact True.intro)
 (repeat (with_reducible refine ob ?_)); refine xt _ (fun h => ?_) (fun h => ?_)
 ·have hil : i < 10 := by simp at h; omega
  have hn := qgv rd 1 hrd (by decide)
  obtain ⟨hn1, hn2⟩ := vw hrd 1
  have hk : 10 - i = (10 - (i + 1)) + 1 := by omega
  rw [hk, rIntG] at hx
  try (refine ev ?_; try exact True.intro)
  simp only [rdO] at hn
  (repeat (with_reducible refine ob ?_)); refine clO [0] q6e (hn) ?_
  try (refine ev ?_; try exact True.intro)
  cases hf : (rNext 1 rd).2.failed with
  | true =>
   rw [if_pos hf] at hx
   (repeat (with_reducible refine ob ?_)); refine y8 ?_
   try (refine ev2 hx.symm @hf ?_; try exact True.intro)
  | false =>
   rw [if_neg (by rw [hf]; simp)] at hx
   obtain ⟨c, hc⟩ := qjc hf
   rw [hc] at hx ⊢
   simp only [List.headD_cons] at hx
   (repeat (with_reducible refine ob ?_)); refine no_ ?_
   have hcb : byteRows [c] = [[.int .u8 (c.toNat : Nat)]] := rfl
   have hlt := kc c
   have hi9 : i ≤ 9 := by omega
   have hu' : (u + c.toNat % 128 * 128 ^ i) % 18446744073709551616 < 18446744073709551616 := Nat.mod_lt _ (by decide)
   have hu2' : i ≤ 8 → (u + c.toNat % 128 * 128 ^ i) % 18446744073709551616 < 128 ^ (i + 1) := fun h8 => by
    have h1 := hu2 (by omega)
    have h2 : c.toNat % 128 < 128 := Nat.mod_lt _ (by decide)
    have h3 : c.toNat % 128 * 128 ^ i ≤ 127 * 128 ^ i := Nat.mul_le_mul_right _ (by omega)
    have h4 := Nat.mod_le (u + c.toNat % 128 * 128 ^ i) 18446744073709551616
    rw [Nat.pow_succ]
    omega
   have a1 : IntKind.i64.wrap (7 * (i : Int)) = ((7 * i : Nat) : Int) := by rw [qu (by unfold I64; omega)]; omega
   try (refine ev3 @hcb @a1 (quc hi9 (hu2 hi9) hlt) ?_; try exact True.intro)
   refine ⟨by omega, ?_⟩
   generalize (u + c.toNat % 128 * 128 ^ i) % 18446744073709551616 = u' at hx hu' hu2'
   refine xt _ (fun hc => ?_) (fun hc => ?_)
   ·have h128 : c.toNat < 128 := by simp at hc; omega
    simp only [h128, if_true] at hx
    try (refine ev ?_; try exact True.intro)
    have hb : (((c.toNat : Nat) : Int) == 0 && decide ((i : Int) > 0) || ((i : Int) == 9) && decide (((c.toNat : Nat) : Int) > 1)) = (c.toNat == 0 && decide (0 < i) || decide (i = 9) && decide (c.toNat > 1)) := by
     have b1 : (((c.toNat : Nat) : Int) == 0) = (c.toNat == 0) := by rw [Bool.eq_iff_iff]; simp
     have b2 : decide ((i : Int) > 0) = decide (0 < i) := decide_eq_decide.2 (by omega)
     have b3 : ((i : Int) == 9) = decide (i = 9) := by rw [Bool.eq_iff_iff]; simp; omega
     have b4 : decide (((c.toNat : Nat) : Int) > 1) = decide (c.toNat > 1) := decide_eq_decide.2 (by omega)
     rw [b1, b2, b3, b4]
    rw [qud hu', hb, ← hx]
    exact ⟨fun h => ⟨h, fun h2 => by rw [h, h2]; rfl⟩, fun h => by rw [h]; rfl, rfl, (by simp only [go_sem]), rfl, rfl⟩
   ·have h128 : ¬ c.toNat < 128 := by simp at hc; omega
    simp only [h128, if_false] at hx
    try (refine ev ?_; try exact True.intro)
    refine ⟨⟨(i + 1, u', (rNext 1 rd).2), hil, hu', fun h => hu2' (by omega), hn1, hx⟩, ?_, by dsimp only; omega⟩
    try (refine ev4 @SrInt.eq_1 @rdO.eq_1 @hf (qk (show i < 9223372036854775807 by omega)) ?_; try exact True.intro)
 ·have hil : i = 10 := by simp at h; omega
  subst hil
  have : rInt r = (0, { rd with failed := true }) := hx.symm
  try (refine ev2 @this @rdO.eq_1 ?_; try exact True.intro)
end Go.Proofs.Ytinnaedmdoengaa
namespace Go.Proofs.Ytinnaedmdoengaa
open Go.Abs
set_option linter.unusedSimpArgs false
set_option linter.unusedVariables false
attribute [go_sem] exists_eq' List.getD_nil
theorem qje : ∀ (k i u : Nat) {r : Rd}, r.Ok → (rIntG k i u r).2.Ok ∧ (rIntG k i u r).2.b = r.b
 | 0, i, u, r, h => ⟨⟨h.len, h.pos⟩, rfl⟩
 | k + 1, i, u, r, h => by
  have hn := vw h 1
  rw [rIntG]
  split
  ·exact hn
  ·split
   ·exact ⟨⟨hn.1.len, hn.1.pos⟩, hn.2⟩
   ·have := qje k (i + 1) ((u + ((rNext 1 r).1.headD 0).toNat % 128 * 128 ^ i) % 18446744073709551616) hn.1
    exact ⟨this.1, this.2.trans hn.2⟩
theorem qb2 {r : Rd} (h : r.Ok) : (rInt r).2.Ok ∧ (rInt r).2.b = r.b := qje 10 0 0 h
def Rd.fail (r : Rd) (f : Bool) : Rd := ⟨r.b, r.pos, f⟩
theorem Rd.Ok.fail {r : Rd} (h : r.Ok) (f : Bool) : (r.fail f).Ok := ⟨h.len, h.pos⟩
def rBounded (lo hi : Int) (r : Rd) : Int × Rd := ((rInt r).1, (rInt r).2.fail ((rInt r).2.failed || decide ((rInt r).1 < lo) || decide ((rInt r).1 > hi)))
def rBytes0 (most : Int) (r : Rd) : List UInt8 × Rd := if (rBounded 0 most r).2.failed then ([], (rBounded 0 most r).2) else rNext (rBounded 0 most r).1.toNat (rBounded 0 most r).2
def rBool0 (r : Rd) : Bool × Rd :=
 let f := (rNext 1 r).2.failed || decide (((rNext 1 r).1.headD 0).toNat > 1)
 (!f && ((rNext 1 r).1.headD 0).toNat == 1, (rNext 1 r).2.fail f)
def rPart {α : Type} (z : α) (f : Rd → α × Rd) (r : Rd) : α × Rd := if r.failed then (z, r) else if (f r).2.failed then (z, ⟨(f r).2.b, r.pos, (f r).2.failed⟩) else f r
theorem je {r : Rd} (h : r.Ok) (lo hi : Int) : (rBounded lo hi r).2.Ok ∧ (rBounded lo hi r).2.b = r.b := ⟨(qb2 h).1.fail _, (qb2 h).2⟩
theorem qdl {r : Rd} {lo hi : Int} (h : (rBounded lo hi r).2.failed = false) : lo ≤ (rBounded lo hi r).1 ∧ (rBounded lo hi r).1 ≤ hi := by
 simp only [rBounded, Rd.fail, Bool.or_eq_false_iff, decide_eq_false_iff_not] at h ⊢
 omega
theorem qdm {r : Rd} (h : r.Ok) (most : Int) : (rBytes0 most r).2.Ok ∧ (rBytes0 most r).2.b = r.b := by
 have h1 := je h 0 most
 unfold rBytes0
 split
 ·exact h1
 ·have h2 := vw h1.1 (rBounded 0 most r).1.toNat
  exact ⟨h2.1, h2.2.trans h1.2⟩
theorem qrc {r : Rd} (h : r.Ok) (n : Nat) : (rNext n r).1.length ≤ 1000000000 := by
 have := h.len
 unfold rNext
 split
 ·simp
 ·simp only [List.length_take, List.length_drop]; omega
theorem qlh {r : Rd} (h : r.Ok) (most : Int) : (rBytes0 most r).1.length ≤ 1000000000 := by
 unfold rBytes0
 split
 ·simp
 ·exact qrc (je h 0 most).1 _
theorem qfd {r : Rd} (h : r.Ok) : (rBool0 r).2.Ok ∧ (rBool0 r).2.b = r.b := ⟨(vw h 1).1.fail _, (vw h 1).2⟩
theorem qan {α : Type} {z : α} {f : Rd → α × Rd} {r : Rd} (h : r.Ok) (hf : (f r).2.Ok ∧ (f r).2.b = r.b) : (rPart z f r).2.Ok ∧ (rPart z f r).2.b = r.b := by
 unfold rPart
 split
 ·exact ⟨h, rfl⟩
 ·split
  ·exact ⟨⟨hf.1.len, by simp only [hf.2]; exact h.pos⟩, hf.2⟩
  ·exact hf
noncomputable section
set_option maxRecDepth 100000
def s112r0 : List SOper := [
 ⟨some 6, .mov (.k (.d (.int .i64 0))), none⟩]
def s112r1 : List SOper := [
 ⟨some 8, .mov (.t 0), none⟩,
 ⟨some 9, .call (.k (.d (.func (.func 106) [] []))) [(.t 8)], none⟩,
 ⟨some 7, .mov (.t 9), none⟩]
def s112r2 : List SOper := [
 ⟨some 10, .mov (.t 0), none⟩,
 ⟨some 11, .mov (.t 0), none⟩,
 ⟨some 12, .nilCheck (.t 11), none⟩,
 ⟨some 13, .faddr 2 (.t 12), none⟩,
 ⟨some 14, .load none (.t 13), none⟩,
 ⟨some 15, .mov (.t 14), none⟩,
 ⟨some 16, .mov (.t 7), some (15, false)⟩,
 ⟨some 17, .mov (.t 1), some (15, false)⟩,
 ⟨some 18, .bin .lss (.t 16) (.t 17), some (15, false)⟩,
 ⟨some 19, .pick (.t 15) (.k (.d (.bool true))) (.t 18), none⟩,
 ⟨some 20, .mov (.t 19), none⟩,
 ⟨some 21, .mov (.t 7), some (20, false)⟩,
 ⟨some 22, .mov (.t 2), some (20, false)⟩,
 ⟨some 23, .bin .gtr (.t 21) (.t 22), some (20, false)⟩,
 ⟨some 24, .pick (.t 20) (.k (.d (.bool true))) (.t 23), none⟩,
 ⟨some 25, .nilCheck (.t 10), none⟩,
 ⟨some 26, .faddr 2 (.t 25), none⟩,
 ⟨none, .store none (.t 26) (.t 24), none⟩]
def s112r3 : List SOper := [
 ⟨some 27, .mov (.t 7), none⟩,
 ⟨some 6, .mov (.t 27), none⟩]
def s112 : SCode := (.seq (.region s112r0 0 []) (.seq (.region s112r1 0 []) (.seq (.region s112r2 0 []) (.seq (.region s112r3 0 []) .ret))))
theorem xgz : CodeIs s112.eq_1 := qc s112.eq_1
theorem q2y : RegIs s112r0.eq_1 := qa
theorem q2z : RegIs s112r1.eq_1 := qa
theorem q20 : RegIs s112r2.eq_1 := qa
theorem q21 : RegIs s112r3.eq_1 := qa
attribute [go_sem] q2y q2z q20 q21 xgz
theorem xcn : FnIs Try.prog 112 Try.f112 [] news s112 [.tmp 6] 28 := xg follows Try.func112
def s117r0 : List SOper := [
 ⟨some 4, .mov (.k (.d .nilsl)), none⟩]
def s117r1 : List SOper := [
 ⟨some 6, .mov (.t 0), none⟩,
 ⟨some 7, .mov (.t 1), none⟩,
 ⟨some 8, .call (.k (.d (.func (.func 112) [] []))) [(.t 6), (.k (.d (.int .i64 0))), (.t 7)], none⟩,
 ⟨some 5, .mov (.t 8), none⟩]
def s117r2 : List SOper := [
 ⟨some 9, .mov (.t 0), none⟩,
 ⟨some 10, .nilCheck (.t 9), none⟩,
 ⟨some 11, .faddr 2 (.t 10), none⟩,
 ⟨some 12, .load none (.t 11), none⟩]
def s117r3 : List SOper := [
 ⟨some 4, .mov (.k (.d .nilsl)), none⟩]
def s117r4 : List SOper := [
 ⟨some 13, .mov (.t 0), none⟩,
 ⟨some 14, .mov (.t 5), none⟩,
 ⟨some 15, .call (.k (.d (.func (.func 141) [] []))) [(.t 13), (.t 14)], none⟩,
 ⟨some 4, .mov (.t 15), none⟩]
def s117 : SCode := (.seq (.region s117r0 0 []) (.seq (.region s117r1 0 []) (.seq (.seq (.region s117r2 0 []) (.cond (.t 12) (.seq (.region s117r3 0 []) .ret) .skip)) (.seq (.region s117r4 0 []) .ret))))
theorem xg0 : CodeIs s117.eq_1 := qc s117.eq_1
theorem q22 : RegIs s117r0.eq_1 := qa
theorem q23 : RegIs s117r1.eq_1 := qa
theorem q24 : RegIs s117r2.eq_1 := qa
theorem q25 : RegIs s117r3.eq_1 := qa
theorem q26 : RegIs s117r4.eq_1 := qa
attribute [go_sem] q22 q23 q24 q25 q26 xg0
theorem xfv : FnIs Try.prog 117 Try.f117 [] news s117 [.tmp 4] 16 := xg follows Try.func117
def s114r0 : List SOper := [
 ⟨some 2, .mov (.k (.d (.bool false))), none⟩]
def s114r1 : List SOper := [
 ⟨some 4, .mov (.t 0), none⟩,
 ⟨some 5, .call (.k (.d (.func (.func 141) [] []))) [(.t 4), (.k (.d (.int .i64 1)))], none⟩,
 ⟨some 3, .mov (.t 5), none⟩]
def s114r2 : List SOper := [
 ⟨some 6, .mov (.t 0), none⟩,
 ⟨some 7, .mov (.t 0), none⟩,
 ⟨some 8, .nilCheck (.t 7), none⟩,
 ⟨some 9, .faddr 2 (.t 8), none⟩,
 ⟨some 10, .load none (.t 9), none⟩,
 ⟨some 11, .mov (.t 10), none⟩,
 ⟨some 12, .mov (.t 3), some (11, false)⟩,
 ⟨some 13, .iaddr 1 (.t 12) (.k (.d (.int .i64 0))), some (11, false)⟩,
 ⟨some 14, .load none (.t 13), some (11, false)⟩,
 ⟨some 15, .bin .gtr (.t 14) (.k (.d (.int .u8 1))), some (11, false)⟩,
 ⟨some 16, .pick (.t 11) (.k (.d (.bool true))) (.t 15), none⟩,
 ⟨some 17, .nilCheck (.t 6), none⟩,
 ⟨some 18, .faddr 2 (.t 17), none⟩,
 ⟨none, .store none (.t 18) (.t 16), none⟩]
def s114r3 : List SOper := [
 ⟨some 19, .mov (.t 0), none⟩,
 ⟨some 20, .nilCheck (.t 19), none⟩,
 ⟨some 21, .faddr 2 (.t 20), none⟩,
 ⟨some 22, .load none (.t 21), none⟩,
 ⟨some 23, .not (.t 22), none⟩,
 ⟨some 24, .mov (.t 23), none⟩,
 ⟨some 25, .mov (.t 3), some (24, true)⟩,
 ⟨some 26, .iaddr 1 (.t 25) (.k (.d (.int .i64 0))), some (24, true)⟩,
 ⟨some 27, .load none (.t 26), some (24, true)⟩,
 ⟨some 28, .bin .eql (.t 27) (.k (.d (.int .u8 1))), some (24, true)⟩,
 ⟨some 29, .pick (.t 24) (.t 28) (.k (.d (.bool false))), none⟩,
 ⟨some 2, .mov (.t 29), none⟩]
def s114 : SCode := (.seq (.region s114r0 0 []) (.seq (.region s114r1 0 []) (.seq (.region s114r2 0 []) (.seq (.region s114r3 0 []) .ret))))
theorem xg1 : CodeIs s114.eq_1 := qc s114.eq_1
theorem q27 : RegIs s114r0.eq_1 := qa
theorem q28 : RegIs s114r1.eq_1 := qa
theorem q29 : RegIs s114r2.eq_1 := qa
theorem q3a : RegIs s114r3.eq_1 := qa
attribute [go_sem] q27 q28 q29 q3a xg1
theorem xfw : FnIs Try.prog 114 Try.f114 [] news s114 [.tmp 2] 30 := xg follows Try.func114
def s111r0 : List SOper := [
 ⟨some 3, .mov (.k (.d (.int .i64 0))), none⟩]
def s111r1 : List SOper := [
 ⟨some 4, .load none (.t 0), none⟩,
 ⟨some 5, .load none (.t 1), none⟩,
 ⟨some 6, .load none (.t 2), none⟩,
 ⟨some 7, .call (.k (.d (.func (.func 112) [] []))) [(.t 4), (.t 5), (.t 6)], none⟩,
 ⟨some 3, .mov (.t 7), none⟩]
def s111 : SCode := (.seq (.region s111r0 0 []) (.seq (.region s111r1 0 []) .ret))
theorem xg2 : CodeIs s111.eq_1 := qc s111.eq_1
theorem q3b : RegIs s111r0.eq_1 := qa
theorem q3c : RegIs s111r1.eq_1 := qa
attribute [go_sem] q3b q3c xg2
theorem xfx : FnIs Try.prog 111 Try.f111 [] news s111 [.tmp 3] 8 := xg follows Try.func111
def s116r0 : List SOper := [
 ⟨some 2, .mov (.k (.d .nilsl)), none⟩]
def s116r1 : List SOper := [
 ⟨some 3, .load none (.t 0), none⟩,
 ⟨some 4, .load none (.t 1), none⟩,
 ⟨some 5, .call (.k (.d (.func (.func 117) [] []))) [(.t 3), (.t 4)], none⟩,
 ⟨some 6, .append false 1 1 (.k (.d .nilsl)) (.t 5), none⟩,
 ⟨some 2, .mov (.t 6), none⟩]
def s116 : SCode := (.seq (.region s116r0 0 []) (.seq (.region s116r1 0 []) .ret))
theorem xg3 : CodeIs s116.eq_1 := qc s116.eq_1
theorem q3d : RegIs s116r0.eq_1 := qa
theorem q3e : RegIs s116r1.eq_1 := qa
attribute [go_sem] q3d q3e xg3
theorem xfy : FnIs Try.prog 116 Try.f116 [] news s116 [.tmp 2] 7 := xg follows Try.func116
def s105r0 : List SOper := [
 ⟨some 4, .mov (.k (.d (.int .i64 0))), none⟩]
def s105r1 : List SOper := [
 ⟨some 5, .mov (.k (.d (.int .i64 0))), none⟩]
def s105r2 : List SOper := [
 ⟨some 8, .mov (.t 0), none⟩,
 ⟨some 9, .eqnil false .ptr (.t 8), none⟩,
 ⟨some 10, .mov (.t 9), none⟩,
 ⟨some 11, .mov (.t 0), some (10, false)⟩,
 ⟨some 12, .nilCheck (.t 11), some (10, false)⟩,
 ⟨some 13, .faddr 2 (.t 12), some (10, false)⟩,
 ⟨some 14, .load none (.t 13), some (10, false)⟩,
 ⟨some 15, .pick (.t 10) (.k (.d (.bool true))) (.t 14), none⟩]
def s105r3 : List SOper := [
 ⟨some 16, .mov (.t 5), none⟩,
 ⟨some 4, .mov (.t 16), none⟩]
def s105r4 : List SOper := [
 ⟨some 17, .mov (.t 0), none⟩,
 ⟨some 18, .nilCheck (.t 17), none⟩,
 ⟨some 19, .faddr 1 (.t 18), none⟩,
 ⟨some 20, .load none (.t 19), none⟩,
 ⟨some 6, .mov (.t 20), none⟩]
def s105r5 : List SOper := [
 ⟨some 21, .mov (.t 1), none⟩,
 ⟨some 22, .call (.t 21) [], none⟩,
 ⟨some 7, .mov (.t 22), none⟩]
def s105r6 : List SOper := [
 ⟨some 23, .mov (.t 0), none⟩,
 ⟨some 24, .nilCheck (.t 23), none⟩,
 ⟨some 25, .faddr 2 (.t 24), none⟩,
 ⟨some 26, .load none (.t 25), none⟩]
def s105r7 : List SOper := [
 ⟨some 27, .mov (.t 0), none⟩,
 ⟨some 28, .mov (.t 6), none⟩,
 ⟨some 29, .nilCheck (.t 27), none⟩,
 ⟨some 30, .faddr 1 (.t 29), none⟩,
 ⟨none, .store none (.t 30) (.t 28), none⟩]
def s105r8 : List SOper := [
 ⟨some 31, .mov (.t 5), none⟩,
 ⟨some 4, .mov (.t 31), none⟩]
def s105r9 : List SOper := [
 ⟨some 32, .mov (.t 7), none⟩,
 ⟨some 4, .mov (.t 32), none⟩]
def s105 : SCode := (.seq (.region s105r0 0 []) (.seq (.region s105r1 0 []) (.seq (.seq (.region s105r2 0 []) (.cond (.t 15) (.seq (.region s105r3 0 []) .ret) .skip)) (.seq (.region s105r4 0 []) (.seq (.region s105r5 0 []) (.seq (.seq (.region s105r6 0 []) (.cond (.t 26) (.seq (.region s105r7 0 []) (.seq (.region s105r8 0 []) .ret)) .skip)) (.seq (.region s105r9 0 []) .ret)))))))
theorem xg4 : CodeIs s105.eq_1 := qc s105.eq_1
theorem q3f : RegIs s105r0.eq_1 := qa
theorem q3g : RegIs s105r1.eq_1 := qa
theorem q3h : RegIs s105r2.eq_1 := qa
theorem q3i : RegIs s105r3.eq_1 := qa
theorem q3j : RegIs s105r4.eq_1 := qa
theorem q3k : RegIs s105r5.eq_1 := qa
theorem q3l : RegIs s105r6.eq_1 := qa
theorem q3m : RegIs s105r7.eq_1 := qa
theorem q3n : RegIs s105r8.eq_1 := qa
theorem q3o : RegIs s105r9.eq_1 := qa
attribute [go_sem] q3f q3g q3h q3i q3j q3k q3l q3m q3n q3o xg4
theorem q6f : FnIs Try.prog 105 Try.f105 [] news s105 [.tmp 4] 33 := xg follows Try.func105
def s113r0 : List SOper := [
 ⟨some 4, .mov (.k (.d (.bool false))), none⟩]
def s113r1 : List SOper := [
 ⟨some 5, .mov (.k (.d (.bool false))), none⟩]
def s113r2 : List SOper := [
 ⟨some 8, .mov (.t 0), none⟩,
 ⟨some 9, .eqnil false .ptr (.t 8), none⟩,
 ⟨some 10, .mov (.t 9), none⟩,
 ⟨some 11, .mov (.t 0), some (10, false)⟩,
 ⟨some 12, .nilCheck (.t 11), some (10, false)⟩,
 ⟨some 13, .faddr 2 (.t 12), some (10, false)⟩,
 ⟨some 14, .load none (.t 13), some (10, false)⟩,
 ⟨some 15, .pick (.t 10) (.k (.d (.bool true))) (.t 14), none⟩]
def s113r3 : List SOper := [
 ⟨some 16, .mov (.t 5), none⟩,
 ⟨some 4, .mov (.t 16), none⟩]
def s113r4 : List SOper := [
 ⟨some 17, .mov (.t 0), none⟩,
 ⟨some 18, .nilCheck (.t 17), none⟩,
 ⟨some 19, .faddr 1 (.t 18), none⟩,
 ⟨some 20, .load none (.t 19), none⟩,
 ⟨some 6, .mov (.t 20), none⟩]
def s113r5 : List SOper := [
 ⟨some 21, .mov (.t 1), none⟩,
 ⟨some 22, .call (.t 21) [], none⟩,
 ⟨some 7, .mov (.t 22), none⟩]
def s113r6 : List SOper := [
 ⟨some 23, .mov (.t 0), none⟩,
 ⟨some 24, .nilCheck (.t 23), none⟩,
 ⟨some 25, .faddr 2 (.t 24), none⟩,
 ⟨some 26, .load none (.t 25), none⟩]
def s113r7 : List SOper := [
 ⟨some 27, .mov (.t 0), none⟩,
 ⟨some 28, .mov (.t 6), none⟩,
 ⟨some 29, .nilCheck (.t 27), none⟩,
 ⟨some 30, .faddr 1 (.t 29), none⟩,
 ⟨none, .store none (.t 30) (.t 28), none⟩]
def s113r8 : List SOper := [
 ⟨some 31, .mov (.t 5), none⟩,
 ⟨some 4, .mov (.t 31), none⟩]
def s113r9 : List SOper := [
 ⟨some 32, .mov (.t 7), none⟩,
 ⟨some 4, .mov (.t 32), none⟩]
def s113 : SCode := (.seq (.region s113r0 0 []) (.seq (.region s113r1 0 []) (.seq (.seq (.region s113r2 0 []) (.cond (.t 15) (.seq (.region s113r3 0 []) .ret) .skip)) (.seq (.region s113r4 0 []) (.seq (.region s113r5 0 []) (.seq (.seq (.region s113r6 0 []) (.cond (.t 26) (.seq (.region s113r7 0 []) (.seq (.region s113r8 0 []) .ret)) .skip)) (.seq (.region s113r9 0 []) .ret)))))))
theorem xg5 : CodeIs s113.eq_1 := qc s113.eq_1
theorem q3p : RegIs s113r0.eq_1 := qa
theorem q3q : RegIs s113r1.eq_1 := qa
theorem q3r : RegIs s113r2.eq_1 := qa
theorem q3s : RegIs s113r3.eq_1 := qa
theorem q3t : RegIs s113r4.eq_1 := qa
theorem q3u : RegIs s113r5.eq_1 := qa
theorem q3v : RegIs s113r6.eq_1 := qa
theorem q3w : RegIs s113r7.eq_1 := qa
theorem q3x : RegIs s113r8.eq_1 := qa
theorem q3y : RegIs s113r9.eq_1 := qa
attribute [go_sem] q3p q3q q3r q3s q3t q3u q3v q3w q3x q3y xg5
theorem xfz : FnIs Try.prog 113 Try.f113 [] news s113 [.tmp 4] 33 := xg follows Try.func113
def s115r0 : List SOper := [
 ⟨some 4, .mov (.k (.d .nilsl)), none⟩]
def s115r1 : List SOper := [
 ⟨some 5, .mov (.k (.d .nilsl)), none⟩]
def s115r2 : List SOper := [
 ⟨some 8, .mov (.t 0), none⟩,
 ⟨some 9, .eqnil false .ptr (.t 8), none⟩,
 ⟨some 10, .mov (.t 9), none⟩,
 ⟨some 11, .mov (.t 0), some (10, false)⟩,
 ⟨some 12, .nilCheck (.t 11), some (10, false)⟩,
 ⟨some 13, .faddr 2 (.t 12), some (10, false)⟩,
 ⟨some 14, .load none (.t 13), some (10, false)⟩,
 ⟨some 15, .pick (.t 10) (.k (.d (.bool true))) (.t 14), none⟩]
def s115r3 : List SOper := [
 ⟨some 16, .mov (.t 5), none⟩,
 ⟨some 4, .mov (.t 16), none⟩]
def s115r4 : List SOper := [
 ⟨some 17, .mov (.t 0), none⟩,
 ⟨some 18, .nilCheck (.t 17), none⟩,
 ⟨some 19, .faddr 1 (.t 18), none⟩,
 ⟨some 20, .load none (.t 19), none⟩,
 ⟨some 6, .mov (.t 20), none⟩]
def s115r5 : List SOper := [
 ⟨some 21, .mov (.t 1), none⟩,
 ⟨some 22, .call (.t 21) [], none⟩,
 ⟨some 7, .mov (.t 22), none⟩]
def s115r6 : List SOper := [
 ⟨some 23, .mov (.t 0), none⟩,
 ⟨some 24, .nilCheck (.t 23), none⟩,
 ⟨some 25, .faddr 2 (.t 24), none⟩,
 ⟨some 26, .load none (.t 25), none⟩]
def s115r7 : List SOper := [
 ⟨some 27, .mov (.t 0), none⟩,
 ⟨some 28, .mov (.t 6), none⟩,
 ⟨some 29, .nilCheck (.t 27), none⟩,
 ⟨some 30, .faddr 1 (.t 29), none⟩,
 ⟨none, .store none (.t 30) (.t 28), none⟩]
def s115r8 : List SOper := [
 ⟨some 31, .mov (.t 5), none⟩,
 ⟨some 4, .mov (.t 31), none⟩]
def s115r9 : List SOper := [
 ⟨some 32, .mov (.t 7), none⟩,
 ⟨some 4, .mov (.t 32), none⟩]
def s115 : SCode := (.seq (.region s115r0 0 []) (.seq (.region s115r1 0 []) (.seq (.seq (.region s115r2 0 []) (.cond (.t 15) (.seq (.region s115r3 0 []) .ret) .skip)) (.seq (.region s115r4 0 []) (.seq (.region s115r5 0 []) (.seq (.seq (.region s115r6 0 []) (.cond (.t 26) (.seq (.region s115r7 0 []) (.seq (.region s115r8 0 []) .ret)) .skip)) (.seq (.region s115r9 0 []) .ret)))))))
theorem xg6 : CodeIs s115.eq_1 := qc s115.eq_1
theorem q3z : RegIs s115r0.eq_1 := qa
theorem q30 : RegIs s115r1.eq_1 := qa
theorem q31 : RegIs s115r2.eq_1 := qa
theorem q32 : RegIs s115r3.eq_1 := qa
theorem q33 : RegIs s115r4.eq_1 := qa
theorem q34 : RegIs s115r5.eq_1 := qa
theorem q35 : RegIs s115r6.eq_1 := qa
theorem q36 : RegIs s115r7.eq_1 := qa
theorem q37 : RegIs s115r8.eq_1 := qa
theorem q38 : RegIs s115r9.eq_1 := qa
attribute [go_sem] q3z q30 q31 q32 q33 q34 q35 q36 q37 q38 xg6
theorem xf0 : FnIs Try.prog 115 Try.f115 [] news s115 [.tmp 4] 33 := xg follows Try.func115
def s62r0 : List SOper := [
 ⟨some 2, .mov (.k (.d (.int .i64 0))), none⟩]
def s62r1 : List SOper := [
 ⟨some 3, .mov (.t 0), none⟩,
 ⟨some 4, .mov (.t 0), none⟩,
 ⟨some 5, .mkFunc (.func 106) [(.t 4)] [], none⟩,
 ⟨some 6, .call (.k (.d (.func (.func 105) [] []))) [(.t 3), (.t 5)], none⟩,
 ⟨some 2, .mov (.t 6), none⟩]
def s62 : SCode := (.seq (.region s62r0 0 []) (.seq (.region s62r1 0 []) .ret))
theorem e62 : CodeIs s62.eq_1 := qc s62.eq_1
theorem xco : RegIs s62r0.eq_1 := qa
theorem xcp : RegIs s62r1.eq_1 := qa
attribute [go_sem] xco xcp e62
theorem F62 : FnIs Try.prog 62 Try.f62 [] news s62 [.tmp 2] 7 := xg follows Try.func62
def s80r0 : List SOper := [
 ⟨some 3, .box 3 (.t 0), none⟩,
 ⟨some 4, .box 2 (.t 1), none⟩,
 ⟨some 5, .box 1 (.t 2), none⟩,
 ⟨some 6, .mov (.k (.d (.int .i64 0))), none⟩]
def s80r1 : List SOper := [
 ⟨some 7, .load none (.t 3), none⟩,
 ⟨some 8, .mkFunc (.func 111) [] [(.t 3), (.t 4), (.t 5)], none⟩,
 ⟨some 9, .call (.k (.d (.func (.func 105) [] []))) [(.t 7), (.t 8)], none⟩,
 ⟨some 6, .mov (.t 9), none⟩]
def s80 : SCode := (.seq (.region s80r0 3 []) (.seq (.region s80r1 0 []) .ret))
theorem e80 : CodeIs s80.eq_1 := qc s80.eq_1
theorem xcq : RegIs s80r0.eq_1 := qa
theorem xcr : RegIs s80r1.eq_1 := qa
attribute [go_sem] xcq xcr e80
theorem F80 : FnIs Try.prog 80 Try.f80 [] news s80 [.tmp 6] 10 := xg follows Try.func80
def s82r0 : List SOper := [
 ⟨some 2, .mov (.k (.d (.bool false))), none⟩]
def s82r1 : List SOper := [
 ⟨some 3, .mov (.t 0), none⟩,
 ⟨some 4, .mov (.t 0), none⟩,
 ⟨some 5, .mkFunc (.func 114) [(.t 4)] [], none⟩,
 ⟨some 6, .call (.k (.d (.func (.func 113) [] []))) [(.t 3), (.t 5)], none⟩,
 ⟨some 2, .mov (.t 6), none⟩]
def s82 : SCode := (.seq (.region s82r0 0 []) (.seq (.region s82r1 0 []) .ret))
theorem e82 : CodeIs s82.eq_1 := qc s82.eq_1
theorem xcs : RegIs s82r0.eq_1 := qa
theorem xct : RegIs s82r1.eq_1 := qa
attribute [go_sem] xcs xct e82
theorem F82 : FnIs Try.prog 82 Try.f82 [] news s82 [.tmp 2] 7 := xg follows Try.func82
def s83r0 : List SOper := [
 ⟨some 2, .box 2 (.t 0), none⟩,
 ⟨some 3, .box 1 (.t 1), none⟩,
 ⟨some 4, .mov (.k (.d .nilsl)), none⟩]
def s83r1 : List SOper := [
 ⟨some 5, .load none (.t 2), none⟩,
 ⟨some 6, .mkFunc (.func 116) [] [(.t 2), (.t 3)], none⟩,
 ⟨some 7, .call (.k (.d (.func (.func 115) [] []))) [(.t 5), (.t 6)], none⟩,
 ⟨some 4, .mov (.t 7), none⟩]
def s83 : SCode := (.seq (.region s83r0 2 []) (.seq (.region s83r1 0 []) .ret))
theorem e83 : CodeIs s83.eq_1 := qc s83.eq_1
theorem xcu : RegIs s83r0.eq_1 := qa
theorem xcv : RegIs s83r1.eq_1 := qa
attribute [go_sem] xcu xcv e83
theorem F83 : FnIs Try.prog 83 Try.f83 [] news s83 [.tmp 4] 8 := xg follows Try.func83
def s81r0 : List SOper := [
 ⟨some 4, .mov (.k (.d (.str []))), none⟩]
def s81r1 : List SOper := [
 ⟨some 5, .mov (.t 0), none⟩,
 ⟨some 6, .mov (.t 1), none⟩,
 ⟨some 7, .call (.k (.d (.func (.func 83) [] []))) [(.t 5), (.t 6)], none⟩,
 ⟨some 8, .b2s (.t 7), none⟩,
 ⟨some 4, .mov (.t 8), none⟩]
def s81 : SCode := (.seq (.region s81r0 0 []) (.seq (.region s81r1 0 []) .ret))
theorem e81 : CodeIs s81.eq_1 := qc s81.eq_1
theorem xcw : RegIs s81r0.eq_1 := qa
theorem xcx : RegIs s81r1.eq_1 := qa
attribute [go_sem] xcw xcx e81
theorem F81 : FnIs Try.prog 81 Try.f81 [] news s81 [.tmp 4] 9 := xg follows Try.func81
end
theorem qdn (r : Rd) (lo hi : Int) (hr : r.Ok) : ACall Try.prog 112 [.d (.ptr 0 0), .d (.int .i64 lo), .d (.int .i64 hi)] [rdO r] (.d (.int .i64 (rBounded lo hi r).1)) [rdO (rBounded lo hi r).2] := by
 have hc := qrb r hr
 simp only [rdO] at hc
 refine xcn.go ?_
 try (refine ev3 @rdO.eq_1 @rBounded.eq_1 @Rd.fail.eq_1 ?_; try exact True.intro)
 generalize rInt r = x at hc ⊢
 obtain ⟨n, b, p, f⟩ := x
 (repeat (with_reducible refine ob ?_)); refine clO [0] xcm (hc) ?_
 try (refine ev ?_; try exact True.intro)
 cases f <;> simp
theorem qog (r : Rd) (most : Nat) (hr : r.Ok) (hm : most ≤ 1000000000) : ACall Try.prog 117 [.d (.ptr 0 0), .d (.int .i64 most)] [rdO r] (.d (.sl 1 (byteRows (rBytes0 most r).1))) [rdO (rBytes0 most r).2] := by
 have hc := qdn r 0 most hr
 have hin := qdl (r := r) (lo := 0) (hi := most)
 have hinv := (je hr 0 most).1
 refine xfv.go ?_
 try (refine ev1 @rBytes0.eq_1 ?_; try exact True.intro)
 generalize rBounded 0 most r = x at hc hin hinv ⊢
 obtain ⟨n, r1⟩ := x
 simp only [rdO] at hc
 try (refine ev1 @rdO.eq_1 ?_; try exact True.intro)
 (repeat (with_reducible refine ob ?_)); refine clO [0] xcn (hc) ?_
 try (refine ev ?_; try exact True.intro)
 cases hf : r1.failed
 ·obtain ⟨h1, h2⟩ := hin hf
  simp only at h1 h2
  have hn := qgv r1 n.toNat hinv (by omega)
  rw [Int.toNat_of_nonneg h1] at hn
  simp only [rdO, hf] at hn
  (repeat (with_reducible refine ob ?_)); refine no_ ?_
  try (refine ev ?_; try exact True.intro)
  (repeat (with_reducible refine ob ?_)); refine clO [0] q6e (hn) ?_
  try (refine ev ?_; try exact True.intro)
 ·(repeat (with_reducible refine ob ?_)); refine y8 ?_
  try (refine ev2 @hf @qj ?_; try exact True.intro)
theorem qoh {r : Rd} {n : Nat} (h : (rNext n r).2.failed = true) : (rNext n r).1 = [] := by
 unfold rNext at h ⊢
 split
 ·rfl
 ·rename_i hn
  rw [if_neg hn] at h
  simp only [Bool.or_eq_true, not_or] at hn
  exact absurd h hn.1
theorem qu5 (c : UInt8) : decide (((c.toNat : Nat) : Int) > 1) = decide (c.toNat > 1) := decide_eq_decide.2 (by omega)
theorem qu6 (c : UInt8) : (((c.toNat : Nat) : Int) == 1) = (c.toNat == 1) := by rw [Bool.eq_iff_iff]; simp; omega
theorem qrd (r : Rd) (hr : r.Ok) : ACall Try.prog 114 [.d (.ptr 0 0)] [rdO r] (.d (.bool (rBool0 r).1)) [rdO (rBool0 r).2] := by
 have hc := qgv r 1 hr (by decide)
 have h1 := qjc (r := r)
 have h0 := qoh (r := r) (n := 1)
 refine xfw.go ?_
 try (refine ev3 @rdO.eq_1 @rBool0.eq_1 @Rd.fail.eq_1 ?_; try exact True.intro)
 generalize rNext 1 r = x at hc h1 h0 ⊢
 obtain ⟨s, r1⟩ := x
 simp only [rdO] at hc
 try (refine ev ?_; try exact True.intro)
 (repeat (with_reducible refine ob ?_)); refine clO [0] q6e (hc) ?_
 simp only at h1
 cases hf : r1.failed
 ·obtain ⟨c, rfl⟩ := h1 hf
  have hcb : byteRows [c] = [[.int .u8 (c.toNat : Nat)]] := rfl
  try (refine ev2 @hcb @List.headD_cons.{0} ?_; try exact True.intro)
  exact ⟨by rw [qu5, qu6] <;> rfl, qu5 c⟩
 ·have hs := h0 hf
  simp only at hs
  subst hs
  try (refine ev2 @qj @List.getD_nil.{0} ?_; try exact True.intro)
theorem qli (r : Rd) (lo hi : Int) (hr : r.Ok) : ACall Try.prog 111 [.d (.ptr 1 0), .d (.ptr 2 0), .d (.ptr 3 0)] [rdO r, .row [.d (.ptr 0 0)], .row [.d (.int .i64 lo)], .row [.d (.int .i64 hi)]] (.d (.int .i64 (rBounded lo hi r).1)) [rdO (rBounded lo hi r).2, .row [.d (.ptr 0 0)], .row [.d (.int .i64 lo)], .row [.d (.int .i64 hi)]] := by
 have hc := qdn r lo hi hr
 simp only [rdO] at hc
 refine xfx.go ?_
 try (refine ev1 @rdO.eq_1 ?_; try exact True.intro)
 (repeat (with_reducible refine ob ?_)); refine clO [0] xcn (hc) ?_
 try (refine ev ?_; try exact True.intro)
theorem qre (r : Rd) (most : Nat) (hr : r.Ok) (hm : most ≤ 1000000000) : ACall Try.prog 116 [.d (.ptr 1 0), .d (.ptr 2 0)] [rdO r, .row [.d (.ptr 0 0)], .row [.d (.int .i64 most)]] (.d (.sl 1 (byteRows (rBytes0 most r).1))) [rdO (rBytes0 most r).2, .row [.d (.ptr 0 0)], .row [.d (.int .i64 most)]] := by
 have hc := qog r most hr hm
 have hln := qlh hr most
 simp only [rdO] at hc
 refine xfy.go ?_
 try (refine ev1 @rdO.eq_1 ?_; try exact True.intro)
 (repeat (with_reducible refine ob ?_)); refine clO [0] xfv (hc) ?_
 try (refine ev ?_; try exact True.intro)
 omega
def rIntP := rPart (0 : Int) rInt
def rBoundedP (lo hi : Int) := rPart (0 : Int) (rBounded lo hi)
def rBoolP := rPart false rBool0
def rBytesP (most : Int) := rPart ([] : List UInt8) (rBytes0 most)
theorem qoi (r : Rd) (hr : r.Ok) : ACall Try.prog 105 [.d (.ptr 0 0), .d (.func (.func 106) [.ptr 0 0] [])] [rdO r] (.d (.int .i64 (rIntP r).1)) [rdO (rIntP r).2] := by
 have hc := qrb r hr
 unfold rIntP
 unfold rPart
 obtain ⟨b, p, f⟩ := r
 simp only [rdO] at hc
 refine q6f.go ?_
 try (refine ev1 @rdO.eq_1 ?_; try exact True.intro)
 cases f
 ·try (refine ev ?_; try exact True.intro)
  (repeat (with_reducible refine ob ?_)); refine no_ ?_
  try (refine ev ?_; try exact True.intro)
  (repeat (with_reducible refine ob ?_)); refine clO [0] xcm (hc) ?_
  try (refine ev ?_; try exact True.intro)
  cases hf : (rInt ⟨b, p, false⟩).2.failed
  ·try (refine ev ?_; try exact True.intro)
   (repeat (with_reducible refine ob ?_)); refine no_ ?_
   try simp only [hf, if_false, go_sem, Nat.reduceAdd, Nat.reduceMul, Nat.reduceSub, Nat.reduceEqDiff, Nat.reduceLT, Nat.reduceLeDiff, Nat.reduceBEq, reduceIte, reduceCtorEq, Int.reduceAdd, Int.reduceLT, Int.reduceLE, Int.reduceGT, Int.reduceGE, Int.reduceEq, Int.reduceNe, Int.reduceBEq, Int.reduceBNe, Int.reduceToNat, Int.reduceNeg]
  ·try (refine ev ?_; try exact True.intro)
   (repeat (with_reducible refine ob ?_)); refine y8 ?_
   try (refine ev1 @hf ?_; try exact True.intro)
 ·try (refine ev ?_; try exact True.intro)
  (repeat (with_reducible refine ob ?_)); refine y8 ?_
  try (refine ev ?_; try exact True.intro)
theorem qee (r : Rd) (lo hi : Int) (hr : r.Ok) : ACall Try.prog 105 [.d (.ptr 0 0), .d (.func (.func 111) [] [.ptr 1 0, .ptr 2 0, .ptr 3 0])] [rdO r, .row [.d (.ptr 0 0)], .row [.d (.int .i64 lo)], .row [.d (.int .i64 hi)]] (.d (.int .i64 (rBoundedP lo hi r).1)) [rdO (rBoundedP lo hi r).2, .row [.d (.ptr 0 0)], .row [.d (.int .i64 lo)], .row [.d (.int .i64 hi)]] := by
 have hc := qli r lo hi hr
 unfold rBoundedP
 unfold rPart
 obtain ⟨b, p, f⟩ := r
 simp only [rdO] at hc
 refine q6f.go ?_
 try (refine ev1 @rdO.eq_1 ?_; try exact True.intro)
 cases f
 ·try (refine ev ?_; try exact True.intro)
  (repeat (with_reducible refine ob ?_)); refine no_ ?_
  try (refine ev ?_; try exact True.intro)
  (repeat (with_reducible refine ob ?_)); refine clO [0, 1, 2, 3] xfx (hc) ?_
  try (refine ev ?_; try exact True.intro)
  cases hf : (rBounded lo hi ⟨b, p, false⟩).2.failed
  ·try (refine ev ?_; try exact True.intro)
   (repeat (with_reducible refine ob ?_)); refine no_ ?_
   try simp only [hf, if_false, go_sem, Nat.reduceAdd, Nat.reduceMul, Nat.reduceSub, Nat.reduceEqDiff, Nat.reduceLT, Nat.reduceLeDiff, Nat.reduceBEq, reduceIte, reduceCtorEq, Int.reduceAdd, Int.reduceLT, Int.reduceLE, Int.reduceGT, Int.reduceGE, Int.reduceEq, Int.reduceNe, Int.reduceBEq, Int.reduceBNe, Int.reduceToNat, Int.reduceNeg]
  ·try (refine ev ?_; try exact True.intro)
   (repeat (with_reducible refine ob ?_)); refine y8 ?_
   try (refine ev1 @hf ?_; try exact True.intro)
 ·try (refine ev ?_; try exact True.intro)
  (repeat (with_reducible refine ob ?_)); refine y8 ?_
  try (refine ev ?_; try exact True.intro)
theorem qlj (r : Rd) (hr : r.Ok) : ACall Try.prog 113 [.d (.ptr 0 0), .d (.func (.func 114) [.ptr 0 0] [])] [rdO r] (.d (.bool (rBoolP r).1)) [rdO (rBoolP r).2] := by
 have hc := qrd r hr
 unfold rBoolP
 unfold rPart
 obtain ⟨b, p, f⟩ := r
 simp only [rdO] at hc
 refine xfz.go ?_
 try (refine ev1 @rdO.eq_1 ?_; try exact True.intro)
 cases f
 ·try (refine ev ?_; try exact True.intro)
  (repeat (with_reducible refine ob ?_)); refine no_ ?_
  try (refine ev ?_; try exact True.intro)
  (repeat (with_reducible refine ob ?_)); refine clO [0] xfw (hc) ?_
  try (refine ev ?_; try exact True.intro)
  cases hf : (rBool0 ⟨b, p, false⟩).2.failed
  ·try (refine ev ?_; try exact True.intro)
   (repeat (with_reducible refine ob ?_)); refine no_ ?_
   try simp only [hf, if_false, go_sem, Nat.reduceAdd, Nat.reduceMul, Nat.reduceSub, Nat.reduceEqDiff, Nat.reduceLT, Nat.reduceLeDiff, Nat.reduceBEq, reduceIte, reduceCtorEq, Int.reduceAdd, Int.reduceLT, Int.reduceLE, Int.reduceGT, Int.reduceGE, Int.reduceEq, Int.reduceNe, Int.reduceBEq, Int.reduceBNe, Int.reduceToNat, Int.reduceNeg]
  ·try (refine ev ?_; try exact True.intro)
   (repeat (with_reducible refine ob ?_)); refine y8 ?_
   try (refine ev1 @hf ?_; try exact True.intro)
 ·try (refine ev ?_; try exact True.intro)
  (repeat (with_reducible refine ob ?_)); refine y8 ?_
  try (refine ev ?_; try exact True.intro)
theorem qjf (r : Rd) (most : Nat) (hr : r.Ok) (hm : most ≤ 1000000000) : ACall Try.prog 115 [.d (.ptr 0 0), .d (.func (.func 116) [] [.ptr 1 0, .ptr 2 0])] [rdO r, .row [.d (.ptr 0 0)], .row [.d (.int .i64 most)]] (.d (.sl 1 (byteRows (rBytesP most r).1))) [rdO (rBytesP most r).2, .row [.d (.ptr 0 0)], .row [.d (.int .i64 most)]] := by
 have hc := qre r most hr hm
 unfold rBytesP
 unfold rPart
 obtain ⟨b, p, f⟩ := r
 simp only [rdO] at hc
 refine xf0.go ?_
 try (refine ev1 @rdO.eq_1 ?_; try exact True.intro)
 cases f
 ·try (refine ev ?_; try exact True.intro)
  (repeat (with_reducible refine ob ?_)); refine no_ ?_
  try (refine ev ?_; try exact True.intro)
  (repeat (with_reducible refine ob ?_)); refine clO [0, 1, 2] xfy (hc) ?_
  try (refine ev ?_; try exact True.intro)
  cases hf : (rBytes0 most ⟨b, p, false⟩).2.failed
  ·try (refine ev ?_; try exact True.intro)
   (repeat (with_reducible refine ob ?_)); refine no_ ?_
   try simp only [hf, if_false, go_sem, Nat.reduceAdd, Nat.reduceMul, Nat.reduceSub, Nat.reduceEqDiff, Nat.reduceLT, Nat.reduceLeDiff, Nat.reduceBEq, reduceIte, reduceCtorEq, Int.reduceAdd, Int.reduceLT, Int.reduceLE, Int.reduceGT, Int.reduceGE, Int.reduceEq, Int.reduceNe, Int.reduceBEq, Int.reduceBNe, Int.reduceToNat, Int.reduceNeg]
  ·try (refine ev ?_; try exact True.intro)
   (repeat (with_reducible refine ob ?_)); refine y8 ?_
   try (refine ev1 @hf ?_; try exact True.intro)
 ·try (refine ev ?_; try exact True.intro)
  (repeat (with_reducible refine ob ?_)); refine y8 ?_
  try (refine ev ?_; try exact True.intro)
theorem q6g (r : Rd) (hr : r.Ok) : ACall Try.prog 62 [.d (.ptr 0 0)] [rdO r] (.d (.int .i64 (rIntP r).1)) [rdO (rIntP r).2] := by
 have hc := qoi r hr
 simp only [rdO] at hc
 refine F62.go ?_
 try (refine ev1 @rdO.eq_1 ?_; try exact True.intro)
 (repeat (with_reducible refine ob ?_)); refine clO [0] q6f (hc) ?_
 try (refine ev ?_; try exact True.intro)
theorem qjg (r : Rd) (lo hi : Int) (hr : r.Ok) : ACall Try.prog 80 [.d (.ptr 0 0), .d (.int .i64 lo), .d (.int .i64 hi)] [rdO r] (.d (.int .i64 (rBoundedP lo hi r).1)) [rdO (rBoundedP lo hi r).2] := by
 have hc := qee r lo hi hr
 simp only [rdO] at hc
 refine F80.go ?_
 try (refine ev1 @rdO.eq_1 ?_; try exact True.intro)
 refine clO [0, 1, 2, 3] q6f hc ?_
 try (refine ev ?_; try exact True.intro)
theorem qrf (r : Rd) (hr : r.Ok) : ACall Try.prog 82 [.d (.ptr 0 0)] [rdO r] (.d (.bool (rBoolP r).1)) [rdO (rBoolP r).2] := by
 have hc := qlj r hr
 simp only [rdO] at hc
 refine F82.go ?_
 try (refine ev1 @rdO.eq_1 ?_; try exact True.intro)
 (repeat (with_reducible refine ob ?_)); refine clO [0] xfz (hc) ?_
 try (refine ev ?_; try exact True.intro)
theorem qfe (r : Rd) (most : Nat) (hr : r.Ok) (hm : most ≤ 1000000000) : ACall Try.prog 83 [.d (.ptr 0 0), .d (.int .i64 most)] [rdO r] (.d (.sl 1 (byteRows (rBytesP most r).1))) [rdO (rBytesP most r).2] := by
 have hc := qjf r most hr hm
 simp only [rdO] at hc
 refine F83.go ?_
 try (refine ev1 @rdO.eq_1 ?_; try exact True.intro)
 refine clO [0, 1, 2] xf0 hc ?_
 try (refine ev ?_; try exact True.intro)
theorem qrg (r : Rd) (most : Nat) (hr : r.Ok) (hm : most ≤ 1000000000) : ACall Try.prog 81 [.d (.ptr 0 0), .d (.int .i64 most)] [rdO r] (.d (.str (rBytesP most r).1)) [rdO (rBytesP most r).2] := by
 have hc := qfe r most hr hm
 simp only [rdO] at hc
 refine F81.go ?_
 try (refine ev1 @rdO.eq_1 ?_; try exact True.intro)
 (repeat (with_reducible refine ob ?_)); refine clO [0] F83 (hc) ?_
 try (refine ev ?_; try exact True.intro)
end Go.Proofs.Ytinnaedmdoengaa
namespace Go.Proofs.Ytinnaedmdoengaa
open Go.Abs
set_option linter.unusedSimpArgs false
set_option linter.unusedVariables false
theorem q39 {r : Rd} (h : r.Ok) : (rIntP r).2.Ok ∧ (rIntP r).2.b = r.b := qan h (qb2 h)
theorem qao {r : Rd} (h : r.Ok) (lo hi : Int) : (rBoundedP lo hi r).2.Ok ∧ (rBoundedP lo hi r).2.b = r.b := qan h (je h lo hi)
theorem qa7 {r : Rd} (h : r.Ok) : (rBoolP r).2.Ok ∧ (rBoolP r).2.b = r.b := qan h (qfd h)
theorem va {r : Rd} (h : r.Ok) (most : Int) : (rBytesP most r).2.Ok ∧ (rBytesP most r).2.b = r.b := qan h (qdm h most)
theorem qbs (r : Rd) (lo hi : Int) : (rBoundedP lo hi r).1 = 0 ∨ (lo ≤ (rBoundedP lo hi r).1 ∧ (rBoundedP lo hi r).1 ≤ hi) := by
 unfold rBoundedP rPart
 split
 ·exact .inl rfl
 ·split
  ·exact .inl rfl
  ·rename_i h
   exact .inr (qdl (by simpa using h))
def rOp (r : Rd) : OpS × Rd :=
 (⟨(rBytesP 40 r).1, (rBoolP (rBytesP 40 r).2).1, (rBytesP 900 (rBoolP (rBytesP 40 r).2).2).1⟩, (rBytesP 900 (rBoolP (rBytesP 40 r).2).2).2)
def rOpsA : Nat → Rd → List OpS × Rd
 | 0, r => ([], r)
 | n + 1, r => ((rOpsA n r).1 ++ [(rOp (rOpsA n r).2).1], (rOp (rOpsA n r).2).2)
theorem qwz {r : Rd} (h : r.Ok) : (rOp r).2.Ok ∧ (rOp r).2.b = r.b := by
 have h1 := va h 40
 have h2 := qa7 h1.1
 have h3 := va h2.1 900
 exact ⟨h3.1, h3.2.trans (h2.2.trans h1.2)⟩
theorem qap {r : Rd} (h : r.Ok) : ∀ n, (rOpsA n r).2.Ok ∧ (rOpsA n r).2.b = r.b ∧ (rOpsA n r).1.length = n
 | 0 => ⟨h, rfl, rfl⟩
 | n + 1 => by
  have ih := qap h n
  have := qwz ih.1
  exact ⟨this.1, this.2.trans ih.2.1, by simp only [rOpsA, List.length_append, ih.2.2, List.length_singleton]⟩
def decRd (b : List UInt8) : List OpS × Rd := rOpsA (rBoundedP 1 20 ⟨b, 0, false⟩).1.toNat (rBoundedP 1 20 ⟨b, 0, false⟩).2
def sDecode (b : List UInt8) : List OpS × Int := if rEnd (decRd b).2 ≠ 0 then ([], 4) else if (sEncode (decRd b).1).2 ≠ 0 then ([], 4) else ((decRd b).1, 0)
noncomputable section
set_option maxRecDepth 100000
def s32r0 : List SOper := [
 ⟨some 2, .mov (.k (.d .nilsl)), none⟩,
 ⟨some 3, .mov (.k (.d (.int .i64 0))), none⟩]
def s32r1 : List SOper := [
 ⟨some 10, .mov (.t 0), none⟩,
 ⟨some 11, .call (.k (.d (.func (.func 61) [] []))) [(.t 10)], none⟩,
 ⟨some 4, .mov (.t 11), none⟩]
def s32r2 : List SOper := [
 ⟨some 12, .mov (.t 4), none⟩,
 ⟨some 13, .call (.k (.d (.func (.func 80) [] []))) [(.t 12), (.k (.d (.int .i64 1))), (.k (.d (.int .i64 20)))], none⟩,
 ⟨some 5, .mov (.t 13), none⟩]
def s32r3 : List SOper := [
 ⟨some 6, .mov (.k (.d .nilsl)), none⟩]
def s32r4 : List SOper := [
 ⟨some 14, .mov (.t 5), none⟩,
 ⟨some 15, .mov (.k (.d (.int .i64 0))), none⟩]
def s32r5 : List SOper := [
 ⟨some 16, .bin .lss (.t 15) (.t 14), none⟩]
def s32r6 : List SOper := [
 ⟨some 17, .mov (.t 4), none⟩,
 ⟨some 18, .call (.k (.d (.func (.func 81) [] []))) [(.t 17), (.k (.d (.int .i64 40)))], none⟩,
 ⟨some 19, .build [(.str []), (.bool false), .nilsl] [(0, 1, (.t 18))], none⟩,
 ⟨some 7, .alloc 1 [(.d (.str [])), (.d (.bool false)), (.d .nilsl)], none⟩,
 ⟨none, .store (some 3) (.t 7) (.t 19), none⟩]
def s32r7 : List SOper := [
 ⟨some 20, .mov (.t 4), none⟩,
 ⟨some 21, .call (.k (.d (.func (.func 82) [] []))) [(.t 20)], none⟩,
 ⟨some 22, .faddr 1 (.t 7), none⟩,
 ⟨none, .store none (.t 22) (.t 21), none⟩]
def s32r8 : List SOper := [
 ⟨some 23, .mov (.t 4), none⟩,
 ⟨some 24, .call (.k (.d (.func (.func 83) [] []))) [(.t 23), (.k (.d (.int .i64 900)))], none⟩,
 ⟨some 25, .faddr 2 (.t 7), none⟩,
 ⟨none, .store none (.t 25) (.t 24), none⟩]
def s32r9 : List SOper := [
 ⟨some 26, .mov (.t 6), none⟩,
 ⟨some 27, .load (some 3) (.t 7), none⟩,
 ⟨some 28, .buildSlice false 3 1 [(.str []), (.bool false), .nilsl] [(0, 3, (.t 27))], none⟩,
 ⟨some 29, .append false 3 48 (.t 26) (.t 28), none⟩,
 ⟨some 6, .mov (.t 29), none⟩]
def s32r10 : List SOper := [
 ⟨some 30, .bin .add (.t 15) (.k (.d (.int .i64 1))), none⟩,
 ⟨some 15, .mov (.t 30), none⟩]
def s32l11 : SCode := (.seq (.region s32r5 0 []) (.seq (.cond (.t 16) .skip (.exit 0)) (.seq (.block 1 (.seq (.region s32r6 1 []) (.seq (.region s32r7 0 []) (.seq (.region s32r8 0 []) (.region s32r9 0 []))))) (.region s32r10 0 []))))
theorem q4a : CodeIs s32l11.eq_1 := qc s32l11.eq_1
def s32r12 : List SOper := [
 ⟨some 31, .mov (.t 4), none⟩,
 ⟨some 32, .call (.k (.d (.func (.func 84) [] []))) [(.t 31)], none⟩,
 ⟨some 33, .bin .neq (.t 32) (.k (.d (.int .i64 0))), none⟩]
def s32r13 : List SOper := [
 ⟨some 2, .mov (.k (.d .nilsl)), none⟩,
 ⟨some 3, .mov (.k (.d (.int .i64 4))), none⟩]
def s32r14 : List SOper := [
 ⟨some 35, .mov (.t 6), none⟩,
 ⟨some 36, .call (.k (.d (.func (.func 30) [] []))) [(.t 35)], none⟩,
 ⟨some 34, .mov (.t 36), none⟩,
 ⟨some 37, .extract 0 (.t 34), none⟩,
 ⟨some 38, .extract 1 (.t 34), none⟩,
 ⟨some 8, .mov (.t 37), none⟩,
 ⟨some 9, .mov (.t 38), none⟩]
def s32r15 : List SOper := [
 ⟨some 39, .mov (.t 9), none⟩,
 ⟨some 40, .bin .neq (.t 39) (.k (.d (.int .i64 0))), none⟩]
def s32r16 : List SOper := [
 ⟨some 2, .mov (.k (.d .nilsl)), none⟩,
 ⟨some 3, .mov (.k (.d (.int .i64 4))), none⟩]
def s32r17 : List SOper := [
 ⟨some 41, .mov (.t 6), none⟩,
 ⟨some 2, .mov (.t 41), none⟩,
 ⟨some 3, .mov (.k (.d (.int .i64 0))), none⟩]
def s32 : SCode := (.seq (.region s32r0 0 []) (.seq (.region s32r1 1 []) (.seq (.region s32r2 0 []) (.seq (.region s32r3 0 []) (.seq (.seq (.region s32r4 0 []) (.block 0 (.loop s32l11))) (.seq (.seq (.region s32r12 0 []) (.cond (.t 33) (.seq (.region s32r13 0 []) .ret) .skip)) (.seq (.seq (.region s32r14 0 []) (.seq (.region s32r15 0 []) (.cond (.t 40) (.seq (.region s32r16 0 []) .ret) .skip))) (.seq (.region s32r17 0 []) .ret))))))))
theorem e32 : CodeIs s32.eq_1 := qc s32.eq_1
theorem xcy : RegIs s32r0.eq_1 := qa
theorem xcz : RegIs s32r1.eq_1 := qa
theorem xc0 : RegIs s32r2.eq_1 := qa
theorem xc1 : RegIs s32r3.eq_1 := qa
theorem xc2 : RegIs s32r4.eq_1 := qa
theorem xc3 : RegIs s32r5.eq_1 := qa
theorem xc4 : RegIs s32r6.eq_1 := qa
theorem xc5 : RegIs s32r7.eq_1 := qa
theorem xc6 : RegIs s32r8.eq_1 := qa
theorem xc7 : RegIs s32r9.eq_1 := qa
theorem q4b : RegIs s32r10.eq_1 := qa
theorem q4c : RegIs s32r12.eq_1 := qa
theorem q4d : RegIs s32r13.eq_1 := qa
theorem q4e : RegIs s32r14.eq_1 := qa
theorem q4f : RegIs s32r15.eq_1 := qa
theorem q4g : RegIs s32r16.eq_1 := qa
theorem q4h : RegIs s32r17.eq_1 := qa
attribute [go_sem] xcy xcz xc0 xc1 xc2 xc3 xc4 xc5 xc6 xc7 q4b q4a q4c q4d q4e q4f q4g q4h e32
theorem F32 : FnIs Try.prog 32 Try.f32 [] news s32 [.tmp 2, .tmp 3] 42 := xg follows Try.func32
end
def Sdec (n : Nat) (r : Rd) (i : { i : Nat // i ≤ n }) : St :=
 ⟨[(4, true, .d (.ptr 0 0)), (6, true, .own 0 3 ((rOpsA i.val r).1.map encOp)), (14, true, .d (.int .i64 (n : Nat))), (15, true, .d (.int .i64 (i.val : Nat)))], [rdO (rOpsA i.val r).2], [0], 1⟩
set_option maxRecDepth 10000 in
theorem qff (b : List UInt8) (hb : b.length ≤ 1000000000) : ACall Try.prog 32 [.d (.sl 1 (byteRows b))] [] (.tup [.d (.sl 3 ((sDecode b).1.map encOp)), .d (.int .i64 (sDecode b).2)]) [] := by
 have hnew := qua b hb
 have hr0 : (⟨b, 0, false⟩ : Rd).Ok := ⟨hb, Nat.zero_le _⟩
 have hbd := qjg ⟨b, 0, false⟩ 1 20 hr0
 have hin := qbs ⟨b, 0, false⟩ 1 20
 have hinv := (qao hr0 1 20).1
 unfold sDecode decRd
 generalize rBoundedP 1 20 ⟨b, 0, false⟩ = x at hbd hin hinv ⊢
 obtain ⟨n, r⟩ := x
 simp only at hin hinv
 have hn0 : n = ((n.toNat : Nat) : Int) := by omega
 generalize n.toNat = m at hn0
 subst hn0
 simp only [rdO] at hnew hbd
 refine F32.goT ?_
 try (refine ev ?_; try exact True.intro)
 (repeat (with_reducible refine ob ?_)); refine clO [0] F61 (hnew) ?_ (hfit := by first | exact ⟨qb, trivial⟩ | exact ⟨qb, qb, trivial⟩ | simp only [encOp, encEn, encStep, go_sem, Nat.reduceAdd, Nat.reduceMul, Nat.reduceSub, Nat.reduceEqDiff, Nat.reduceLT, Nat.reduceLeDiff, Nat.reduceBEq, reduceIte, reduceCtorEq, Int.reduceAdd, Int.reduceLT, Int.reduceLE, Int.reduceGT, Int.reduceGE, Int.reduceEq, Int.reduceNe, Int.reduceBEq, Int.reduceBNe, Int.reduceToNat, Int.reduceNeg])
 try (refine ev ?_; try exact True.intro)
 (repeat (with_reducible refine ob ?_)); refine clO [0] F80 (hbd) ?_ (hfit := by first | exact ⟨qb, trivial⟩ | exact ⟨qb, qb, trivial⟩ | simp only [encOp, encEn, encStep, go_sem, Nat.reduceAdd, Nat.reduceMul, Nat.reduceSub, Nat.reduceEqDiff, Nat.reduceLT, Nat.reduceLeDiff, Nat.reduceBEq, reduceIte, reduceCtorEq, Int.reduceAdd, Int.reduceLT, Int.reduceLE, Int.reduceGT, Int.reduceGE, Int.reduceEq, Int.reduceNe, Int.reduceBEq, Int.reduceBNe, Int.reduceToNat, Int.reduceNeg])
 try (refine ev ?_; try exact True.intro)
 refine ql (Sdec m r) (fun i => m - i.val) ⟨0, Nat.zero_le _⟩ ?_ (fun i => ?_)
 ·try simp only [Sdec, rdO, rOpsA, List.map_nil, Int.ofNat_zero, go_sem, Nat.reduceAdd, Nat.reduceMul, Nat.reduceSub, Nat.reduceEqDiff, Nat.reduceLT, Nat.reduceLeDiff, Nat.reduceBEq, reduceIte, reduceCtorEq, Int.reduceAdd, Int.reduceLT, Int.reduceLE, Int.reduceGT, Int.reduceGE, Int.reduceEq, Int.reduceNe, Int.reduceBEq, Int.reduceBNe, Int.reduceToNat, Int.reduceNeg]
 obtain ⟨i, hi⟩ := i
 have hri := qap hinv i
 try (refine ev2 @Sdec.eq_1 @rdO.eq_1 ?_; try exact True.intro)
 (repeat (with_reducible refine ob ?_)); refine xt _ (fun h => ?_) (fun h => ?_)
 ·have hil : i < m := by simp at h; omega
  have hT := qrg (rOpsA i r).2 40 hri.1 (by decide)
  have hiT := va hri.1 40
  have hB := qrf _ hiT.1
  have hiB := qa7 hiT.1
  have hV := qfe _ 900 hiB.1 (by decide)
  simp only [rdO] at hT hB hV
  try (refine ev ?_; try exact True.intro)
  (repeat (with_reducible refine ob ?_)); refine clO [0] F81 (hT) ?_ (hfit := by first | exact ⟨qb, trivial⟩ | exact ⟨qb, qb, trivial⟩ | simp only [encOp, encEn, encStep, go_sem, Nat.reduceAdd, Nat.reduceMul, Nat.reduceSub, Nat.reduceEqDiff, Nat.reduceLT, Nat.reduceLeDiff, Nat.reduceBEq, reduceIte, reduceCtorEq, Int.reduceAdd, Int.reduceLT, Int.reduceLE, Int.reduceGT, Int.reduceGE, Int.reduceEq, Int.reduceNe, Int.reduceBEq, Int.reduceBNe, Int.reduceToNat, Int.reduceNeg])
  try (refine ev ?_; try exact True.intro)
  (repeat (with_reducible refine ob ?_)); refine clO [0] F82 (hB) ?_ (hfit := by first | exact ⟨qb, trivial⟩ | exact ⟨qb, qb, trivial⟩ | simp only [encOp, encEn, encStep, go_sem, Nat.reduceAdd, Nat.reduceMul, Nat.reduceSub, Nat.reduceEqDiff, Nat.reduceLT, Nat.reduceLeDiff, Nat.reduceBEq, reduceIte, reduceCtorEq, Int.reduceAdd, Int.reduceLT, Int.reduceLE, Int.reduceGT, Int.reduceGE, Int.reduceEq, Int.reduceNe, Int.reduceBEq, Int.reduceBNe, Int.reduceToNat, Int.reduceNeg])
  try (refine ev ?_; try exact True.intro)
  (repeat (with_reducible refine ob ?_)); refine clO [0] F83 (hV) ?_ (hfit := by first | exact ⟨qb, trivial⟩ | exact ⟨qb, qb, trivial⟩ | simp only [encOp, encEn, encStep, go_sem, Nat.reduceAdd, Nat.reduceMul, Nat.reduceSub, Nat.reduceEqDiff, Nat.reduceLT, Nat.reduceLeDiff, Nat.reduceBEq, reduceIte, reduceCtorEq, Int.reduceAdd, Int.reduceLT, Int.reduceLE, Int.reduceGT, Int.reduceGE, Int.reduceEq, Int.reduceNe, Int.reduceBEq, Int.reduceBNe, Int.reduceToNat, Int.reduceNeg])
  try (refine ev ?_; try exact True.intro)
  (repeat (with_reducible refine ob ?_))
  refine ⟨⟨i + 1, hil⟩, ?_, by dsimp only; omega⟩
  try simp only [Sdec, rdO, rOpsA, rOp, List.map_append, List.map_cons, List.map_nil, encOp, qk (show i < 9223372036854775807 by omega), go_sem, Nat.reduceAdd, Nat.reduceMul, Nat.reduceSub, Nat.reduceEqDiff, Nat.reduceLT, Nat.reduceLeDiff, Nat.reduceBEq, reduceIte, reduceCtorEq, Int.reduceAdd, Int.reduceLT, Int.reduceLE, Int.reduceGT, Int.reduceGE, Int.reduceEq, Int.reduceNe, Int.reduceBEq, Int.reduceBNe, Int.reduceToNat, Int.reduceNeg]
 ·have hil : i = m := by simp at h; omega
  subst hil
  have hE := qws (rOpsA i r).2 hri.1
  simp only [rdO] at hE
  try (refine ev ?_; try exact True.intro)
  (repeat (with_reducible refine ob ?_)); refine clO [0] F84 (hE) ?_ (hfit := by first | exact ⟨qb, trivial⟩ | exact ⟨qb, qb, trivial⟩ | simp only [encOp, encEn, encStep, go_sem, Nat.reduceAdd, Nat.reduceMul, Nat.reduceSub, Nat.reduceEqDiff, Nat.reduceLT, Nat.reduceLeDiff, Nat.reduceBEq, reduceIte, reduceCtorEq, Int.reduceAdd, Int.reduceLT, Int.reduceLE, Int.reduceGT, Int.reduceGE, Int.reduceEq, Int.reduceNe, Int.reduceBEq, Int.reduceBNe, Int.reduceToNat, Int.reduceNeg])
  try (refine ev ?_; try exact True.intro)
  refine xt _ (fun h => ?_) (fun h => ?_)
  ·rw [if_pos (show rEnd (rOpsA i r).2 ≠ 0 by simpa using h)]
   try (refine ev ?_; try exact True.intro)
  ·rw [if_neg (show ¬ rEnd (rOpsA i r).2 ≠ 0 by simpa using h)]
   try (refine ev ?_; try exact True.intro)
   (repeat (with_reducible refine ob ?_)); first | refine cl F30 (wb (rOpsA i r).1 (by omega)) ?_ | refine clF F30 (wb (rOpsA i r).1 (by omega)) (fun _ => by simp only [encOp, encEn, encStep, go_sem, Nat.reduceAdd, Nat.reduceMul, Nat.reduceSub, Nat.reduceEqDiff, Nat.reduceLT, Nat.reduceLeDiff, Nat.reduceBEq, reduceIte, reduceCtorEq, Int.reduceAdd, Int.reduceLT, Int.reduceLE, Int.reduceGT, Int.reduceGE, Int.reduceEq, Int.reduceNe, Int.reduceBEq, Int.reduceBNe, Int.reduceToNat, Int.reduceNeg]) ?_
   try (refine ev ?_; try exact True.intro)
   refine xt _ (fun h => ?_) (fun h => ?_)
   ·rw [if_pos (show (sEncode (rOpsA i r).1).2 ≠ 0 by simpa using h)]
    try (refine ev ?_; try exact True.intro)
   ·rw [if_neg (show ¬ (sEncode (rOpsA i r).1).2 ≠ 0 by simpa using h)]
    try (refine ev ?_; try exact True.intro)
end Go.Proofs.Ytinnaedmdoengaa
namespace Go.Proofs.Ytinnaedmdoengaa
open Go.Abs
set_option linter.unusedSimpArgs false
set_option linter.unusedVariables false
def dG : Nat → Nat → Nat → List UInt8 → Option (Int × List UInt8)
 | 0, _, _, _ => none
 | _ + 1, _, _, [] => none
 | k + 1, j, u, c :: l =>
  if c.toNat < 128 then (if ((c.toNat == 0 && decide (0 < j)) || (decide (j = 9) && decide (c.toNat > 1))) = true then none else some (unz (u + c.toNat * 128 ^ j), l))
  else dG k (j + 1) (u + c.toNat % 128 * 128 ^ j) l
def dInt (l : List UInt8) : Option (Int × List UInt8) := dG 10 0 0 l
def Got {α : Type} (o : Option (α × List UInt8)) (b : List UInt8) (x : α × Rd) : Prop := match o with
 | some (v, l) => x = (v, ⟨b, b.length - l.length, false⟩)
 | none => x.2.failed = true
def Reads {α : Type} (z : α) (f : Rd → α × Rd) (d : List UInt8 → Option (α × List UInt8)) : Prop :=
 ∀ r : Rd, r.Ok → f r = if r.failed = true then (z, r) else match d (r.b.drop r.pos) with
  | some (v, l) => (v, ⟨r.b, r.b.length - l.length, false⟩)
  | none => (z, ⟨r.b, r.pos, true⟩)
def Tails {α : Type} (d : List UInt8 → Option (α × List UInt8)) : Prop := ∀ l0 v l, d l0 = some (v, l) → ∃ p, l0 = p ++ l
theorem kq {b : List UInt8} {p : Nat} {q l : List UInt8} (hp : p ≤ b.length) (h : b.drop p = q ++ l) : b.drop (b.length - l.length) = l ∧ l.length ≤ b.length := by
 have h1 := congrArg List.length h
 simp only [List.length_drop, List.length_append] at h1
 have h2 : b.drop (p + q.length) = l := by rw [← List.drop_drop, h, List.drop_left]
 have e : b.length - l.length = p + q.length := by omega
 rw [e]; exact ⟨h2, by omega⟩
theorem qrh : ∀ (k j u : Nat) {l0 : List UInt8} {v : Int} {l : List UInt8}, dG k j u l0 = some (v, l) → ∃ p, l0 = p ++ l
 | 0, _, _, _, _, _, h => by simp [dG] at h
 | k + 1, j, u, [], _, _, h => by simp [dG] at h
 | k + 1, j, u, c :: l0, v, l, h => by
  rw [dG] at h
  split at h
  ·split at h
   ·cases h
   ·cases h; exact ⟨[c], rfl⟩
  ·obtain ⟨p, rfl⟩ := qrh k (j + 1) _ h
   exact ⟨c :: p, rfl⟩
theorem qri : Tails dInt := fun _ _ _ h => qrh 10 0 0 h
theorem qfg {r : Rd} (hr : r.Ok) (hf : r.failed = false) {c : UInt8} {l : List UInt8} (h : r.b.drop r.pos = c :: l) : rNext 1 r = ([c], ⟨r.b, r.pos + 1, false⟩) ∧ r.b.drop (r.pos + 1) = l := by
 have hl := congrArg List.length h
 simp only [List.length_drop, List.length_cons] at hl
 have h2 : r.b.drop (r.pos + 1) = l := by rw [← List.drop_drop, h]; rfl
 refine ⟨?_, h2⟩
 unfold rNext
 rw [if_neg (by simp [hf]; omega), h, hf]; rfl
theorem qjh {r : Rd} (hf : r.failed = false) (h : r.b.drop r.pos = []) : rNext 1 r = ([], ⟨r.b, r.pos, true⟩) := by
 have hl := congrArg List.length h
 simp only [List.length_drop, List.length_nil] at hl
 unfold rNext
 rw [if_pos (by simp [hf]; omega)]
theorem vy {j : Nat} (h : j ≤ 8) : 128 ^ (j + 1) ≤ 9223372036854775808 := by
 have h1 : 128 ^ (j + 1) ≤ 128 ^ 9 := Nat.pow_le_pow_right (by decide) (by omega)
 have h2 : (128 : Nat) ^ 9 = 9223372036854775808 := by decide
 omega
theorem qrj : ∀ (k j u : Nat) {r : Rd}, j + k = 10 → u < 128 ^ j → r.Ok → r.failed = false →
  Got (dG k j u (r.b.drop r.pos)) r.b (rIntG k j u r)
 | 0, j, u, r, _, _, _, _ => by simp only [Got, dG, rIntG]
 | k + 1, j, u, r, hj, hu, hr, hf => by
  cases hd : r.b.drop r.pos with
  | nil =>
   simp only [dG]
   rw [rIntG, qjh hf hd, if_pos rfl]
   exact (rfl : true = true)
  | cons c l =>
   obtain ⟨h1, h2⟩ := qfg hr hf hd
   have hlt := kc c
   have hlen := congrArg List.length hd
   simp only [List.length_drop, List.length_cons] at hlen
   rw [rIntG, h1, dG]
   simp only [Bool.false_eq_true, if_false, List.headD_cons]
   by_cases hc : c.toNat < 128
   ·simp only [hc, if_true]
    by_cases hb : ((c.toNat == 0 && decide (0 < j)) || (decide (j = 9) && decide (c.toNat > 1))) = true
    ·rw [if_pos hb]
     exact hb
    ·rw [if_neg hb]
     simp only [Bool.not_eq_true] at hb
     have hm : c.toNat % 128 = c.toNat := Nat.mod_eq_of_lt hc
     have hs : u + c.toNat * 128 ^ j < 18446744073709551616 := by
      rcases Nat.lt_or_ge j 9 with h9 | h9
      ·have hp := vy (j := j) (by omega)
       rw [Nat.pow_succ] at hp
       have : c.toNat * 128 ^ j ≤ 127 * 128 ^ j := Nat.mul_le_mul_right _ (by omega)
       omega
      ·have : j = 9 := by omega
       subst this
       simp at hb
       have e : (128 : Nat) ^ 9 = 9223372036854775808 := by decide
       rw [e] at hu ⊢
       omega
     rw [hm, Nat.mod_eq_of_lt hs]
     simp only [Got, Prod.mk.injEq, Rd.mk.injEq]
     exact ⟨trivial, trivial, by omega, hb⟩
   ·simp only [hc, if_false]
    cases k with
    | zero => simp only [Got, dG, rIntG]
    | succ k =>
     have hp := vy (j := j) (by omega)
     have hu2 : u + c.toNat % 128 * 128 ^ j < 128 ^ (j + 1) := by
      have h3 : c.toNat % 128 * 128 ^ j ≤ 127 * 128 ^ j := Nat.mul_le_mul_right _ (by omega)
      rw [Nat.pow_succ]
      omega
     rw [Nat.mod_eq_of_lt (show u + c.toNat % 128 * 128 ^ j < 18446744073709551616 by omega)]
     have ih := qrj (k + 1) (j + 1) (u + c.toNat % 128 * 128 ^ j) (r := ⟨r.b, r.pos + 1, false⟩) (by omega) hu2 ⟨hr.len, by have := hr.pos; simp only; omega⟩ rfl
     rw [show (⟨r.b, r.pos + 1, false⟩ : Rd).b.drop (⟨r.b, r.pos + 1, false⟩ : Rd).pos = l from h2] at ih
     exact ih
theorem qu7 {r : Rd} (hr : r.Ok) (hf : r.failed = false) : Got (dInt (r.b.drop r.pos)) r.b (rInt r) := qrj 10 0 0 rfl (by decide) hr hf
theorem wk {α : Type} {z : α} {f : Rd → α × Rd} {d : List UInt8 → Option (α × List UInt8)} (hi : ∀ r : Rd, r.Ok → (f r).2.b = r.b)
  (h : ∀ r : Rd, r.Ok → r.failed = false → Got (d (r.b.drop r.pos)) r.b (f r)) : Reads z (rPart z f) d := by
 intro r hr
 unfold rPart
 by_cases hf : r.failed = true
 ·rw [if_pos hf, if_pos hf]
 ·rw [if_neg hf, if_neg hf]
  have := h r hr (by simpa using hf)
  cases hd : d (r.b.drop r.pos) with
  | none =>
   rw [hd] at this
   simp only [Got] at this
   rw [if_pos this, hi r hr, this]
  | some x =>
   obtain ⟨v, l⟩ := x
   rw [hd] at this
   simp only [Got] at this
   rw [this, if_neg (by simp)]
theorem qrk : Reads 0 rIntP dInt := wk (fun r hr => (qb2 hr).2) (fun r hr hf => qu7 hr hf)
def dBounded (lo hi : Int) (l0 : List UInt8) : Option (Int × List UInt8) := match dInt l0 with
 | some (n, l) => if n < lo ∨ n > hi then none else some (n, l)
 | none => none
theorem jk (lo hi : Int) : Tails (dBounded lo hi) := by
 intro l0 v l h
 unfold dBounded at h
 split at h
 ·rename_i hd
  split at h
  ·cases h
  ·cases h; exact qri _ _ _ hd
 ·cases h
theorem qfh (lo hi : Int) {r : Rd} (hr : r.Ok) (hf : r.failed = false) : Got (dBounded lo hi (r.b.drop r.pos)) r.b (rBounded lo hi r) := by
 have h := qu7 hr hf
 unfold dBounded
 cases hd : dInt (r.b.drop r.pos) with
 | none =>
  rw [hd] at h
  simp only [Got] at h ⊢
  simp only [rBounded, Rd.fail, h, Bool.true_or]
 | some x =>
  obtain ⟨n, l⟩ := x
  rw [hd] at h
  simp only [Got] at h ⊢
  by_cases hn : n < lo ∨ n > hi
  ·rw [if_pos hn]
   simp only [rBounded, Rd.fail, h, Bool.false_or]
   simpa using hn
  ·rw [if_neg hn]
   simp only [rBounded, Rd.fail, h, Bool.false_or]
   have : (decide (n < lo) || decide (n > hi)) = false := by simpa using hn
   rw [this]
theorem yh (lo hi : Int) : Reads 0 (rBoundedP lo hi) (dBounded lo hi) := wk (fun r hr => (je hr lo hi).2) (fun r hr hf => qfh lo hi hr hf)
def dBytes (most : Int) (l0 : List UInt8) : Option (List UInt8 × List UInt8) := match dBounded 0 most l0 with
 | some (n, l) => if l.length < n.toNat then none else some (l.take n.toNat, l.drop n.toNat)
 | none => none
theorem qlk (most : Int) : Tails (dBytes most) := by
 intro l0 v l h
 unfold dBytes at h
 split at h
 ·rename_i n l1 hd
  split at h
  ·cases h
  ·cases h
   obtain ⟨p, rfl⟩ := jk _ _ _ _ _ hd
   exact ⟨p ++ l1.take n.toNat, by rw [List.append_assoc, List.take_append_drop]⟩
 ·cases h
theorem qrl (most : Int) {r : Rd} (hr : r.Ok) (hf : r.failed = false) : Got (dBytes most (r.b.drop r.pos)) r.b (rBytes0 most r) := by
 have h := qfh 0 most hr hf
 unfold dBytes
 cases hd : dBounded 0 most (r.b.drop r.pos) with
 | none =>
  rw [hd] at h
  simp only [Got] at h ⊢
  unfold rBytes0
  rw [if_pos h]; exact h
 | some x =>
  obtain ⟨n, l⟩ := x
  rw [hd] at h
  simp only [Got] at h ⊢
  obtain ⟨p, hp⟩ := jk _ _ _ _ _ hd
  obtain ⟨t1, t2⟩ := kq hr.pos hp
  have e : r.b.length - (r.b.length - l.length) = l.length := by omega
  by_cases hn : l.length < n.toNat
  ·rw [if_pos hn]
   simp only [rBytes0, h, Bool.false_eq_true, if_false, rNext, Bool.false_or]
   rw [e, if_pos (by simpa using hn)]
  ·rw [if_neg hn]
   simp only [rBytes0, h, Bool.false_eq_true, if_false, rNext, Bool.false_or]
   rw [e, if_neg (by simpa using hn), t1]
   have : r.b.length - l.length + n.toNat = r.b.length - (l.drop n.toNat).length := by rw [List.length_drop]; omega
   rw [this]
theorem zr (most : Int) : Reads [] (rBytesP most) (dBytes most) := wk (fun r hr => (qdm hr most).2) (fun r hr hf => qrl most hr hf)
def dBool : List UInt8 → Option (Bool × List UInt8)
 | [] => none
 | c :: l => if c.toNat > 1 then none else some (c.toNat == 1, l)
theorem qoj : Tails dBool := by
 intro l0 v l h
 cases l0 with
 | nil => cases h
 | cons c l1 =>
  rw [dBool] at h
  split at h
  ·cases h
  ·cases h; exact ⟨[c], rfl⟩
theorem que {r : Rd} (hr : r.Ok) (hf : r.failed = false) : Got (dBool (r.b.drop r.pos)) r.b (rBool0 r) := by
 cases hd : r.b.drop r.pos with
 | nil => simp only [Got, dBool, rBool0, qjh hf hd, Rd.fail, Bool.true_or]
 | cons c l =>
  obtain ⟨h1, h2⟩ := qfg hr hf hd
  have hlen := congrArg List.length hd
  simp only [List.length_drop, List.length_cons] at hlen
  simp only [Got, dBool]
  by_cases hc : c.toNat > 1
  ·rw [if_pos hc]
   simp only [rBool0, h1, Rd.fail, Bool.false_or, List.headD_cons, decide_eq_true hc]
  ·rw [if_neg hc]
   simp only [rBool0, h1, Rd.fail, Bool.false_or, List.headD_cons, decide_eq_false hc, Bool.not_false, Bool.true_and]
   have : r.b.length - l.length = r.pos + 1 := by omega
   rw [this]
theorem qaq : Reads false rBoolP dBool := wk (fun r hr => (qfd hr).2) (fun r hr hf => que hr hf)
end Go.Proofs.Ytinnaedmdoengaa
