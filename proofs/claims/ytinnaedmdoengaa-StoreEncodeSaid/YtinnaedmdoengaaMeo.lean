/- Texts Wk, Wl, Wm, Wn, Yd, Ya, Yb, Yc, Ye, Yf. -/
import Derived.Test.YtinnaedmdoengaaMen
import Derived.Calls
import Derived.Orders
import Derived.Tactics
import Derived.Laws.AppendOwn
import Derived.Laws.Slices
import Derived.Laws.Closers25
import Derived.Laws.StructEq
import Derived.Laws.BytesString
import Derived.Laws.CopyRow
import Derived.MapKept
import Derived.Maps.RangeRun
import Derived.TacticsIn
import Derived.OrdersIn
import Derived.RangeFuncRecord
import Derived.RangeFuncLeaves
import Derived.IntWalk
import Derived.ProofKit
import Derived.OpenShut
import Derived.Carry
import Derived.Test.YtinnaedmdoengaaProg
import Derived.KernelRfl
import Derived.OwnWalkIn
import Derived.TacticsInMore
import Derived.LoopIn
import Derived.WalkKit
import Derived.Lib.Strings
import Derived.Lib.Slices
import Derived.Lib.Walk
import Derived.Lib.Bytealg
import Derived.Shelf.SlSortCmp.WholeK
import Derived.Shelf.SlSortCmp.NoneTotal

namespace Go.Proofs.Ytinnaedmdoengaa
open Go.Abs Go.Shelf Go.RowKit Go.Lib Go.Sort
set_option linter.unusedSimpArgs false
set_option linter.unusedVariables false
theorem qwa : (Try.prog.funcs[45]?).any (fun fn => fn.body.isSome && !(fn.name == "runtime.NumGoroutine")) = true := by rw [Try.func45]; rfl
theorem qqk (x : RowE) : (encR x).length = 2 := rfl
theorem qql (x : RowE) : ∀ v ∈ encR x, v.oneCell' = true := by
 intro v hv
 simp [encR] at hv
 rcases hv with rfl | rfl
 ·rfl
 ·exact x.2.2
set_option maxHeartbeats 1000000 in
theorem qse (l : List En) (hn : (l.map (·.1)).Nodup) (hl : l.length ≤ 1000000) :
  ACall Try.prog 45 [.d (.ref 0 0 2 l.length), .d (.func (.func 46) [] [])] [.row ((flatEn l).map .d)] (.tup []) [.row ((flatEn (sortEn l)).map .d)] := by
 intro g w vs hd hlen hv ho
 match vs, hlen with
 | [v0, v1], _ =>
 have h1 := qx (qq (hv 1 v1 _ rfl rfl))
 have hf1 : v1 = .func (.func 46) #[] #[] := by
  cases h1 with
  | func _ vf vc _ _ hf hc =>
   have e1 : vf = [] := List.eq_nil_of_length_eq_zero (by simpa using hf)
   have e2 : vc = [] := List.eq_nil_of_length_eq_zero (by simpa using hc)
   subst e1; subst e2; rfl
 subst hf1
 have h0 := qx (qq (hv 0 v0 _ rfl rfl))
 generalize hln : l.length = n at h0
 have none_ : ∀ (p : Option Addr) (cap : Nat), n = 0 → v0 = .slice p 0 cap → Calls Try.prog 45 [v0, .func (.func 46) #[] #[]].toArray w fun e w' =>
   ∃ v g' live', e = .returned v ∧ G g w g' w' ∧ Dom g' w' ∧ (∀ t ∈ (ASlot.tup []).toks, t ∈ live') ∧ RS g' w' live' v (.tup []) ∧ ObjsOk g' w' live' [.row ((flatEn (sortEn l)).map .d)] := by
  intro p cap h0 hv0
  have hl0 : l = [] := List.eq_nil_of_length_eq_zero (by omega)
  subst hl0; subst hv0
  have hcon := AnyF.slices_SortFunc_none qv9 p cap (.func (.func 46) #[] #[]) w
  change Calls Try.prog 45 _ _ _ at hcon
  refine hcon.mono ?_
  rintro e w' ⟨rfl, rfl⟩
  have hs0 : sortEn [] = [] := by simp [sortEn]
  rw [hs0]
  exact ⟨_, g, [], rfl, .refl _ _, hd, by simp [ASlot.toks], ⟨[], rfl, rfl, fun i u s hu => by simp at hu⟩, ho⟩
 cases h0 with
 | refnil a => exact none_ a 0 rfl rfl
 | ref b _ _ _ _ cap hg hcap hmx hsz =>
 by_cases hn0 : n = 0
 ·subst hn0; exact none_ _ cap rfl rfl
 obtain ⟨b', hb', c, et, hh, hcs, hcc⟩ := (ho.objs 0 _ rfl (by simp)).resolve_right (fun h => by
  have := h.1
  simp at this
  have := congrArg List.length this
  simp [vg] at this; omega)
 have : b' = b := ho.inj b' b 0 hb' hg
 subst this
 rw [List.length_map, vg] at hcs
 have hcell : ∀ (i : Nat) (e : En), l[i]? = some e → c[2 * i]? = some (.string ⟨e.1.toArray⟩) ∧ ∃ v, c[2 * i + 1]? = some v ∧ v.oneCell' = true ∧ RV g w v (.sl 1 (byteRows e.2)) := by
  intro i e he
  obtain ⟨k1, k2⟩ := qdh l i e he
  obtain ⟨u, u1, _, u3⟩ := hcc (2 * i) (.d (.str e.1)) (by rw [List.getElem?_map, k1]; rfl)
  obtain ⟨v, v1, v2, v3⟩ := hcc (2 * i + 1) (.d (.sl 1 (byteRows e.2))) (by rw [List.getElem?_map, k2]; rfl)
  have hu := ja (show RV g w u (.str e.1) from u3)
  subst hu
  exact ⟨u1, v, v1, v2, v3⟩
 let mkR : Nat → RowE := fun i => match l[i]?, c[2 * i + 1]? with
  | some e, some v => if h : v.oneCell' = true then (e.1, ⟨v, h⟩) else default
  | _, _ => default
 let P : List (RowE × En) := (List.range n).map fun i => (mkR i, l.getD i ([], []))
 have hPR : ∀ z ∈ P, z.1.1 = z.2.1 ∧ RV g w z.1.2.1 (.sl 1 (byteRows z.2.2)) := by
  intro z hz
  obtain ⟨i, hi, rfl⟩ := List.mem_map.1 hz
  have hil : i < l.length := by rw [hln]; exact List.mem_range.1 hi
  have he := List.getElem?_eq_getElem hil
  obtain ⟨_, v, v1, v2, v3⟩ := hcell i _ he
  have : mkR i = (l[i].1, ⟨v, v2⟩) := by simp only [mkR, he, v1, dif_pos v2]
  have e2 : l.getD i ([], []) = l[i] := by simp [List.getD, he]
  simp only [this, e2]
  exact ⟨trivial, v3⟩
 have hPs : P.map (·.2) = l := by
  apply List.ext_getElem?
  intro i
  simp only [P, List.map_map, List.getElem?_map]
  rcases Nat.lt_or_ge i n with h | h
  ·rw [List.getElem?_range h]
   have he := List.getElem?_eq_getElem (show i < l.length by omega)
   simp [he, List.getD]
  ·rw [List.getElem?_eq_none (by simpa using h), List.getElem?_eq_none (by omega)]; rfl
 obtain ⟨d, hdd⟩ : ∃ d : Array RowE, d = (P.map (·.1)).toArray := ⟨_, rfl⟩
 have hds : d.size = n := by rw [hdd]; simp [P]
 have hdi : ∀ i, i < n → d[i]! = mkR i := fun i hi => by rw [hdd]; simp [P, hi]
 have hblk : b' < w.heap.size := (Array.getElem?_eq_some_iff.1 hh).1
 have hfl : ∀ t, t < n * 2 → (flatK encR 2 d)[t]! = c.getD t default := by
  intro t ht
  rw [get_flatK encR 2 d t (by rw [hds]; exact ht), hdi _ (by omega)]
  have hil : t / 2 < l.length := by omega
  have he := List.getElem?_eq_getElem hil
  obtain ⟨k1, v, v1, v2, v3⟩ := hcell (t / 2) _ he
  have hm : mkR (t / 2) = (l[t / 2].1, ⟨v, v2⟩) := by simp only [mkR, he, v1, dif_pos v2]
  rw [hm]
  rcases Nat.mod_two_eq_zero_or_one t with hp | hp
  ·have e1 : 2 * (t / 2) = t := by omega
   rw [e1] at k1
   rw [hp, Array.getD_eq_getD_getElem?, k1]
   rfl
  ·have e1 : 2 * (t / 2) + 1 = t := by omega
   rw [e1] at v1
   rw [hp, Array.getD_eq_getD_getElem?, v1]
   rfl
 have hH : HoldsK encR 2 w b' 0 d := by
  intro j hj
  rw [size_flatK, hds] at hj
  refine ⟨?_, by simp [World.frozen?, hh]⟩
  rw [hfl j hj]
  have hjc : j < c.size := by omega
  simp [World.cell?, hh, hjc]
 have eg : ∀ args w, (callFunc 46 args).run Try.prog w = .ok (.enter 46 args) w := enters_of Try.func46 (by kernel_rfl) rfl
 have hcon := AnyQ.slices_SortFunc qv9 2 Try.isAgg99 Try.sizeOf99 encR qqk qql cmpR q9i 46 #[] b' 0 cap d w eg (fun _ _ _ _ x y => qqj x y _) hH hblk (by omega)
 change Calls Try.prog 45 _ _ _ at hcon
 rw [hds] at hcon
 refine hcon.mono ?_
 rintro e w' ⟨rfl, d', m, os, hperm, hsort, hw'⟩
 obtain ⟨hps, _, hpl⟩ := hperm
 rw [hds] at hps
 have hp2 : d'.toList.Perm (P.map (·.1)) := by
  have e1 : d'.extract 0 n = d' := by rw [← hps]; simp
  have e2 : d.extract 0 n = d := by rw [← hds]; simp
  rw [e1, e2] at hpl
  rw [hdd] at hpl
  simpa using hpl
 obtain ⟨Q, q1, q2⟩ := qnl (fun z : RowE × En => z.1) hp2 rfl
 have hQl : Q.length = n := by rw [q1.length_eq]; simp [P]
 have hesl : (Q.map (·.2)).Perm l := by
  have := q1.map (fun z : RowE × En => z.2)
  rwa [hPs] at this
 have hQ : ∀ (i : Nat) (z : RowE × En), Q[i]? = some z → d'[i]! = z.1 ∧ z.1.1 = z.2.1 ∧ RV g w z.1.2.1 (.sl 1 (byteRows z.2.2)) := by
  intro i z hz
  have h1 := congrArg (fun l => l[i]?) q2
  simp only [List.getElem?_map, hz, Option.map_some, Array.getElem?_toList] at h1
  have hi : i < d'.size := by rw [hps, ← hQl]; exact (List.getElem?_eq_some_iff.1 hz).1
  refine ⟨?_, hPR z (q1.mem_iff.1 (List.mem_of_getElem? hz))⟩
  rw [getElem!_pos d' i hi]
  rw [Array.getElem?_eq_getElem hi] at h1
  simpa using h1.symm
 have hsorted : (Q.map (·.2)).Pairwise fun a b => cmpB a.1 b.1 ≤ 0 := by
  rw [List.pairwise_iff_getElem]
  intro i j hi hj hij
  simp only [List.length_map] at hi hj
  have zi := hQ i _ (List.getElem?_eq_getElem hi)
  have zj := hQ j _ (List.getElem?_eq_getElem hj)
  have hs := hsort i j (Nat.zero_le _) hij (by omega)
  rw [zi.1, zj.1] at hs
  have hs2 : ¬ cmpB Q[j].1.1 Q[i].1.1 < 0 := of_decide_eq_false hs
  rw [zi.2.1, zj.2.1] at hs2
  simp only [List.getElem_map]
  exact ve.1 hs2
 have hes : Q.map (·.2) = sortEn l := by
  have hn2 : ((Q.map (·.2)).map (·.1)).Nodup := (hesl.map (fun x : En => x.1)).nodup_iff.2 hn
  exact yy (hesl.trans (x9 l).symm) hn2 hsorted (ka l)
 have hwh : w'.heap = (w.heap.modify b' (onCells (putCells (fun v : Value => v) 0 (flatK encR 2 d')))) ++ os := by subst hw'; rfl
 have hother : ∀ k, k ≠ b' → k < w.heap.size → w'.heap[k]? = w.heap[k]? := by
  intro k hk hkl
  rw [hwh, Array.getElem?_append, if_pos (by simpa using hkl), Array.getElem?_modify, if_neg (Ne.symm hk)]
 have hself : w'.heap[b']? = some (.cells (putCells (fun v : Value => v) 0 (flatK encR 2 d') c) et (0, 0)) := by
  rw [hwh, Array.getElem?_append, if_pos (by simpa using hblk), Array.getElem?_modify, if_pos rfl, hh]
  rfl
 have hsize : w.heap.size ≤ w'.heap.size := by
  subst hw'
  simp [sortWorldK, grow, putRowK, putRow, mapBlock, Sort.ahead]
 have htop : w'.os = w.os ∧ w'.tape = w.tape ∧ w'.output = w.output := by subst hw'; exact ⟨rfl, rfl, rfl⟩
 have hne : ∀ k r, g k = r → (∀ i, r ≠ .obj i) → k ≠ b' := fun k r h hr he => by rw [he, hg] at h; exact hr 0 h.symm
 have hG : G g w g w' := by
  refine ⟨htop.1, htop.2.1, htop.2.2, hsize, fun k hk hgk => ⟨hother k (hne k _ hgk (by simp)) hk, hgk⟩, fun k r hk hgk => ⟨hother k (hne k _ hgk (by simp)) hk, hgk⟩,
   fun k r t hk hgk => ⟨r, some t, hgk, Nat.le_refl _, fun i u _ hu => by rw [qv (hother k (hne k _ hgk (by simp)) hk)]; exact hu⟩, fun k id hk hgk => ⟨hgk, ?_⟩⟩
  by_cases hkb : k = b'
  ·subst hkb
   rw [xh hh, xh hself]
   simp [putCells]
  ·exact Nat.le_of_eq (qt (hother k hkb hk)).symm
 refine ⟨_, g, [], rfl, hG, fun k hk => hd k (by omega), by simp [ASlot.toks], ⟨[], rfl, rfl, fun i u s hu => by simp at hu⟩, ⟨fun oid o hid hno => ?_, ho.inj, fun b oid hb => ?_⟩⟩
 ·match oid, hid with
  | 0, hid =>
   simp at hid
   subst hid
   have hle := (x9 l).length_eq
   refine .inl ⟨b', hg, _, et, hself, by simp [putCells, vg, hle]; omega, fun i s hi => ?_⟩
   rw [List.getElem?_map, Option.map_eq_some_iff] at hi
   obtain ⟨x, hx, rfl⟩ := hi
   have hil : i < n * 2 := by
    have := (List.getElem?_eq_some_iff.1 hx).1
    rw [vg, hle, hln] at this
    exact this
   have hQi : i / 2 < Q.length := by omega
   obtain ⟨z1, z2, z3⟩ := hQ (i / 2) _ (List.getElem?_eq_getElem hQi)
   have hz : (sortEn l)[i / 2]? = some Q[i / 2].2 := by rw [← hes, List.getElem?_map, List.getElem?_eq_getElem hQi]; rfl
   obtain ⟨k1, k2⟩ := qdh _ _ _ hz
   have hcv : (putCells (fun v : Value => v) 0 (flatK encR 2 d') c)[i]? = some ((encR Q[i / 2].1)[i % 2]!) := by
    have hic : i < c.size := by omega
    simp only [putCells, Array.getElem?_mapIdx, Array.getElem?_eq_getElem hic, Option.map_some, size_flatK, hps, Nat.zero_le, true_and, Nat.zero_add, hil, if_true, Nat.sub_zero]
    rw [get_flatK encR 2 d' i (by rw [hps]; exact hil), z1]
   rcases Nat.mod_two_eq_zero_or_one i with hp | hp
   ·have e1 : 2 * (i / 2) = i := by omega
    rw [e1] at k1
    rw [k1] at hx; cases hx
    rw [hp] at hcv
    have hcs : (encR Q[i / 2].1)[0]! = .string ⟨Q[i / 2].2.1.toArray⟩ := by rw [← z2]; rfl
    rw [hcs] at hcv
    exact ⟨_, hcv, rfl, .str _⟩
   ·have e1 : 2 * (i / 2) + 1 = i := by omega
    rw [e1] at k2
    rw [k2] at hx; cases hx
    rw [hp] at hcv
    exact ⟨_, hcv, Q[i / 2].1.2.2, z3.mono (hG.rowsKept hd) (fun b id hb => hG.obj b id (hd.lt_obj hb) hb)⟩
  | i + 1, hid => simp at hid
 ·obtain ⟨o, h1, h2⟩ := ho.ids b oid hb
  match oid, h1 with
  | 0, h1 => exact ⟨_, rfl, by simp⟩
  | i + 1, h1 => simp at h1
end Go.Proofs.Ytinnaedmdoengaa
namespace Go.Proofs.Ytinnaedmdoengaa
open Go.Abs
set_option linter.unusedSimpArgs false
set_option linter.unusedVariables false
attribute [go_sem] sliceSOut
def pre (p k : List UInt8) : Bool := decide (p.length ≤ k.length) && k.take p.length == p
noncomputable section
set_option maxRecDepth 100000
def s95r0 : List SOper := [
 ⟨some 4, .mov (.k (.d (.bool false))), none⟩]
def s95r1 : List SOper := [
 ⟨some 5, .mov (.t 0), none⟩,
 ⟨some 6, .lenS (.t 5), none⟩,
 ⟨some 7, .mov (.t 1), none⟩,
 ⟨some 8, .lenS (.t 7), none⟩,
 ⟨some 9, .bin .geq (.t 6) (.t 8), none⟩,
 ⟨some 10, .mov (.t 9), none⟩,
 ⟨some 11, .mov (.t 0), some (10, true)⟩,
 ⟨some 12, .mov (.t 1), some (10, true)⟩,
 ⟨some 13, .lenS (.t 12), some (10, true)⟩,
 ⟨some 14, .sliceS (.t 11) none (some (.t 13)), some (10, true)⟩,
 ⟨some 15, .mov (.t 1), some (10, true)⟩,
 ⟨some 16, .bin .eql (.t 14) (.t 15), some (10, true)⟩,
 ⟨some 17, .pick (.t 10) (.t 16) (.k (.d (.bool false))), none⟩,
 ⟨some 4, .mov (.t 17), none⟩]
def s95 : SCode := (.seq (.region s95r0 0 []) (.seq (.region s95r1 0 []) .ret))
theorem e95 : CodeIs s95.eq_1 := qc s95.eq_1
theorem q3r : RegIs s95r0.eq_1 := qa
theorem q3s : RegIs s95r1.eq_1 := qa
attribute [go_sem] q3r q3s e95
theorem F95 : FnIs Try.prog 95 Try.f95 [] news s95 [.tmp 4] 18 := xa follows Try.func95
def s44r0 : List SOper := [
 ⟨some 4, .mov (.k (.d (.bool false))), none⟩]
def s44r1 : List SOper := [
 ⟨some 5, .mov (.t 0), none⟩,
 ⟨some 6, .mov (.t 1), none⟩,
 ⟨some 7, .call (.k (.d (.func (.func 95) [] []))) [(.t 5), (.t 6)], none⟩,
 ⟨some 4, .mov (.t 7), none⟩]
def s44 : SCode := (.seq (.region s44r0 0 []) (.seq (.region s44r1 0 []) .ret))
theorem e44 : CodeIs s44.eq_1 := qc s44.eq_1
theorem q3t : RegIs s44r0.eq_1 := qa
theorem q3u : RegIs s44r1.eq_1 := qa
attribute [go_sem] q3t q3u e44
theorem F44 : FnIs Try.prog 44 Try.f44 [] news s44 [.tmp 4] 8 := xa follows Try.func44
end
theorem ya (k p : List UInt8) : ACall Try.prog 95 [.d (.str k), .d (.str p)] [] (.d (.bool (pre p k))) [] := by
 refine F95.go ?_
 by_cases h : p.length ≤ k.length
 ·have hd : decide ((k.length : Int) ≥ (p.length : Int)) = true := by simpa using h
  have hd2 : decide (p.length ≤ k.length) = true := by simpa using h
  try simp only [pre, hd, hd2, go_sem, Nat.reduceAdd, Nat.reduceMul, Nat.reduceSub, Nat.reduceEqDiff, Nat.reduceLT, Nat.reduceLeDiff, Nat.reduceBEq, reduceIte, reduceCtorEq, Int.reduceAdd, Int.reduceLT, Int.reduceLE, Int.reduceGT, Int.reduceGE, Int.reduceEq, Int.reduceNe, Int.reduceBEq, Int.reduceBNe, Int.reduceToNat, Int.reduceNeg]
  (repeat (with_reducible refine ob ?_))
  try simp only [hd, Nat.sub_zero, go_sem, Nat.reduceAdd, Nat.reduceMul, Nat.reduceSub, Nat.reduceEqDiff, Nat.reduceLT, Nat.reduceLeDiff, Nat.reduceBEq, reduceIte, reduceCtorEq, Int.reduceAdd, Int.reduceLT, Int.reduceLE, Int.reduceGT, Int.reduceGE, Int.reduceEq, Int.reduceNe, Int.reduceBEq, Int.reduceBNe, Int.reduceToNat, Int.reduceNeg]
 ·have hd : decide ((k.length : Int) ≥ (p.length : Int)) = false := by simpa using h
  have hd2 : decide (p.length ≤ k.length) = false := by simpa using h
  try simp only [pre, hd, hd2, go_sem, Nat.reduceAdd, Nat.reduceMul, Nat.reduceSub, Nat.reduceEqDiff, Nat.reduceLT, Nat.reduceLeDiff, Nat.reduceBEq, reduceIte, reduceCtorEq, Int.reduceAdd, Int.reduceLT, Int.reduceLE, Int.reduceGT, Int.reduceGE, Int.reduceEq, Int.reduceNe, Int.reduceBEq, Int.reduceBNe, Int.reduceToNat, Int.reduceNeg]
  (repeat (with_reducible refine ob ?_))
  try simp only [hd, go_sem, Nat.reduceAdd, Nat.reduceMul, Nat.reduceSub, Nat.reduceEqDiff, Nat.reduceLT, Nat.reduceLeDiff, Nat.reduceBEq, reduceIte, reduceCtorEq, Int.reduceAdd, Int.reduceLT, Int.reduceLE, Int.reduceGT, Int.reduceGE, Int.reduceEq, Int.reduceNe, Int.reduceBEq, Int.reduceBNe, Int.reduceToNat, Int.reduceNeg]
theorem qaj (k p : List UInt8) : ACall Try.prog 44 [.d (.str k), .d (.str p)] [] (.d (.bool (pre p k))) [] := by
 refine F44.go ?_
 try (refine ev ?_; try exact True.intro)
 (repeat (with_reducible refine ob ?_)); first | refine cl F95 (ya k p) ?_ | refine clF F95 (ya k p) (fun _ => by simp only [encOp, encEn, go_sem, Nat.reduceAdd, Nat.reduceMul, Nat.reduceSub, Nat.reduceEqDiff, Nat.reduceLT, Nat.reduceLeDiff, Nat.reduceBEq, reduceIte, reduceCtorEq, Int.reduceAdd, Int.reduceLT, Int.reduceLE, Int.reduceGT, Int.reduceGE, Int.reduceEq, Int.reduceNe, Int.reduceBEq, Int.reduceBNe, Int.reduceToNat, Int.reduceNeg]) ?_
 try (refine ev ?_; try exact True.intro)
noncomputable section
set_option maxRecDepth 100000
def s17ur0 : List SOper := [
 ⟨some 4, .mov (.k (.d .nilsl)), none⟩]
def s17ur1 : List SOper := [
 ⟨some 8, .mov (.t 0), none⟩,
 ⟨some 9, .eqnil false .ptr (.t 8), none⟩]
def s17ur2 : List SOper := [
 ⟨some 4, .mov (.k (.d .nilsl)), none⟩]
def s17ur3 : List SOper := [
 ⟨some 5, .mov (.k (.d .nilsl)), none⟩]
def s17ur4 : List SOper := [
 ⟨some 10, .mov (.t 0), none⟩,
 ⟨some 11, .nilCheck (.t 10), none⟩,
 ⟨some 12, .faddr 2 (.t 11), none⟩,
 ⟨some 13, .load none (.t 12), none⟩,
 ⟨some 14, .rangeM 1 (.t 13), none⟩]
def s17ur5 : List SOper := [
 ⟨some 15, .nextM (.t 14), none⟩,
 ⟨some 16, .extract 0 (.t 15), none⟩]
def s17ur6 : List SOper := [
 ⟨some 17, .entryM (.t 14), none⟩,
 ⟨some 18, .extract 0 (.t 17), none⟩,
 ⟨some 19, .extract 1 (.t 17), none⟩,
 ⟨some 6, .mov (.t 18), none⟩,
 ⟨some 7, .mov (.t 19), none⟩]
def s17ur7 : List SOper := [
 ⟨some 20, .mov (.t 6), none⟩,
 ⟨some 21, .mov (.t 1), none⟩,
 ⟨some 22, .call (.k (.d (.func (.func 44) [] []))) [(.t 20), (.t 21)], none⟩]
def s17ur8 : List SOper := [
 ⟨some 23, .mov (.t 5), none⟩,
 ⟨some 24, .mov (.t 6), none⟩,
 ⟨some 25, .mov (.t 7), none⟩,
 ⟨some 26, .call (.k (.d (.func (.func 43) [] []))) [(.t 25)], none⟩,
 ⟨some 27, .build [(.str []), .nilsl] [(0, 1, (.t 24)), (1, 1, (.t 26))], none⟩,
 ⟨some 28, .buildSlice false 2 1 [(.str []), .nilsl] [(0, 2, (.t 27))], none⟩,
 ⟨some 29, .append true 2 40 (.t 23) (.t 28), none⟩,
 ⟨some 5, .mov (.t 29), none⟩]
def s17ul9 : SCode := (.seq (.region s17ur5 0 []) (.seq (.cond (.t 16) .skip (.exit 0)) (.block 1 (.seq (.region s17ur6 0 []) (.seq (.region s17ur7 0 []) (.cond (.t 22) (.region s17ur8 0 []) .skip))))))
theorem qwb : CodeIs s17ul9.eq_1 := qc s17ul9.eq_1
def s17ur10 : List SOper := [
 ⟨some 30, .mov (.t 5), none⟩,
 ⟨some 31, .call (.k (.d (.func (.func 45) [] []))) [(.t 30), (.k (.d (.func (.func 46) [] [])))], none⟩]
def s17ur11 : List SOper := [
 ⟨some 32, .mov (.t 5), none⟩,
 ⟨some 4, .mov (.t 32), none⟩]
def s17u : SCode := (.seq (.region s17ur0 0 []) (.seq (.seq (.region s17ur1 0 []) (.cond (.t 9) (.seq (.region s17ur2 0 []) (.pause .ret)) .skip)) (.seq (.region s17ur3 0 []) (.seq (.seq (.region s17ur4 1 []) (.block 0 (.loop s17ul9))) (.seq (.pause (.region s17ur10 0 [])) (.seq (.region s17ur11 0 []) (.pause .ret)))))))
theorem q9j : CodeIs s17u.eq_1 := qc s17u.eq_1
theorem qwc : RegIs s17ur0.eq_1 := qa
theorem qwd : RegIs s17ur1.eq_1 := qa
theorem qwe : RegIs s17ur2.eq_1 := qa
theorem qwf : RegIs s17ur3.eq_1 := qa
theorem qwg : RegIs s17ur4.eq_1 := qa
theorem qwh : RegIs s17ur5.eq_1 := qa
theorem qwi : RegIs s17ur6.eq_1 := qa
theorem qwj : RegIs s17ur7.eq_1 := qa
theorem qwk : RegIs s17ur8.eq_1 := qa
theorem qsf : RegIs s17ur10.eq_1 := qa
theorem qsg : RegIs s17ur11.eq_1 := qa
attribute [go_sem] qwc qwd qwe qwf qwg qwh qwi qwj qwk qwb qsf qsg q9j
theorem q8p : FnIs Try.prog 17 Try.f17 [29] news s17u [.tmp 4] 33 := xa follows Try.func17
def s45r0 : List SOper := [
 ⟨some 5, .mov (.t 0), none⟩,
 ⟨some 6, .len (.t 5), none⟩,
 ⟨some 4, .mov (.t 6), none⟩]
def s45r1 : List SOper := [
 ⟨some 7, .mov (.t 0), none⟩,
 ⟨some 8, .mov (.t 4), none⟩,
 ⟨some 9, .mov (.t 4), none⟩,
 ⟨some 10, .conv .u64 (.t 9), none⟩,
 ⟨some 11, .call (.k (.d (.func (.func 97) [] []))) [(.t 10)], none⟩,
 ⟨some 12, .mov (.t 1), none⟩,
 ⟨some 13, .call (.k (.d (.func (.func 96) [] []))) [(.t 7), (.k (.d (.int .i64 0))), (.t 8), (.t 11), (.t 12)], none⟩]
def s45 : SCode := (.seq (.region s45r0 0 []) (.region s45r1 0 []))
theorem e45 : CodeIs s45.eq_1 := qc s45.eq_1
theorem q3v : RegIs s45r0.eq_1 := qa
theorem q3w : RegIs s45r1.eq_1 := qa
attribute [go_sem] q3v q3w e45
theorem F45 : FnIs Try.prog 45 Try.f45 [] news s45 [] 14 := xa follows Try.func45
end
theorem qit {α β : Type} {f : α → β} : ∀ {l : List α}, (l.map f).Nodup → ∀ {x y : α}, x ∈ l → y ∈ l → f x = f y → x = y
 | [], _, x, y, hx, _, _ => by cases hx
 | a :: l, hn, x, y, hx, hy, h => by
  simp only [List.map_cons, List.nodup_cons, List.mem_map, not_exists, not_and] at hn
  rcases List.mem_cons.1 hx with rfl | hx'
  ·rcases List.mem_cons.1 hy with rfl | hy'
   ·rfl
   ·exact absurd h.symm (hn.1 y hy')
  ·rcases List.mem_cons.1 hy with rfl | hy'
   ·exact absurd h (hn.1 x hx')
   ·exact qit hn.2 hx' hy' h
theorem jh {α β : Type} (f : α → β) : ∀ {l : List α}, (l.map f).Nodup → l.Nodup
 | [], _ => List.nodup_nil
 | a :: l, hn => by
  simp only [List.map_cons, List.nodup_cons, List.mem_map, not_exists, not_and] at hn ⊢
  exact ⟨fun h => hn.1 a h rfl, jh f hn.2⟩
theorem qjm {α : Type} (f : α → Nat) : ∀ {l : List α}, (l.map f).Nodup → ∀ {x : α}, x ∈ l → (l.find? fun y => f y == f x) = some x
 | [], _, x, hx => by cases hx
 | a :: l, hn, x, hx => by
  rw [List.find?_cons]
  by_cases h : f a = f x
  ·have := qit hn (List.mem_cons_self ..) hx h
   subst this
   simp
  ·rw [beq_false_of_ne h]
   rcases List.mem_cons.1 hx with rfl | hx'
   ·exact absurd rfl h
   ·exact qjm f (by simp only [List.map_cons, List.nodup_cons] at hn; exact hn.2) hx'
theorem qnm {α : Type} [DecidableEq α] : ∀ {a b : List α}, a.Nodup → (∀ x ∈ a, x ∈ b) → a.length ≤ b.length
 | [], _, _, _ => Nat.zero_le _
 | x :: a, b, h, hs => by
  have hx := hs x (List.mem_cons_self ..)
  have h' := List.nodup_cons.1 h
  have := qnm (a := a) (b := b.erase x) h'.2 fun y hy => (List.mem_erase_of_ne (by rintro rfl; exact h'.1 hy)).2 (hs y (List.mem_cons_of_mem _ hy))
  rw [List.length_erase_of_mem hx] at this
  have := List.length_pos_of_mem hx
  simp only [List.length_cons]; omega
theorem qk9 (l : List En) : (l.map encEn).flatten = flatEn l := rfl
theorem qiu (l : List En) : (flatEn l).all D.isCell = true := by induction l <;> simp_all [flatEn, encEn, D.isCell]
attribute [go_sem] qk9 qg0 qiu
structure Cont.Ok (m : Cont) : Prop where
 num : (m.l.map (·.1)).Nodup
 lt : ∀ x ∈ m.l, x.1 < m.c
 key : (m.l.map (·.2.1)).Nodup
def enOf (x : KV) : En := (x.2.1, x.2.2)
def preL (p : List UInt8) (l : List KV) : List En := (l.filter fun x => pre p x.2.1).map enOf
def sList (m : Cont) (p : List UInt8) : List En := sortEn (preL p m.l)
theorem qnn {p : List UInt8} {l : List KV} (h : (l.map (·.2.1)).Nodup) : ((preL p l).map (·.1)).Nodup := by
 unfold preL
 rw [List.map_map]
 exact List.Nodup.sublist (List.Sublist.map _ List.filter_sublist) h
theorem qno {a b : List En} (h : a.Perm b) (hn : (a.map (·.1)).Nodup) : sortEn a = sortEn b := by
 have h1 := x9 a
 have h2 := x9 b
 refine yy (h1.trans (h.trans h2.symm)) ((h1.map (fun x : En => x.1)).nodup_iff.2 hn) (ka a) (ka b)
def Slist (s : Sto) (p : List UInt8) (i : { i : List KV // (i.map (·.1)).Nodup ∧ ∀ x ∈ i, x ∈ s.m.l }) : St :=
 ⟨[(1, true, .d (.str p)), (5, true, .uni 0 2 ((preL p i.val).map encEn)), (14, true, .d (.ptr 2 0))], [stoO s 1, mapO s.m, .iter (.d (.map 1)) s.m.c (i.val.map (·.1)) s.m.c], [0], 1⟩
set_option maxRecDepth 10000 in
theorem qsh (s : Sto) (p : List UInt8) (hm : s.m.Ok) (hl : s.m.l.length ≤ 1000) (hv : ∀ x ∈ s.m.l, x.2.2.length ≤ 1000000) :
  ACall Try.prog 17 [.d (.ptr 0 0), .d (.str p)] [stoO s 1, mapO s.m] (.d (.sl 2 ((sList s.m p).map encEn))) [stoO s 1, mapO s.m] := by
 refine q8p.go ?_
 try simp only [stoO, mapO, go_sem, Nat.reduceAdd, Nat.reduceMul, Nat.reduceSub, Nat.reduceEqDiff, Nat.reduceLT, Nat.reduceLeDiff, Nat.reduceBEq, reduceIte, reduceCtorEq, Int.reduceAdd, Int.reduceLT, Int.reduceLE, Int.reduceGT, Int.reduceGE, Int.reduceEq, Int.reduceNe, Int.reduceBEq, Int.reduceBNe, Int.reduceToNat, Int.reduceNeg]
 (repeat (with_reducible refine ob ?_)); refine no_ ?_
 try (refine ev ?_; try exact True.intro)
 refine qn (Slist s p) (fun i => s.m.l.length - i.val.length) ⟨[], by simp, by simp⟩ ?_ (fun i => ?_)
 ·try simp only [Slist, stoO, mapO, preL, List.filter_nil, List.map_nil, go_sem, Nat.reduceAdd, Nat.reduceMul, Nat.reduceSub, Nat.reduceEqDiff, Nat.reduceLT, Nat.reduceLeDiff, Nat.reduceBEq, reduceIte, reduceCtorEq, Int.reduceAdd, Int.reduceLT, Int.reduceLE, Int.reduceGT, Int.reduceGE, Int.reduceEq, Int.reduceNe, Int.reduceBEq, Int.reduceBNe, Int.reduceToNat, Int.reduceNeg]
 obtain ⟨i, hi1, hi2⟩ := i
 try simp only [Slist, stoO, mapO, go_sem, Nat.reduceAdd, Nat.reduceMul, Nat.reduceSub, Nat.reduceEqDiff, Nat.reduceLT, Nat.reduceLeDiff, Nat.reduceBEq, reduceIte, reduceCtorEq, Int.reduceAdd, Int.reduceLT, Int.reduceLE, Int.reduceGT, Int.reduceGE, Int.reduceEq, Int.reduceNe, Int.reduceBEq, Int.reduceBNe, Int.reduceToNat, Int.reduceNeg]
 have hleft : leftE (s.m.l.map encKV) (i.map (·.1)) = (s.m.l.filter fun x => !(i.map (·.1)).contains x.1).map encKV := by
  unfold leftE
  rw [List.filter_map]; rfl
 have hone : ∀ x ∈ s.m.l, ∀ y ∈ s.m.l, x.1 = y.1 → x = y := fun x hx y hy h => qit hm.num hx hy h
 refine qpe (last := s.m.c) ⟨rfl, rfl, by intro e he; obtain ⟨x, hx, rfl⟩ := List.mem_map.1 he; exact hm.lt x hx, Nat.le_refl _⟩ (fun hl0 => ?_) (fun e he => ?_)
 ·
  rw [hleft, List.map_eq_nil_iff, List.filter_eq_nil_iff] at hl0
  have hall : ∀ x ∈ s.m.l, x ∈ i := by
   intro x hx
   have := hl0 x hx
   simp only [List.contains_eq_mem, decide_eq_true_eq, Bool.not_eq_true, Bool.not_eq_false', Bool.not_not] at this
   simp at this
   obtain ⟨a, b, hab⟩ := this
   have := hone x hx _ (hi2 _ hab) rfl
   rw [this]; exact hab
  have hperm : i.Perm s.m.l := by
   refine (List.perm_ext_iff_of_nodup (jh _ hi1) (jh _ hm.num)).2 fun x => ⟨hi2 x, hall x⟩
  have hpp : (preL p i).Perm (preL p s.m.l) := (hperm.filter _).map _
  have hpn : ((preL p i).map (·.1)).Nodup := by
   refine (hpp.map (fun x : En => x.1)).nodup_iff.2 ?_
   exact qnn hm.key
  have hsame : sortEn (preL p i) = sList s.m p := qno hpp hpn
  have hlen : (preL p i).length ≤ 1000 := by
   have h1 := hpp.length_eq
   have h2 : (preL p s.m.l).length ≤ s.m.l.length := by simp only [preL, List.length_map]; exact List.length_filter_le _ _
   omega
  try simp only [overV, go_sem, Nat.reduceAdd, Nat.reduceMul, Nat.reduceSub, Nat.reduceEqDiff, Nat.reduceLT, Nat.reduceLeDiff, Nat.reduceBEq, reduceIte, reduceCtorEq, Int.reduceAdd, Int.reduceLT, Int.reduceLE, Int.reduceGT, Int.reduceGE, Int.reduceEq, Int.reduceNe, Int.reduceBEq, Int.reduceBNe, Int.reduceToNat, Int.reduceNeg]
  (repeat (with_reducible refine ob ?_)); refine no_ ?_
  try (refine ev ?_; try exact True.intro)
  refine qtn (.fr 5) 0 2 ((preL p i).map encEn) ?_
  refine pu ?_
  try (refine ev ?_; try exact True.intro)
  refine clO [3] F45 (qse (preL p i) hpn (by omega)) ?_
  try (refine ev ?_; try exact True.intro)
  have hsl : (preL p i).length = (sortEn (preL p i)).length := (x9 _).length_eq.symm
  rw [hsl]
  refine qto 3 2 ((sortEn (preL p i)).map encEn) ?_ (hc := ?_) (hcc := ?_) (hes := ?_) (hok := D.okWR_noPtr (qbx _))
  ·refine pu ?_
   try simp only [hsame, go_sem, Nat.reduceAdd, Nat.reduceMul, Nat.reduceSub, Nat.reduceEqDiff, Nat.reduceLT, Nat.reduceLeDiff, Nat.reduceBEq, reduceIte, reduceCtorEq, Int.reduceAdd, Int.reduceLT, Int.reduceLE, Int.reduceGT, Int.reduceGE, Int.reduceEq, Int.reduceNe, Int.reduceBEq, Int.reduceBNe, Int.reduceToNat, Int.reduceNeg]
  ·try (refine ev ?_; try exact True.intro)
  ·try (refine ev ?_; try exact True.intro)
  ·intro r hr
   obtain ⟨x, _, rfl⟩ := List.mem_map.1 hr
   rfl
 ·rw [hleft] at he
  obtain ⟨x, hx, rfl⟩ := List.mem_map.1 he
  rw [List.mem_filter] at hx
  obtain ⟨hx1, hx2⟩ := hx
  have hx3 : x.1 ∉ i.map (·.1) := by simpa using hx2
  have hnext : ((i ++ [x]).map (·.1)).Nodup ∧ ∀ y ∈ i ++ [x], y ∈ s.m.l := by
   refine ⟨by rw [List.map_append]; exact List.nodup_append.2 ⟨hi1, by simp, fun a ha b hb h => by simp at hb; subst hb; subst h; exact hx3 ha⟩, fun y hy => ?_⟩
   rcases List.mem_append.1 hy with h | h
   ·exact hi2 y h
   ·simp at h; subst h; exact hx1
  have hil : i.length < s.m.l.length := by
   have := qnm (jh _ hnext.1) hnext.2
   simp at this; omega
  have hpl : (preL p i).length ≤ i.length := by simp only [preL, List.length_map]; exact List.length_filter_le _ _
  try simp only [entV, go_sem, Nat.reduceAdd, Nat.reduceMul, Nat.reduceSub, Nat.reduceEqDiff, Nat.reduceLT, Nat.reduceLeDiff, Nat.reduceBEq, reduceIte, reduceCtorEq, Int.reduceAdd, Int.reduceLT, Int.reduceLE, Int.reduceGT, Int.reduceGE, Int.reduceEq, Int.reduceNe, Int.reduceBEq, Int.reduceBNe, Int.reduceToNat, Int.reduceNeg]
  (repeat (with_reducible refine ob ?_)); refine yv ?_
  try (refine ev ?_; try exact True.intro)
  refine qmi (e := encKV x) (mid := 1) (since := s.m.c) (seen := i.map (·.1) ++ [x.1]) (clock := s.m.c) (es := s.m.l.map encKV) ⟨rfl, rfl, by simp [encKV], ?_⟩ ?_
  ·rw [List.find?_map]
   have h1 : s.m.l.find? ((fun e : Nat × D × D => e.1 == (encKV x).1) ∘ encKV) = some x := qjm (fun y : KV => y.1) hm.num hx1
   rw [h1]; rfl
  try simp only [encKV, go_sem, Nat.reduceAdd, Nat.reduceMul, Nat.reduceSub, Nat.reduceEqDiff, Nat.reduceLT, Nat.reduceLeDiff, Nat.reduceBEq, reduceIte, reduceCtorEq, Int.reduceAdd, Int.reduceLT, Int.reduceLE, Int.reduceGT, Int.reduceGE, Int.reduceEq, Int.reduceNe, Int.reduceBEq, Int.reduceBNe, Int.reduceToNat, Int.reduceNeg]
  (repeat (with_reducible refine ob ?_)); first | refine cl F44 (qaj x.2.1 p) ?_ | refine clF F44 (qaj x.2.1 p) (fun _ => by simp only [encOp, encEn, go_sem, Nat.reduceAdd, Nat.reduceMul, Nat.reduceSub, Nat.reduceEqDiff, Nat.reduceLT, Nat.reduceLeDiff, Nat.reduceBEq, reduceIte, reduceCtorEq, Int.reduceAdd, Int.reduceLT, Int.reduceLE, Int.reduceGT, Int.reduceGE, Int.reduceEq, Int.reduceNe, Int.reduceBEq, Int.reduceBNe, Int.reduceToNat, Int.reduceNeg]) ?_
  try (refine ev ?_; try exact True.intro)
  (repeat (with_reducible refine ob ?_)); refine zb _ (fun h => ?_) (fun h => ?_)
  ·try (refine ev ?_; try exact True.intro)
   (repeat (with_reducible refine ob ?_)); first | refine cl F43 (xm x.2.2 (by have := hv x hx1; omega)) ?_ | refine clF F43 (xm x.2.2 (by have := hv x hx1; omega)) (fun _ => by simp only [encOp, encEn, go_sem, Nat.reduceAdd, Nat.reduceMul, Nat.reduceSub, Nat.reduceEqDiff, Nat.reduceLT, Nat.reduceLeDiff, Nat.reduceBEq, reduceIte, reduceCtorEq, Int.reduceAdd, Int.reduceLT, Int.reduceLE, Int.reduceGT, Int.reduceGE, Int.reduceEq, Int.reduceNe, Int.reduceBEq, Int.reduceBNe, Int.reduceToNat, Int.reduceNeg]) ?_
   try (refine ev ?_; try exact True.intro)
   refine ⟨by omega, ?_⟩
   have hpx : preL p (i ++ [x]) = preL p i ++ [enOf x] := by simp [preL, h]
   refine ⟨⟨i ++ [x], hnext⟩, ?_, by simp only [List.length_append, List.length_singleton]; omega⟩
   try simp only [Slist, stoO, mapO, hpx, List.map_append, encEn, enOf, go_sem, Nat.reduceAdd, Nat.reduceMul, Nat.reduceSub, Nat.reduceEqDiff, Nat.reduceLT, Nat.reduceLeDiff, Nat.reduceBEq, reduceIte, reduceCtorEq, Int.reduceAdd, Int.reduceLT, Int.reduceLE, Int.reduceGT, Int.reduceGE, Int.reduceEq, Int.reduceNe, Int.reduceBEq, Int.reduceBNe, Int.reduceToNat, Int.reduceNeg]
  ·have hpx : preL p (i ++ [x]) = preL p i := by simp [preL, h]
   try (refine ev ?_; try exact True.intro)
   refine ⟨⟨i ++ [x], hnext⟩, ?_, by simp only [List.length_append, List.length_singleton]; omega⟩
   try simp only [Slist, stoO, mapO, hpx, List.map_append, encEn, enOf, go_sem, Nat.reduceAdd, Nat.reduceMul, Nat.reduceSub, Nat.reduceEqDiff, Nat.reduceLT, Nat.reduceLeDiff, Nat.reduceBEq, reduceIte, reduceCtorEq, Int.reduceAdd, Int.reduceLT, Int.reduceLE, Int.reduceGT, Int.reduceGE, Int.reduceEq, Int.reduceNe, Int.reduceBEq, Int.reduceBNe, Int.reduceToNat, Int.reduceNeg]
end Go.Proofs.Ytinnaedmdoengaa
namespace Go.Proofs.Ytinnaedmdoengaa
open Go.Abs
set_option linter.unusedSimpArgs false
set_option linter.unusedVariables false
theorem jo {k : List UInt8} {x : KV} : hasKey k x = true ↔ k = x.2.1 := by simp [hasKey]
theorem qby {k v : List UInt8} : ∀ {l : List KV} {j : Nat}, l.findIdx? (hasKey k) = some j → ∀ k', (l.modify j fun e => (e.1, k, v)).find? (hasKey k') = if k' = k then some ((l[j]?.getD (0, [], [])).1, k, v) else l.find? (hasKey k')
 | [], j, h, k' => by simp at h
 | a :: l, j, h, k' => by
  rw [List.findIdx?_cons] at h
  by_cases ha : hasKey k a = true
  ·rw [if_pos ha] at h
   cases h
   simp only [List.modify_zero_cons, List.find?_cons, List.getElem?_cons_zero, Option.getD_some]
   by_cases hk : k' = k
   ·subst hk
    have : hasKey k' (a.1, k', v) = true := jo.2 rfl
    rw [this, if_pos rfl]
   ·have h1 : hasKey k' (a.1, k, v) = false := by simpa [hasKey] using hk
    have h2 : hasKey k' a = false := by rw [jo] at ha; simp [hasKey, ← ha, hk]
    rw [h1, h2, if_neg hk]
  ·rw [if_neg (by simpa using ha)] at h
   obtain ⟨i, hi, rfl⟩ := Option.map_eq_some_iff.1 h
   simp only [List.modify_succ_cons, List.find?_cons, List.getElem?_cons_succ]
   have ih := qby (v := v) hi k'
   by_cases hk : k' = k
   ·subst hk
    have : hasKey k' a = false := by simpa using ha
    rw [this]
    exact ih
   ·cases h2 : hasKey k' a with
    | true => rw [if_neg hk]
    | false => rw [ih]
theorem qg1 {k : List UInt8} {l : List KV} (h : l.findIdx? (hasKey k) = none) : l.find? (hasKey k) = none := by
 rw [List.findIdx?_eq_none_iff] at h
 exact List.find?_eq_none.2 fun x hx => by rw [h x hx]; simp
theorem qqm (k v : List UInt8) (m : Cont) (k' : List UInt8) : mGet k' (mPut k v m) = if k' = k then some v else mGet k' m := by
 unfold mGet mPut
 cases h : m.l.findIdx? (hasKey k) with
 | some j =>
  simp only [qby h k']
  split <;> rfl
 | none =>
  simp only [List.find?_append]
  by_cases hk : k' = k
  ·subst hk
   rw [qg1 h, if_pos rfl]
   simp [hasKey]
  ·rw [if_neg hk]
   have : [(m.c, k, v)].find? (hasKey k') = none := by simp [hasKey, hk]
   rw [this, Option.or_none]
theorem qdi {k v : List UInt8} : ∀ {l : List KV} {j : Nat}, l.findIdx? (hasKey k) = some j → (l.modify j fun e => (e.1, k, v)).map (·.2.1) = l.map (·.2.1) ∧ (l.modify j fun e => (e.1, k, v)).map (·.1) = l.map (·.1)
 | [], j, h => by simp at h
 | a :: l, j, h => by
  rw [List.findIdx?_cons] at h
  by_cases ha : hasKey k a = true
  ·rw [if_pos ha] at h
   cases h
   rw [jo] at ha
   simp only [List.modify_zero_cons, List.map_cons, ha, and_self]
  ·rw [if_neg (by simpa using ha)] at h
   obtain ⟨i, hi, rfl⟩ := Option.map_eq_some_iff.1 h
   obtain ⟨h1, h2⟩ := qdi (v := v) hi
   simp only [List.modify_succ_cons, List.map_cons, h1, h2, and_self]
theorem qdj {α : Type} {l : List α} {x : α} (h : l.Nodup) (hx : x ∉ l) : (l ++ [x]).Nodup :=
 List.nodup_append.2 ⟨h, by simp, fun a ha b hb e => by simp at hb; subst hb; subst e; exact hx ha⟩
theorem qnp {m : Cont} (h : m.Ok) (k v : List UInt8) : (mPut k v m).Ok := by
 unfold mPut
 cases hf : m.l.findIdx? (hasKey k) with
 | some j =>
  obtain ⟨h1, h2⟩ := qdi (v := v) hf
  refine ⟨by simpa only [h2] using h.num, fun x hx => ?_, by simpa only [h1] using h.key⟩
  have : x.1 ∈ (m.l.modify j fun e => (e.1, k, v)).map (·.1) := List.mem_map_of_mem hx
  rw [h2] at this
  obtain ⟨y, hy, he⟩ := List.mem_map.1 this
  rw [← he]; exact h.lt y hy
 | none =>
  rw [List.findIdx?_eq_none_iff] at hf
  refine ⟨?_, fun x hx => ?_, ?_⟩
  ·rw [List.map_append]
   refine qdj h.num fun hm => ?_
   obtain ⟨y, hy, he⟩ := List.mem_map.1 hm
   have := h.lt y hy
   simp only at he
   omega
  ·simp only
   rcases List.mem_append.1 hx with hx | hx
   ·have := h.lt x hx; omega
   ·simp at hx; subst hx; simp
  ·rw [List.map_append]
   refine qdj h.key fun hm => ?_
   obtain ⟨y, hy, he⟩ := List.mem_map.1 hm
   have := hf y hy
   simp [hasKey, he] at this
theorem yc (k : List UInt8) (m : Cont) : (mDel k m).l.Sublist m.l := by
 unfold mDel
 split
 ·exact List.eraseIdx_sublist ..
 ·exact List.Sublist.refl _
theorem qnq {m : Cont} (h : m.Ok) (k : List UInt8) : (mDel k m).Ok :=
 ⟨List.Nodup.sublist ((yc k m).map _) h.num, fun x hx => by rw [qq7]; exact h.lt x ((yc k m).subset hx), List.Nodup.sublist ((yc k m).map _) h.key⟩
theorem qdk {k : List UInt8} : ∀ {l : List KV} {j : Nat}, l.findIdx? (hasKey k) = some j → (l.map (·.2.1)).Nodup → ∀ k', (l.eraseIdx j).find? (hasKey k') = if k' = k then none else l.find? (hasKey k')
 | [], j, h, _, k' => by simp at h
 | a :: l, j, h, hn, k' => by
  rw [List.findIdx?_cons] at h
  simp only [List.map_cons, List.nodup_cons] at hn
  by_cases ha : hasKey k a = true
  ·rw [if_pos ha] at h
   cases h
   rw [jo] at ha
   simp only [List.eraseIdx_cons_zero, List.find?_cons]
   by_cases hk : k' = k
   ·subst hk
    rw [if_pos rfl]
    refine List.find?_eq_none.2 fun x hx hk => ?_
    rw [jo] at hk
    exact hn.1 (List.mem_map.2 ⟨x, hx, by rw [← ha, ← hk]⟩)
   ·rw [if_neg hk]
    have h2 : hasKey k' a = false := by simp [hasKey, ← ha, hk]
    rw [h2]
  ·rw [if_neg (by simpa using ha)] at h
   obtain ⟨i, hi, rfl⟩ := Option.map_eq_some_iff.1 h
   simp only [List.eraseIdx_cons_succ, List.find?_cons]
   have ih := qdk hi hn.2 k'
   by_cases hk : k' = k
   ·subst hk
    have : hasKey k' a = false := by simpa using ha
    rw [this, if_pos rfl]
    rw [if_pos rfl] at ih
    exact ih
   ·cases h2 : hasKey k' a with
    | true => rw [if_neg hk]
    | false => rw [ih]
theorem qqn {m : Cont} (h : m.Ok) (k k' : List UInt8) : mGet k' (mDel k m) = if k' = k then none else mGet k' m := by
 unfold mGet mDel
 cases hf : m.l.findIdx? (hasKey k) with
 | some j =>
  simp only [qdk hf h.key k']
  split <;> rfl
 | none =>
  simp only
  split
  ·rename_i hk; subst hk; rw [qg1 hf]; rfl
  ·rfl
theorem qzz (k v : List UInt8) (m : Cont) : (mPut k v m).l.length ≤ m.l.length + 1 := by
 unfold mPut
 split <;> simp
theorem qqo (k : List UInt8) (m : Cont) : (mDel k m).l.length ≤ m.l.length := (yc k m).length_le
def kvOk (x : KV) : Prop := 1 ≤ x.2.1.length ∧ x.2.1.length ≤ 40 ∧ x.2.2.length ≤ 900
theorem qqp {k v : List UInt8} {m : Cont} {x : KV} (h : x ∈ (mPut k v m).l) : x ∈ m.l ∨ (x.2.1 = k ∧ x.2.2 = v) := by
 unfold mPut at h
 split at h
 ·rename_i j hj
  simp only at h
  obtain ⟨i, hi⟩ := List.getElem?_of_mem h
  rw [List.getElem?_modify] at hi
  cases hg : m.l[i]? with
  | none => rw [hg] at hi; cases hi
  | some y =>
   rw [hg] at hi
   simp only [Option.map_eq_map, Option.map_some, Option.some.injEq] at hi
   split at hi
   ·subst hi; exact .inr ⟨rfl, rfl⟩
   ·subst hi; exact .inl (List.mem_of_getElem? hg)
 ·rcases List.mem_append.1 h with h | h
  ·exact .inl h
  ·simp at h; subst h; exact .inr ⟨rfl, rfl⟩
structure Cont.Good (m : Cont) : Prop where
 ok : m.Ok
 few : m.l.length ≤ 400
 small : ∀ x ∈ m.l, kvOk x
theorem we : ∀ (l : List OpS) {m : Cont}, m.Good → (∀ o ∈ l, sProper o = true) → (mApply m l).2 = true → (mApply m l).1.Good
 | [], m, h, _, _ => h
 | o :: l, m, h, hp, hy => by
  rw [mApply] at hy ⊢
  have ho := x8.1 (hp o (List.mem_cons_self ..))
  have hp' := fun x hx => hp x (List.mem_cons_of_mem _ hx)
  split at hy
  ·rename_i hd
   rw [if_pos hd]
   exact we l ⟨qnq h.ok _, Nat.le_trans (qqo _ _) h.few, fun x hx => h.small x ((yc _ _).subset hx)⟩ hp' hy
  ·rename_i hd
   rw [if_neg hd]
   split at hy
   ·cases hy
   ·rename_i h4
    rw [if_neg h4]
    refine we l ⟨qnp h.ok _ _, by omega, fun x hx => ?_⟩ hp' hy
    rcases qqp hx with hx | ⟨h1, h2⟩
    ·exact h.small x hx
    ·exact ⟨by rw [h1]; exact ho.1, by rw [h1]; exact ho.2.1, by rw [h2]; exact ho.2.2.1⟩
theorem qiv (f r : List UInt8) (hr : r.length ≤ 2000) : (wAppend f r).length ≤ f.length + 70000 := by
 have := qbu _ r (Nat.le_refl _)
 unfold wAppend
 rw [qbv _ _ (fun q hq => (jz _ r (Nat.le_refl _) q hq).2)]
 simp only; omega
structure Sto.Ok (n : Nat) (s : Sto) : Prop where
 good : s.m.Good
 file : s.file.length ≤ n * 70000
theorem qsi (n : Nat) : newS.Ok n := by
 refine ⟨⟨⟨List.nodup_nil, fun x hx => (by cases hx), List.nodup_nil⟩, ?_, fun x hx => (by cases hx)⟩, ?_⟩
 ·simp only [newS, emptyC, List.length_nil, Nat.zero_le]
 ·simp only [newS, List.length_nil, Nat.zero_le]
theorem Sto.Ok.mono {n m : Nat} {s : Sto} (h : s.Ok n) (hn : n ≤ m) : s.Ok m := ⟨h.good, Nat.le_trans h.file (Nat.mul_le_mul_right _ hn)⟩
theorem qex (s : Sto) (l : List OpS) : ((sCommit s l).2 ≠ 0 ∧ (sCommit s l).1 = s) ∨ ((sCommit s l).2 = 0 ∧ (sEncode l).2 = 0 ∧ (mApply s.m l).2 = true ∧ (sCommit s l).1 = ⟨wAppend s.file (sEncode l).1, s.synced, (mApply s.m l).1⟩) := by
 unfold sCommit
 split
 ·exact .inl ⟨by assumption, rfl⟩
 ·split
  ·exact .inl ⟨by simp, rfl⟩
  ·rename_i h1 h2
   exact .inr ⟨rfl, by simpa using h1, by simpa using h2, rfl⟩
theorem qbz {n : Nat} {s : Sto} (h : s.Ok n) (l : List OpS) : (sCommit s l).1.Ok (n + 1) := by
 rcases qex s l with ⟨_, he⟩ | ⟨_, h1, h2, he⟩
 ·rw [he]; exact h.mono (Nat.le_succ _)
 ·rw [he]
  refine ⟨we l h.good (j0 h1).2.1 h2, ?_⟩
  have := qiv s.file _ (z7 l)
  have := h.file
  simp only; omega
theorem qdl {s : Sto} {l : List OpS} (hl : l.length ≤ 100000) (hf : s.file.length ≤ 100000000) (h : (sCommit s l).2 = 0) :
  ACall Try.prog 13 [.d (.ptr 0 0), .d (.sl 3 (l.map encOp))] [stoO s 1, mapO s.m] (.d (.int .i64 0)) [stoO (sCommit s l).1 2, mapO s.m, mapO (sCommit s l).1.m] := by
 have := qgx s l hl hf
 rw [afterC, if_pos h, h] at this
 exact this
theorem qwl {s : Sto} {l : List OpS} (hl : l.length ≤ 100000) (hf : s.file.length ≤ 100000000) (h : (sCommit s l).2 ≠ 0) :
  ACall Try.prog 13 [.d (.ptr 0 0), .d (.sl 3 (l.map encOp))] [stoO s 1, mapO s.m] (.d (.int .i64 (sCommit s l).2)) [stoO s 1, mapO s.m, .none] := by
 have := qgx s l hl hf
 rw [afterC, if_neg h] at this
 exact this
def lastOf (k : List UInt8) : Option (List UInt8) → List OpS → Option (List UInt8)
 | a, [] => a
 | a, o :: l => lastOf k (if o.key = k then (if o.del then none else some o.val) else a) l
theorem qdm (k : List UInt8) : ∀ (l : List OpS) {m : Cont}, m.Ok → (mApply m l).2 = true → mGet k (mApply m l).1 = lastOf k (mGet k m) l
 | [], m, _, _ => rfl
 | o :: l, m, h, hy => by
  rw [mApply] at hy ⊢
  rw [lastOf]
  split at hy
  ·rename_i hd
   rw [if_pos hd, qdm k l (qnq h _) hy, qqn h]
   congr 1
   by_cases hk : k = o.key
   ·rw [if_pos hk, if_pos hk.symm, if_pos hd]
   ·rw [if_neg hk, if_neg (Ne.symm hk)]
  ·rename_i hd
   rw [if_neg hd]
   split at hy
   ·cases hy
   ·rename_i h4
    rw [if_neg h4, qdm k l (qnp h _ _) hy, qqm]
    congr 1
    by_cases hk : k = o.key
    ·rw [if_pos hk, if_pos hk.symm, if_neg hd]
    ·rw [if_neg hk, if_neg (Ne.symm hk)]
end Go.Proofs.Ytinnaedmdoengaa
namespace Go.Proofs.Ytinnaedmdoengaa
open Go.Abs
set_option linter.unusedSimpArgs false
set_option linter.unusedVariables false
theorem kb {α β : Type} (f : α → β) (l : List α) {i : Nat} (h : i < l.length) : (l.take (i + 1)).map f = (l.take i).map f ++ [f l[i]] := by
 rw [List.take_succ_eq_append_getElem h, List.map_append]; rfl
theorem qco (w : List UInt8) : rowsBytes (byteRows w) = w := by
 induction w with
 | nil => rfl
 | cons c w ih => simp_all [rowsBytes, byteRows]
theorem qsj (w : List UInt8) : (∃ l, byteRows w = byteRows l) = True := eq_true ⟨w, rfl⟩
theorem qwm : (∃ l, ([] : List (List D)) = byteRows l) = True := eq_true ⟨[], rfl⟩
theorem qey : rowsBytes [] = [] := rfl
attribute [go_sem] qco qsj qwm qey
noncomputable section
set_option maxRecDepth 100000
def s14r0 : List SOper := [
 ⟨some 2, .mov (.k (.d .nilsl)), none⟩]
def s14r1 : List SOper := [
 ⟨some 3, .mov (.k (.d .nilsl)), none⟩]
def s14r2 : List SOper := [
 ⟨some 4, .mov (.k (.d (.int .i64 0))), none⟩]
def s14r3 : List SOper := [
 ⟨some 5, .mov (.t 4), none⟩,
 ⟨some 6, .mov (.t 0), none⟩,
 ⟨some 7, .len (.t 6), none⟩,
 ⟨some 8, .bin .lss (.t 5) (.t 7), none⟩]
def s14r4 : List SOper := [
 ⟨some 11, .mov (.t 3), none⟩,
 ⟨some 12, .mov (.t 0), none⟩,
 ⟨some 13, .mov (.t 4), none⟩,
 ⟨some 14, .iaddr 3 (.t 12) (.t 13), none⟩,
 ⟨some 15, .faddr 0 (.t 14), none⟩,
 ⟨some 16, .load none (.t 15), none⟩,
 ⟨some 17, .mov (.t 0), none⟩,
 ⟨some 18, .mov (.t 4), none⟩,
 ⟨some 19, .iaddr 3 (.t 17) (.t 18), none⟩,
 ⟨some 20, .faddr 1 (.t 19), none⟩,
 ⟨some 21, .load none (.t 20), none⟩,
 ⟨some 22, .buildSlice false 1 0 [(.int .u8 0)] [], none⟩,
 ⟨some 23, .mov (.t 0), none⟩,
 ⟨some 24, .mov (.t 4), none⟩,
 ⟨some 25, .iaddr 3 (.t 23) (.t 24), none⟩,
 ⟨some 26, .faddr 2 (.t 25), none⟩,
 ⟨some 27, .load none (.t 26), none⟩,
 ⟨some 28, .append false 1 1 (.t 22) (.t 27), none⟩,
 ⟨some 29, .build [(.str []), (.bool false), .nilsl] [(0, 1, (.t 16)), (1, 1, (.t 21)), (2, 1, (.t 28))], none⟩,
 ⟨some 30, .buildSlice false 3 1 [(.str []), (.bool false), .nilsl] [(0, 3, (.t 29))], none⟩,
 ⟨some 31, .append false 3 48 (.t 11) (.t 30), none⟩,
 ⟨some 3, .mov (.t 31), none⟩]
def s14r5 : List SOper := [
 ⟨some 9, .mov (.t 4), none⟩,
 ⟨some 10, .bin .add (.t 9) (.k (.d (.int .i64 1))), none⟩,
 ⟨some 4, .mov (.t 10), none⟩]
def s14l6 : SCode := (.seq (.seq (.region s14r3 0 []) (.cond (.t 8) .skip (.exit 0))) (.seq (.block 1 (.region s14r4 0 [])) (.region s14r5 0 [])))
theorem q3x : CodeIs s14l6.eq_1 := qc s14l6.eq_1
def s14r7 : List SOper := [
 ⟨some 32, .mov (.t 3), none⟩,
 ⟨some 2, .mov (.t 32), none⟩]
def s14 : SCode := (.seq (.region s14r0 0 []) (.seq (.region s14r1 0 []) (.seq (.seq (.region s14r2 0 []) (.block 0 (.loop s14l6))) (.seq (.region s14r7 0 []) .ret))))
theorem e14 : CodeIs s14.eq_1 := qc s14.eq_1
theorem q3y : RegIs s14r0.eq_1 := qa
theorem q3z : RegIs s14r1.eq_1 := qa
theorem q30 : RegIs s14r2.eq_1 := qa
theorem q31 : RegIs s14r3.eq_1 := qa
theorem q32 : RegIs s14r4.eq_1 := qa
theorem q33 : RegIs s14r5.eq_1 := qa
theorem q34 : RegIs s14r7.eq_1 := qa
attribute [go_sem] q3y q3z q30 q31 q32 q33 q3x q34 e14
theorem F14 : FnIs Try.prog 14 Try.f14 [] news s14 [.tmp 2] 33 := xa follows Try.func14
def s36r0 : List SOper := [
 ⟨some 4, .mov (.k (.d .nilsl)), none⟩]
def s36r1 : List SOper := [
 ⟨some 8, .mov (.t 0), none⟩,
 ⟨some 9, .mov (.t 1), none⟩,
 ⟨some 10, .call (.k (.d (.func (.func 17) [] []))) [(.t 8), (.t 9)], none⟩,
 ⟨some 5, .mov (.t 10), none⟩]
def s36r2 : List SOper := [
 ⟨some 6, .mov (.k (.d .nilsl)), none⟩]
def s36r3 : List SOper := [
 ⟨some 7, .mov (.k (.d (.int .i64 0))), none⟩]
def s36r4 : List SOper := [
 ⟨some 11, .mov (.t 7), none⟩,
 ⟨some 12, .mov (.t 5), none⟩,
 ⟨some 13, .len (.t 12), none⟩,
 ⟨some 14, .bin .lss (.t 11) (.t 13), none⟩]
def s36r5 : List SOper := [
 ⟨some 17, .mov (.t 6), none⟩,
 ⟨some 18, .mov (.t 5), none⟩,
 ⟨some 19, .mov (.t 7), none⟩,
 ⟨some 20, .iaddr 2 (.t 18) (.t 19), none⟩,
 ⟨some 21, .load (some 2) (.t 20), none⟩,
 ⟨some 22, .buildSlice false 2 1 [(.str []), .nilsl] [(0, 2, (.t 21))], none⟩,
 ⟨some 23, .append false 2 40 (.t 17) (.t 22), none⟩,
 ⟨some 6, .mov (.t 23), none⟩]
def s36r6 : List SOper := [
 ⟨some 15, .mov (.t 7), none⟩,
 ⟨some 16, .bin .add (.t 15) (.k (.d (.int .i64 1))), none⟩,
 ⟨some 7, .mov (.t 16), none⟩]
def s36l7 : SCode := (.seq (.seq (.region s36r4 0 []) (.cond (.t 14) .skip (.exit 0))) (.seq (.block 1 (.region s36r5 0 [])) (.region s36r6 0 [])))
theorem q35 : CodeIs s36l7.eq_1 := qc s36l7.eq_1
def s36r8 : List SOper := [
 ⟨some 24, .mov (.t 6), none⟩,
 ⟨some 4, .mov (.t 24), none⟩]
def s36 : SCode := (.seq (.region s36r0 0 []) (.seq (.region s36r1 0 []) (.seq (.region s36r2 0 []) (.seq (.seq (.region s36r3 0 []) (.block 0 (.loop s36l7))) (.seq (.region s36r8 0 []) .ret)))))
theorem e36 : CodeIs s36.eq_1 := qc s36.eq_1
theorem q36 : RegIs s36r0.eq_1 := qa
theorem q37 : RegIs s36r1.eq_1 := qa
theorem q38 : RegIs s36r2.eq_1 := qa
theorem q39 : RegIs s36r3.eq_1 := qa
theorem q4a : RegIs s36r4.eq_1 := qa
theorem q4b : RegIs s36r5.eq_1 := qa
theorem q4c : RegIs s36r6.eq_1 := qa
theorem q4d : RegIs s36r8.eq_1 := qa
attribute [go_sem] q36 q37 q38 q39 q4a q4b q4c q35 q4d e36
theorem F36 : FnIs Try.prog 36 Try.f36 [] news s36 [.tmp 4] 25 := xa follows Try.func36
def s25r0 : List SOper := [
 ⟨some 2, .mov (.k (.d (.bool false))), none⟩]
def s25r1 : List SOper := [
 ⟨some 3, .mov (.k (.d (.int .i64 0))), none⟩]
def s25r2 : List SOper := [
 ⟨some 4, .mov (.k (.d (.int .i64 0))), none⟩]
def s25r3 : List SOper := [
 ⟨some 5, .mov (.t 4), none⟩,
 ⟨some 6, .mov (.t 0), none⟩,
 ⟨some 7, .len (.t 6), none⟩,
 ⟨some 8, .bin .lss (.t 5) (.t 7), none⟩]
def s25r4 : List SOper := [
 ⟨some 11, .mov (.t 0), none⟩,
 ⟨some 12, .mov (.t 4), none⟩,
 ⟨some 13, .iaddr 3 (.t 11) (.t 12), none⟩,
 ⟨some 14, .faddr 0 (.t 13), none⟩,
 ⟨some 15, .load none (.t 14), none⟩,
 ⟨some 16, .lenS (.t 15), none⟩,
 ⟨some 17, .bin .gtr (.t 16) (.k (.d (.int .i64 100))), none⟩,
 ⟨some 18, .mov (.t 17), none⟩,
 ⟨some 19, .mov (.t 0), some (18, false)⟩,
 ⟨some 20, .mov (.t 4), some (18, false)⟩,
 ⟨some 21, .iaddr 3 (.t 19) (.t 20), some (18, false)⟩,
 ⟨some 22, .faddr 2 (.t 21), some (18, false)⟩,
 ⟨some 23, .load none (.t 22), some (18, false)⟩,
 ⟨some 24, .len (.t 23), some (18, false)⟩,
 ⟨some 25, .bin .gtr (.t 24) (.k (.d (.int .i64 1000))), some (18, false)⟩,
 ⟨some 26, .pick (.t 18) (.k (.d (.bool true))) (.t 25), none⟩]
def s25r5 : List SOper := [
 ⟨some 2, .mov (.k (.d (.bool false))), none⟩]
def s25r6 : List SOper := [
 ⟨some 27, .mov (.t 3), none⟩,
 ⟨some 28, .mov (.t 0), none⟩,
 ⟨some 29, .mov (.t 4), none⟩,
 ⟨some 30, .iaddr 3 (.t 28) (.t 29), none⟩,
 ⟨some 31, .faddr 2 (.t 30), none⟩,
 ⟨some 32, .load none (.t 31), none⟩,
 ⟨some 33, .len (.t 32), none⟩,
 ⟨some 34, .bin .add (.t 27) (.t 33), none⟩,
 ⟨some 3, .mov (.t 34), none⟩]
def s25r7 : List SOper := [
 ⟨some 9, .mov (.t 4), none⟩,
 ⟨some 10, .bin .add (.t 9) (.k (.d (.int .i64 1))), none⟩,
 ⟨some 4, .mov (.t 10), none⟩]
def s25l8 : SCode := (.seq (.seq (.region s25r3 0 []) (.cond (.t 8) .skip (.exit 0))) (.seq (.block 1 (.seq (.seq (.region s25r4 0 []) (.cond (.t 26) (.seq (.region s25r5 0 []) .ret) .skip)) (.region s25r6 0 []))) (.region s25r7 0 [])))
theorem q4e : CodeIs s25l8.eq_1 := qc s25l8.eq_1
def s25r9 : List SOper := [
 ⟨some 35, .mov (.t 0), none⟩,
 ⟨some 36, .len (.t 35), none⟩,
 ⟨some 37, .bin .leq (.t 36) (.k (.d (.int .i64 30))), none⟩,
 ⟨some 38, .mov (.t 37), none⟩,
 ⟨some 39, .mov (.t 3), some (38, true)⟩,
 ⟨some 40, .bin .leq (.t 39) (.k (.d (.int .i64 3000))), some (38, true)⟩,
 ⟨some 41, .pick (.t 38) (.t 40) (.k (.d (.bool false))), none⟩,
 ⟨some 2, .mov (.t 41), none⟩]
def s25 : SCode := (.seq (.region s25r0 0 []) (.seq (.region s25r1 0 []) (.seq (.seq (.region s25r2 0 []) (.block 0 (.loop s25l8))) (.seq (.region s25r9 0 []) .ret))))
theorem e25 : CodeIs s25.eq_1 := qc s25.eq_1
theorem q4f : RegIs s25r0.eq_1 := qa
theorem q4g : RegIs s25r1.eq_1 := qa
theorem q4h : RegIs s25r2.eq_1 := qa
theorem q4i : RegIs s25r3.eq_1 := qa
theorem q4j : RegIs s25r4.eq_1 := qa
theorem q4k : RegIs s25r5.eq_1 := qa
theorem q4l : RegIs s25r6.eq_1 := qa
theorem q4m : RegIs s25r7.eq_1 := qa
theorem q4n : RegIs s25r9.eq_1 := qa
attribute [go_sem] q4f q4g q4h q4i q4j q4k q4l q4m q4e q4n e25
theorem F25 : FnIs Try.prog 25 Try.f25 [] news s25 [.tmp 2] 42 := xa follows Try.func25
def s11r0 : List SOper := [
 ⟨some 2, .mov (.k (.d (.bool false))), none⟩]
def s11r1 : List SOper := [
 ⟨some 3, .mov (.k (.d (.int .i64 0))), none⟩]
def s11r2 : List SOper := [
 ⟨some 4, .mov (.t 3), none⟩,
 ⟨some 5, .mov (.t 0), none⟩,
 ⟨some 6, .len (.t 5), none⟩,
 ⟨some 7, .bin .lss (.t 4) (.t 6), none⟩]
def s11r3 : List SOper := [
 ⟨some 10, .mov (.t 0), none⟩,
 ⟨some 11, .mov (.t 3), none⟩,
 ⟨some 12, .iaddr 2 (.t 10) (.t 11), none⟩,
 ⟨some 13, .faddr 1 (.t 12), none⟩,
 ⟨some 14, .load none (.t 13), none⟩,
 ⟨some 15, .call (.k (.d (.func (.func 25) [] []))) [(.t 14)], none⟩,
 ⟨some 16, .not (.t 15), none⟩]
def s11r4 : List SOper := [
 ⟨some 2, .mov (.k (.d (.bool false))), none⟩]
def s11r5 : List SOper := [
 ⟨some 8, .mov (.t 3), none⟩,
 ⟨some 9, .bin .add (.t 8) (.k (.d (.int .i64 1))), none⟩,
 ⟨some 3, .mov (.t 9), none⟩]
def s11l6 : SCode := (.seq (.seq (.region s11r2 0 []) (.cond (.t 7) .skip (.exit 0))) (.seq (.block 1 (.seq (.region s11r3 0 []) (.cond (.t 16) (.seq (.region s11r4 0 []) .ret) .skip))) (.region s11r5 0 [])))
theorem q4o : CodeIs s11l6.eq_1 := qc s11l6.eq_1
def s11r7 : List SOper := [
 ⟨some 17, .mov (.t 0), none⟩,
 ⟨some 18, .len (.t 17), none⟩,
 ⟨some 19, .bin .leq (.t 18) (.k (.d (.int .i64 15))), none⟩,
 ⟨some 2, .mov (.t 19), none⟩]
def s11 : SCode := (.seq (.region s11r0 0 []) (.seq (.seq (.region s11r1 0 []) (.block 0 (.loop s11l6))) (.seq (.region s11r7 0 []) .ret)))
theorem e11 : CodeIs s11.eq_1 := qc s11.eq_1
theorem q4p : RegIs s11r0.eq_1 := qa
theorem q4q : RegIs s11r1.eq_1 := qa
theorem q4r : RegIs s11r2.eq_1 := qa
theorem q4s : RegIs s11r3.eq_1 := qa
theorem q4t : RegIs s11r4.eq_1 := qa
theorem q4u : RegIs s11r5.eq_1 := qa
theorem q4v : RegIs s11r7.eq_1 := qa
attribute [go_sem] q4p q4q q4r q4s q4t q4u q4o q4v e11
theorem F11 : FnIs Try.prog 11 Try.f11 [] news s11 [.tmp 2] 20 := xa follows Try.func11
end
def SfTo (l : List OpS) (i : { i : Nat // i ≤ l.length }) : St :=
 ⟨[(0, true, .d (.sl 3 (l.map encOp))), (3, true, .own 0 3 ((l.take i.val).map encOp)), (4, true, .d (.int .i64 (i.val : Nat)))], [], [0], 1⟩
theorem qwn (l : List OpS) (hl : l.length ≤ 100000) (hv : ∀ o ∈ l, o.val.length ≤ 1000000) : ACall Try.prog 14 [.d (.sl 3 (l.map encOp))] [] (.d (.sl 3 (l.map encOp))) [] := by
 refine F14.go ?_
 try (refine ev ?_; try exact True.intro)
 refine qn (SfTo l) (fun i => l.length - i.val) ⟨0, Nat.zero_le _⟩ ?_ (fun i => ?_)
 ·try simp only [SfTo, List.take_zero, go_sem, Nat.reduceAdd, Nat.reduceMul, Nat.reduceSub, Nat.reduceEqDiff, Nat.reduceLT, Nat.reduceLeDiff, Nat.reduceBEq, reduceIte, reduceCtorEq, Int.reduceAdd, Int.reduceLT, Int.reduceLE, Int.reduceGT, Int.reduceGE, Int.reduceEq, Int.reduceNe, Int.reduceBEq, Int.reduceBNe, Int.reduceToNat, Int.reduceNeg]
 obtain ⟨i, hi⟩ := i
 try simp only [SfTo, go_sem, Nat.reduceAdd, Nat.reduceMul, Nat.reduceSub, Nat.reduceEqDiff, Nat.reduceLT, Nat.reduceLeDiff, Nat.reduceBEq, reduceIte, reduceCtorEq, Int.reduceAdd, Int.reduceLT, Int.reduceLE, Int.reduceGT, Int.reduceGE, Int.reduceEq, Int.reduceNe, Int.reduceBEq, Int.reduceBNe, Int.reduceToNat, Int.reduceNeg]
 (repeat (with_reducible refine ob ?_)); refine zb _ (fun h => ?_) (fun h => ?_)
 ·have hil : i < l.length := by simpa using h
  have hx := hv _ (List.getElem_mem hil)
  try simp only [qw encOp l hil, encOp, go_sem, Nat.reduceAdd, Nat.reduceMul, Nat.reduceSub, Nat.reduceEqDiff, Nat.reduceLT, Nat.reduceLeDiff, Nat.reduceBEq, reduceIte, reduceCtorEq, Int.reduceAdd, Int.reduceLT, Int.reduceLE, Int.reduceGT, Int.reduceGE, Int.reduceEq, Int.reduceNe, Int.reduceBEq, Int.reduceBNe, Int.reduceToNat, Int.reduceNeg]
  (repeat (with_reducible refine ob ?_))
  refine ⟨⟨i + 1, hil⟩, ?_, by dsimp only; omega⟩
  try simp only [SfTo, kb encOp l hil, encOp, ql (show i < 9223372036854775807 by omega), go_sem, Nat.reduceAdd, Nat.reduceMul, Nat.reduceSub, Nat.reduceEqDiff, Nat.reduceLT, Nat.reduceLeDiff, Nat.reduceBEq, reduceIte, reduceCtorEq, Int.reduceAdd, Int.reduceLT, Int.reduceLE, Int.reduceGT, Int.reduceGE, Int.reduceEq, Int.reduceNe, Int.reduceBEq, Int.reduceBNe, Int.reduceToNat, Int.reduceNeg]
 ·have hil : i = l.length := by
   have : l.length ≤ i := by simpa using h
   omega
  subst hil
  try simp only [List.take_length, go_sem, Nat.reduceAdd, Nat.reduceMul, Nat.reduceSub, Nat.reduceEqDiff, Nat.reduceLT, Nat.reduceLeDiff, Nat.reduceBEq, reduceIte, reduceCtorEq, Int.reduceAdd, Int.reduceLT, Int.reduceLE, Int.reduceGT, Int.reduceGE, Int.reduceEq, Int.reduceNe, Int.reduceBEq, Int.reduceBNe, Int.reduceToNat, Int.reduceNeg]
theorem qnr (m : Cont) (p : List UInt8) : (sList m p).length ≤ m.l.length := by
 rw [sList, (x9 _).length_eq]
 simp only [preL, List.length_map]
 exact List.length_filter_le _ _
def Scon (s : Sto) (l : List En) (i : { i : Nat // i ≤ l.length }) : St :=
 ⟨[(5, true, .d (.sl 2 (l.map encEn))), (6, true, .own 0 2 ((l.take i.val).map encEn)), (7, true, .d (.int .i64 (i.val : Nat)))], [stoO s 1, mapO s.m], [0], 1⟩
theorem qla (s : Sto) (p : List UInt8) (n : Nat) (hs : s.Ok n) :
  ACall Try.prog 36 [.d (.ptr 0 0), .d (.str p)] [stoO s 1, mapO s.m] (.d (.sl 2 ((sList s.m p).map encEn))) [stoO s 1, mapO s.m] := by
 have hls := qsh s p hs.good.ok (by have := hs.good.few; omega) (fun x hx => by have := (hs.good.small x hx).2.2; omega)
 have hln := qnr s.m p
 have hfew := hs.good.few
 refine F36.go ?_
 try simp only [stoO, mapO, go_sem, Nat.reduceAdd, Nat.reduceMul, Nat.reduceSub, Nat.reduceEqDiff, Nat.reduceLT, Nat.reduceLeDiff, Nat.reduceBEq, reduceIte, reduceCtorEq, Int.reduceAdd, Int.reduceLT, Int.reduceLE, Int.reduceGT, Int.reduceGE, Int.reduceEq, Int.reduceNe, Int.reduceBEq, Int.reduceBNe, Int.reduceToNat, Int.reduceNeg]
 simp only [stoO, mapO] at hls
 (repeat (with_reducible refine ob ?_)); refine clO [0, 1] q8p (hls) ?_ (hfit := by first | exact ⟨qb, trivial⟩ | exact ⟨qb, qb, trivial⟩ | simp only [encOp, encEn, go_sem, Nat.reduceAdd, Nat.reduceMul, Nat.reduceSub, Nat.reduceEqDiff, Nat.reduceLT, Nat.reduceLeDiff, Nat.reduceBEq, reduceIte, reduceCtorEq, Int.reduceAdd, Int.reduceLT, Int.reduceLE, Int.reduceGT, Int.reduceGE, Int.reduceEq, Int.reduceNe, Int.reduceBEq, Int.reduceBNe, Int.reduceToNat, Int.reduceNeg])
 generalize sList s.m p = l at hln ⊢
 try (refine ev ?_; try exact True.intro)
 refine qn (Scon s l) (fun i => l.length - i.val) ⟨0, Nat.zero_le _⟩ ?_ (fun i => ?_)
 ·try simp only [Scon, List.take_zero, stoO, mapO, go_sem, Nat.reduceAdd, Nat.reduceMul, Nat.reduceSub, Nat.reduceEqDiff, Nat.reduceLT, Nat.reduceLeDiff, Nat.reduceBEq, reduceIte, reduceCtorEq, Int.reduceAdd, Int.reduceLT, Int.reduceLE, Int.reduceGT, Int.reduceGE, Int.reduceEq, Int.reduceNe, Int.reduceBEq, Int.reduceBNe, Int.reduceToNat, Int.reduceNeg]
 obtain ⟨i, hi⟩ := i
 try simp only [Scon, stoO, mapO, go_sem, Nat.reduceAdd, Nat.reduceMul, Nat.reduceSub, Nat.reduceEqDiff, Nat.reduceLT, Nat.reduceLeDiff, Nat.reduceBEq, reduceIte, reduceCtorEq, Int.reduceAdd, Int.reduceLT, Int.reduceLE, Int.reduceGT, Int.reduceGE, Int.reduceEq, Int.reduceNe, Int.reduceBEq, Int.reduceBNe, Int.reduceToNat, Int.reduceNeg]
 (repeat (with_reducible refine ob ?_)); refine zb _ (fun h => ?_) (fun h => ?_)
 ·have hil : i < l.length := by simpa using h
  try simp only [qw encEn l hil, encEn, go_sem, Nat.reduceAdd, Nat.reduceMul, Nat.reduceSub, Nat.reduceEqDiff, Nat.reduceLT, Nat.reduceLeDiff, Nat.reduceBEq, reduceIte, reduceCtorEq, Int.reduceAdd, Int.reduceLT, Int.reduceLE, Int.reduceGT, Int.reduceGE, Int.reduceEq, Int.reduceNe, Int.reduceBEq, Int.reduceBNe, Int.reduceToNat, Int.reduceNeg]
  (repeat (with_reducible refine ob ?_))
  refine ⟨⟨i + 1, hil⟩, ?_, by dsimp only; omega⟩
  try simp only [Scon, stoO, mapO, kb encEn l hil, encEn, ql (show i < 9223372036854775807 by omega), go_sem, Nat.reduceAdd, Nat.reduceMul, Nat.reduceSub, Nat.reduceEqDiff, Nat.reduceLT, Nat.reduceLeDiff, Nat.reduceBEq, reduceIte, reduceCtorEq, Int.reduceAdd, Int.reduceLT, Int.reduceLE, Int.reduceGT, Int.reduceGE, Int.reduceEq, Int.reduceNe, Int.reduceBEq, Int.reduceBNe, Int.reduceToNat, Int.reduceNeg]
 ·have hil : i = l.length := by
   have : l.length ≤ i := by simpa using h
   omega
  subst hil
  try simp only [List.take_length, go_sem, Nat.reduceAdd, Nat.reduceMul, Nat.reduceSub, Nat.reduceEqDiff, Nat.reduceLT, Nat.reduceLeDiff, Nat.reduceBEq, reduceIte, reduceCtorEq, Int.reduceAdd, Int.reduceLT, Int.reduceLE, Int.reduceGT, Int.reduceGE, Int.reduceEq, Int.reduceNe, Int.reduceBEq, Int.reduceBNe, Int.reduceToNat, Int.reduceNeg]
def vSum (l : List OpS) : Nat := (l.map fun o => o.val.length).sum
def sFew (l : List OpS) : Bool := l.all (fun o => decide (o.key.length ≤ 100) && decide (o.val.length ≤ 1000)) && decide (l.length ≤ 30) && decide (vSum l ≤ 3000)
theorem qns (a b : Int) : IntKind.i64.wrap (IntKind.i64.wrap a + b) = IntKind.i64.wrap (a + b) := by
 simp only [IntKind.wrap, IntKind.bits, IntKind.signed, if_true]
 simp
 omega
theorem qnt (l : List OpS) {i : Nat} (h : i < l.length) : vSum (l.take (i + 1)) = vSum (l.take i) + l[i].val.length := by
 unfold vSum
 rw [List.take_succ_eq_append_getElem h, List.map_append, List.sum_append]; simp
theorem yd {α : Type} {f : α → Bool} {l : List α} {i : Nat} (h : (l.take i).all f = true) (hil : i < l.length) (hf : f l[i] = true) : (l.take (i + 1)).all f = true := by
 rw [List.take_succ_eq_append_getElem hil, List.all_append, h]; simp [hf]
theorem qq9 {α : Type} {f : α → Bool} {l : List α} {i : Nat} (hil : i < l.length) (hf : f l[i] = false) : l.all f = false := by
 rw [List.all_eq_false]; exact ⟨l[i], List.getElem_mem hil, by simp [hf]⟩
theorem qsk (l : List OpS) : (l.all fun o => decide (o.key.length ≤ 100) && decide (o.val.length ≤ 1000)) = true → vSum l ≤ 1000 * l.length := by
 induction l with
 | nil => intro _; simp [vSum]
 | cons o l ih =>
  intro h
  simp only [List.all_cons, Bool.and_eq_true, decide_eq_true_eq] at h
  have := ih (by simpa using h.2)
  simp only [vSum, List.map_cons, List.sum_cons, List.length_cons] at this ⊢
  omega
def Sfew (l : List OpS) (i : { i : Nat // i ≤ l.length ∧ (l.take i).all (fun o => decide (o.key.length ≤ 100) && decide (o.val.length ≤ 1000)) = true }) : St :=
 ⟨[(0, true, .d (.sl 3 (l.map encOp))), (3, true, .d (.int .i64 (IntKind.i64.wrap (vSum (l.take i.val) : Nat)))), (4, true, .d (.int .i64 (i.val : Nat)))], [], [], 1⟩
theorem qjn (l : List OpS) (hl : l.length ≤ maxLen) : ACall Try.prog 25 [.d (.sl 3 (l.map encOp))] [] (.d (.bool (sFew l))) [] := by
 have hl : l.length ≤ 9223372036854775807 := hl
 refine F25.go ?_
 try (refine ev ?_; try exact True.intro)
 refine qn (Sfew l) (fun i => l.length - i.val) ⟨0, Nat.zero_le _, rfl⟩ ?_ (fun i => ?_)
 ·have w0 : IntKind.i64.wrap 0 = 0 := rfl
  try simp only [Sfew, List.take_zero, vSum, List.sum_nil, Int.ofNat_zero, w0, go_sem, Nat.reduceAdd, Nat.reduceMul, Nat.reduceSub, Nat.reduceEqDiff, Nat.reduceLT, Nat.reduceLeDiff, Nat.reduceBEq, reduceIte, reduceCtorEq, Int.reduceAdd, Int.reduceLT, Int.reduceLE, Int.reduceGT, Int.reduceGE, Int.reduceEq, Int.reduceNe, Int.reduceBEq, Int.reduceBNe, Int.reduceToNat, Int.reduceNeg]
 obtain ⟨i, hi, ha⟩ := i
 try simp only [Sfew, go_sem, Nat.reduceAdd, Nat.reduceMul, Nat.reduceSub, Nat.reduceEqDiff, Nat.reduceLT, Nat.reduceLeDiff, Nat.reduceBEq, reduceIte, reduceCtorEq, Int.reduceAdd, Int.reduceLT, Int.reduceLE, Int.reduceGT, Int.reduceGE, Int.reduceEq, Int.reduceNe, Int.reduceBEq, Int.reduceBNe, Int.reduceToNat, Int.reduceNeg]
 (repeat (with_reducible refine ob ?_)); refine zb _ (fun h => ?_) (fun h => ?_)
 ·have hil : i < l.length := by simpa using h
  try simp only [qw encOp l hil, encOp, go_sem, Nat.reduceAdd, Nat.reduceMul, Nat.reduceSub, Nat.reduceEqDiff, Nat.reduceLT, Nat.reduceLeDiff, Nat.reduceBEq, reduceIte, reduceCtorEq, Int.reduceAdd, Int.reduceLT, Int.reduceLE, Int.reduceGT, Int.reduceGE, Int.reduceEq, Int.reduceNe, Int.reduceBEq, Int.reduceBNe, Int.reduceToNat, Int.reduceNeg]
  refine ⟨by omega, fun h => ⟨h, h, by omega⟩, fun h => by rw [h]; rfl, ?_⟩
  have hd1 : decide ((l[i].key.length : Int) > 100) = !decide (l[i].key.length ≤ 100) := by rw [← decide_not]; exact decide_eq_decide.2 (by omega)
  have hd2 : decide ((l[i].val.length : Int) > 1000) = !decide (l[i].val.length ≤ 1000) := by rw [← decide_not]; exact decide_eq_decide.2 (by omega)
  have hd : (decide ((l[i].key.length : Int) > 100) || decide ((l[i].val.length : Int) > 1000)) = !(decide (l[i].key.length ≤ 100) && decide (l[i].val.length ≤ 1000)) := by rw [hd1, hd2, Bool.not_and]
  refine zb _ (fun h => ?_) (fun h => ?_)
  ·rw [hd, Bool.not_eq_true'] at h
   have : sFew l = false := by rw [sFew, qq9 hil h]; rfl
   try simp only [this, go_sem, Nat.reduceAdd, Nat.reduceMul, Nat.reduceSub, Nat.reduceEqDiff, Nat.reduceLT, Nat.reduceLeDiff, Nat.reduceBEq, reduceIte, reduceCtorEq, Int.reduceAdd, Int.reduceLT, Int.reduceLE, Int.reduceGT, Int.reduceGE, Int.reduceEq, Int.reduceNe, Int.reduceBEq, Int.reduceBNe, Int.reduceToNat, Int.reduceNeg]
  ·rw [hd, Bool.not_eq_false'] at h
   try simp only [qw encOp l hil, encOp, go_sem, Nat.reduceAdd, Nat.reduceMul, Nat.reduceSub, Nat.reduceEqDiff, Nat.reduceLT, Nat.reduceLeDiff, Nat.reduceBEq, reduceIte, reduceCtorEq, Int.reduceAdd, Int.reduceLT, Int.reduceLE, Int.reduceGT, Int.reduceGE, Int.reduceEq, Int.reduceNe, Int.reduceBEq, Int.reduceBNe, Int.reduceToNat, Int.reduceNeg]
   (repeat (with_reducible refine ob ?_))
   refine ⟨⟨i + 1, hil, yd ha hil h⟩, ?_, by dsimp only; omega⟩
   try simp only [Sfew, qnt l hil, qns, ql (show i < 9223372036854775807 by omega), go_sem, Nat.reduceAdd, Nat.reduceMul, Nat.reduceSub, Nat.reduceEqDiff, Nat.reduceLT, Nat.reduceLeDiff, Nat.reduceBEq, reduceIte, reduceCtorEq, Int.reduceAdd, Int.reduceLT, Int.reduceLE, Int.reduceGT, Int.reduceGE, Int.reduceEq, Int.reduceNe, Int.reduceBEq, Int.reduceBNe, Int.reduceToNat, Int.reduceNeg]
 ·have hil : i = l.length := by
   have : l.length ≤ i := by simpa using h
   omega
  subst hil
  rw [List.take_length] at ha
  have hv := qsk l ha
  try simp only [List.take_length, sFew, ha, go_sem, Nat.reduceAdd, Nat.reduceMul, Nat.reduceSub, Nat.reduceEqDiff, Nat.reduceLT, Nat.reduceLeDiff, Nat.reduceBEq, reduceIte, reduceCtorEq, Int.reduceAdd, Int.reduceLT, Int.reduceLE, Int.reduceGT, Int.reduceGE, Int.reduceEq, Int.reduceNe, Int.reduceBEq, Int.reduceBNe, Int.reduceToNat, Int.reduceNeg]
  by_cases h30 : l.length ≤ 30
  ·rw [wrap_i64 (by omega) (by omega)]
   have e1 : decide ((l.length : Int) ≤ 30) = true := by simp; omega
   have e2 : decide (((vSum l : Nat) : Int) ≤ 3000) = decide (vSum l ≤ 3000) := decide_eq_decide.2 (by omega)
   simp only [e1, e2, h30, decide_true, Bool.true_and]
  ·have : decide ((l.length : Int) ≤ 30) = false := by simp; omega
   rw [this]
   simp [h30]
structure StepS where
 kind : Int
 ops : List OpS
 deriving DecidableEq, Inhabited
def encStep (x : StepS) : List D := [.int .i64 x.kind, .sl 3 (x.ops.map encOp)]
theorem ye (o : StepS) : D.noPtrL (encStep o) = true := by simp only [encStep, D.noPtrL, D.noPtr, qgo, Bool.and_self]
theorem qiw (l : List StepS) : D.noPtrR (l.map encStep) = true := qp ye l
attribute [go_sem] ye qiw
def sFews (l : List StepS) : Bool := l.all (fun x => sFew x.ops) && decide (l.length ≤ 15)
def Sfews (l : List StepS) (i : { i : Nat // i ≤ l.length ∧ (l.take i).all (fun x => sFew x.ops) = true }) : St :=
 ⟨[(0, true, .d (.sl 2 (l.map encStep))), (3, true, .d (.int .i64 (i.val : Nat)))], [], [], 1⟩
theorem q4w (l : List StepS) (hl : l.length ≤ maxLen) (hx : ∀ x ∈ l, x.ops.length ≤ maxLen) : ACall Try.prog 11 [.d (.sl 2 (l.map encStep))] [] (.d (.bool (sFews l))) [] := by
 have hl : l.length ≤ 9223372036854775807 := hl
 refine F11.go ?_
 try (refine ev ?_; try exact True.intro)
 refine qn (Sfews l) (fun i => l.length - i.val) ⟨0, Nat.zero_le _, rfl⟩ ?_ (fun i => ?_)
 ·try simp only [Sfews, go_sem, Nat.reduceAdd, Nat.reduceMul, Nat.reduceSub, Nat.reduceEqDiff, Nat.reduceLT, Nat.reduceLeDiff, Nat.reduceBEq, reduceIte, reduceCtorEq, Int.reduceAdd, Int.reduceLT, Int.reduceLE, Int.reduceGT, Int.reduceGE, Int.reduceEq, Int.reduceNe, Int.reduceBEq, Int.reduceBNe, Int.reduceToNat, Int.reduceNeg]
 obtain ⟨i, hi, ha⟩ := i
 try simp only [Sfews, go_sem, Nat.reduceAdd, Nat.reduceMul, Nat.reduceSub, Nat.reduceEqDiff, Nat.reduceLT, Nat.reduceLeDiff, Nat.reduceBEq, reduceIte, reduceCtorEq, Int.reduceAdd, Int.reduceLT, Int.reduceLE, Int.reduceGT, Int.reduceGE, Int.reduceEq, Int.reduceNe, Int.reduceBEq, Int.reduceBNe, Int.reduceToNat, Int.reduceNeg]
 (repeat (with_reducible refine ob ?_)); refine zb _ (fun h => ?_) (fun h => ?_)
 ·have hil : i < l.length := by simpa using h
  try simp only [qw encStep l hil, encStep, go_sem, Nat.reduceAdd, Nat.reduceMul, Nat.reduceSub, Nat.reduceEqDiff, Nat.reduceLT, Nat.reduceLeDiff, Nat.reduceBEq, reduceIte, reduceCtorEq, Int.reduceAdd, Int.reduceLT, Int.reduceLE, Int.reduceGT, Int.reduceGE, Int.reduceEq, Int.reduceNe, Int.reduceBEq, Int.reduceBNe, Int.reduceToNat, Int.reduceNeg]
  (repeat (with_reducible refine ob ?_))
  (repeat (with_reducible refine ob ?_)); first | refine cl F25 (qjn l[i].ops (hx _ (List.getElem_mem hil))) ?_ | refine clF F25 (qjn l[i].ops (hx _ (List.getElem_mem hil))) (fun _ => by simp only [encOp, encEn, go_sem, Nat.reduceAdd, Nat.reduceMul, Nat.reduceSub, Nat.reduceEqDiff, Nat.reduceLT, Nat.reduceLeDiff, Nat.reduceBEq, reduceIte, reduceCtorEq, Int.reduceAdd, Int.reduceLT, Int.reduceLE, Int.reduceGT, Int.reduceGE, Int.reduceEq, Int.reduceNe, Int.reduceBEq, Int.reduceBNe, Int.reduceToNat, Int.reduceNeg]) ?_
  try (refine ev ?_; try exact True.intro)
  (repeat (with_reducible refine ob ?_)); refine zb _ (fun h => ?_) (fun h => ?_)
  ·have : sFews l = false := by rw [sFews, qq9 hil (by simpa using h)]; rfl
   try simp only [this, go_sem, Nat.reduceAdd, Nat.reduceMul, Nat.reduceSub, Nat.reduceEqDiff, Nat.reduceLT, Nat.reduceLeDiff, Nat.reduceBEq, reduceIte, reduceCtorEq, Int.reduceAdd, Int.reduceLT, Int.reduceLE, Int.reduceGT, Int.reduceGE, Int.reduceEq, Int.reduceNe, Int.reduceBEq, Int.reduceBNe, Int.reduceToNat, Int.reduceNeg]
  ·try (refine ev ?_; try exact True.intro)
   refine ⟨⟨i + 1, hil, yd ha hil (by simpa using h)⟩, ?_, by dsimp only; omega⟩
   try simp only [Sfews, ql (show i < 9223372036854775807 by omega), go_sem, Nat.reduceAdd, Nat.reduceMul, Nat.reduceSub, Nat.reduceEqDiff, Nat.reduceLT, Nat.reduceLeDiff, Nat.reduceBEq, reduceIte, reduceCtorEq, Int.reduceAdd, Int.reduceLT, Int.reduceLE, Int.reduceGT, Int.reduceGE, Int.reduceEq, Int.reduceNe, Int.reduceBEq, Int.reduceBNe, Int.reduceToNat, Int.reduceNeg]
 ·have hil : i = l.length := by
   have : l.length ≤ i := by simpa using h
   omega
  subst hil
  rw [List.take_length] at ha
  have : sFews l = decide ((l.length : Int) ≤ 15) := by rw [sFews, ha, Bool.true_and]; exact decide_eq_decide.2 (by omega)
  try simp only [this, go_sem, Nat.reduceAdd, Nat.reduceMul, Nat.reduceSub, Nat.reduceEqDiff, Nat.reduceLT, Nat.reduceLeDiff, Nat.reduceBEq, reduceIte, reduceCtorEq, Int.reduceAdd, Int.reduceLT, Int.reduceLE, Int.reduceGT, Int.reduceGE, Int.reduceEq, Int.reduceNe, Int.reduceBEq, Int.reduceBNe, Int.reduceToNat, Int.reduceNeg]
theorem qqq {l : List OpS} (h : sFew l = true) : l.length ≤ 30 ∧ ∀ o ∈ l, o.key.length ≤ 100 ∧ o.val.length ≤ 1000 := by
 unfold sFew at h
 simp only [Bool.and_eq_true, List.all_eq_true, decide_eq_true_eq] at h
 exact ⟨h.1.2, fun o ho => h.1.1 o ho⟩
theorem qwo {l : List StepS} (h : sFews l = true) : l.length ≤ 15 ∧ ∀ x ∈ l, sFew x.ops = true := by
 unfold sFews at h
 simp only [Bool.and_eq_true, List.all_eq_true, decide_eq_true_eq] at h
 exact ⟨h.2, h.1⟩
noncomputable section
set_option maxRecDepth 100000
def s10r0 : List SOper := [
 ⟨some 0, .mov (.k (.d (.bool false))), none⟩]
def s10r1 : List SOper := [
 ⟨some 5, .call (.k (.d (.func (.func 12) [] []))) [], none⟩,
 ⟨some 1, .mov (.t 5), none⟩]
def s10r2 : List SOper := [
 ⟨some 6, .mov (.t 1), none⟩,
 ⟨some 7, .buildSlice false 1 1 [(.int .u8 0)] [(0, 1, (.k (.d (.int .u8 1))))], none⟩,
 ⟨some 8, .build [(.str []), (.bool false), .nilsl] [(0, 1, (.k (.d (.str [97])))), (2, 1, (.t 7))], none⟩,
 ⟨some 9, .buildSlice false 1 1 [(.int .u8 0)] [(0, 1, (.k (.d (.int .u8 2))))], none⟩,
 ⟨some 10, .build [(.str []), (.bool false), .nilsl] [(0, 1, (.k (.d (.str [98])))), (2, 1, (.t 9))], none⟩,
 ⟨some 11, .buildSlice false 3 2 [(.str []), (.bool false), .nilsl] [(0, 3, (.t 8)), (3, 3, (.t 10))], none⟩,
 ⟨some 12, .call (.k (.d (.func (.func 13) [] []))) [(.t 6), (.t 11)], none⟩,
 ⟨some 2, .mov (.t 12), none⟩]
def s10r3 : List SOper := [
 ⟨some 13, .mov (.t 1), none⟩,
 ⟨some 14, .build [(.str []), (.bool false), .nilsl] [(0, 1, (.k (.d (.str [97])))), (1, 1, (.k (.d (.bool true))))], none⟩,
 ⟨some 15, .buildSlice false 3 1 [(.str []), (.bool false), .nilsl] [(0, 3, (.t 14))], none⟩,
 ⟨some 16, .call (.k (.d (.func (.func 13) [] []))) [(.t 13), (.t 15)], none⟩,
 ⟨some 3, .mov (.t 16), none⟩]
def s10r4 : List SOper := [
 ⟨some 17, .mov (.t 1), none⟩,
 ⟨some 18, .call (.k (.d (.func (.func 36) [] []))) [(.t 17), (.k (.d (.str [])))], none⟩,
 ⟨some 4, .mov (.t 18), none⟩]
def s10r5 : List SOper := [
 ⟨some 19, .mov (.t 2), none⟩,
 ⟨some 20, .bin .eql (.t 19) (.k (.d (.int .i64 0))), none⟩,
 ⟨some 21, .mov (.t 20), none⟩,
 ⟨some 22, .mov (.t 3), some (21, true)⟩,
 ⟨some 23, .bin .eql (.t 22) (.k (.d (.int .i64 0))), some (21, true)⟩,
 ⟨some 24, .pick (.t 21) (.t 23) (.k (.d (.bool false))), none⟩,
 ⟨some 25, .mov (.t 24), none⟩,
 ⟨some 26, .mov (.t 4), some (25, true)⟩,
 ⟨some 27, .len (.t 26), some (25, true)⟩,
 ⟨some 28, .bin .eql (.t 27) (.k (.d (.int .i64 1))), some (25, true)⟩,
 ⟨some 29, .pick (.t 25) (.t 28) (.k (.d (.bool false))), none⟩,
 ⟨some 30, .mov (.t 29), none⟩,
 ⟨some 31, .mov (.t 4), some (30, true)⟩,
 ⟨some 32, .iaddr 2 (.t 31) (.k (.d (.int .i64 0))), some (30, true)⟩,
 ⟨some 33, .faddr 0 (.t 32), some (30, true)⟩,
 ⟨some 34, .load none (.t 33), some (30, true)⟩,
 ⟨some 35, .bin .eql (.t 34) (.k (.d (.str [98]))), some (30, true)⟩,
 ⟨some 36, .pick (.t 30) (.t 35) (.k (.d (.bool false))), none⟩,
 ⟨some 37, .mov (.t 36), none⟩,
 ⟨some 38, .mov (.t 4), some (37, true)⟩,
 ⟨some 39, .iaddr 2 (.t 38) (.k (.d (.int .i64 0))), some (37, true)⟩,
 ⟨some 40, .faddr 1 (.t 39), some (37, true)⟩,
 ⟨some 41, .load none (.t 40), some (37, true)⟩,
 ⟨some 42, .b2s (.t 41), some (37, true)⟩,
 ⟨some 43, .bin .eql (.t 42) (.k (.d (.str [2]))), some (37, true)⟩,
 ⟨some 44, .pick (.t 37) (.t 43) (.k (.d (.bool false))), none⟩,
 ⟨some 0, .mov (.t 44), none⟩]
def s10 : SCode := (.seq (.region s10r0 0 []) (.seq (.region s10r1 2 []) (.seq (.region s10r2 1 []) (.seq (.region s10r3 1 []) (.seq (.region s10r4 0 []) (.seq (.region s10r5 0 []) .ret))))))
theorem e10 : CodeIs s10.eq_1 := qc s10.eq_1
theorem q4x : RegIs s10r0.eq_1 := qa
theorem q4y : RegIs s10r1.eq_1 := qa
theorem q4z : RegIs s10r2.eq_1 := qa
theorem q40 : RegIs s10r3.eq_1 := qa
theorem q41 : RegIs s10r4.eq_1 := qa
theorem q42 : RegIs s10r5.eq_1 := qa
attribute [go_sem] q4x q4y q4z q40 q41 q42 e10
theorem F10 : FnIs Try.prog 10 Try.f10 [] news s10 [.tmp 0] 45 := xa follows Try.func10
end
def ops1 : List OpS := [⟨[97], false, [1]⟩, ⟨[98], false, [2]⟩]
def ops2 : List OpS := [⟨[97], true, []⟩]
def st1 : Sto := (sCommit newS ops1).1
def st2 : Sto := (sCommit st1 ops2).1
theorem c1 : (sCommit newS ops1).2 = 0 := by decide +kernel
theorem c2 : (sCommit st1 ops2).2 = 0 := by decide +kernel
theorem c3 : sList st2.m [] = [([98], [2])] := by decide +kernel
theorem qsl : ACall Try.prog 12 [] [] (.d (.ptr 1 0)) [mapO newS.m, stoO newS 0] := qv6
theorem qdn : ACall Try.prog 10 [] [] (.d (.bool true)) [] := by
 have s1 : st1.Ok 1 := qbz (qsi 0) ops1
 have s2 : st2.Ok 2 := qbz s1 ops2
 have k0 := qsl
 have k1 := qdl (by decide) (by decide) c1
 have k2 := qdl (s := st1) (by decide) (by have := s1.file; omega) c2
 have k3 := qla st2 [] 2 s2
 rw [c3] at k3
 change ACall _ _ _ _ _ [stoO st1 2, mapO newS.m, mapO st1.m] at k1
 change ACall _ _ _ _ _ [stoO st2 2, mapO st1.m, mapO st2.m] at k2
 have o1 : ops1.map encOp = [[.str [97], .bool false, .sl 1 [[.int .u8 1]]], [.str [98], .bool false, .sl 1 [[.int .u8 2]]]] := rfl
 have o2 : ops2.map encOp = [[.str [97], .bool true, .sl 1 []]] := rfl
 have o3 : [(([98], [2]) : En)].map encEn = [[.str [98], .sl 1 [[.int .u8 2]]]] := rfl
 rw [o1] at k1; rw [o2] at k2; rw [o3] at k3
 clear s1 s2 o1 o2 o3
 generalize newS = s0, st1 = s1, st2 = s2 at k0 k1 k2 k3
 simp only [stoO, mapO] at k0 k1 k2 k3
 refine F10.go ?_
 try (refine ev ?_; try exact True.intro)
 refine clO [0, 1] F12 k0 ?_
 try (refine ev ?_; try exact True.intro)
 refine clO [1, 0, 2] F13 k1 ?_
 try (refine ev ?_; try exact True.intro)
 refine clO [1, 2, 3] F13 k2 ?_
 try (refine ev ?_; try exact True.intro)
 refine clO [1, 3] F36 k3 ?_
 try (refine ev ?_; try exact True.intro)
 exact ⟨⟨[2], rfl⟩, by decide⟩
end Go.Proofs.Ytinnaedmdoengaa
namespace Go.Proofs.Ytinnaedmdoengaa
open Go.Abs
set_option linter.unusedSimpArgs false
set_option linter.unusedVariables false
noncomputable section
set_option maxRecDepth 100000
def s75r0 : List SOper := [
 ⟨some 2, .mov (.k (.d .nilsl)), none⟩]
def s75r1 : List SOper := [
 ⟨some 5, .mov (.t 0), none⟩,
 ⟨some 6, .conv .u64 (.t 5), none⟩,
 ⟨some 7, .bin .mul (.t 6) (.k (.d (.int .u64 2))), none⟩,
 ⟨some 3, .mov (.t 7), none⟩]
def s75r2 : List SOper := [
 ⟨some 8, .mov (.t 0), none⟩,
 ⟨some 9, .bin .lss (.t 8) (.k (.d (.int .i64 0))), none⟩]
def s75r3 : List SOper := [
 ⟨some 10, .mov (.t 0), none⟩,
 ⟨some 11, .bin .add (.t 10) (.k (.d (.int .i64 1))), none⟩,
 ⟨some 12, .neg (.t 11), none⟩,
 ⟨some 13, .conv .u64 (.t 12), none⟩,
 ⟨some 14, .bin .mul (.t 13) (.k (.d (.int .u64 2))), none⟩,
 ⟨some 15, .bin .add (.t 14) (.k (.d (.int .u64 1))), none⟩,
 ⟨some 3, .mov (.t 15), none⟩]
def s75r4 : List SOper := [
 ⟨some 4, .mov (.k (.d .nilsl)), none⟩]
def s75r5 : List SOper := [
 ⟨some 16, .mov (.t 3), none⟩,
 ⟨some 17, .bin .geq (.t 16) (.k (.d (.int .u64 128))), none⟩]
def s75r6 : List SOper := [
 ⟨some 18, .mov (.t 4), none⟩,
 ⟨some 19, .mov (.t 3), none⟩,
 ⟨some 20, .bin .rem (.t 19) (.k (.d (.int .u64 128))), none⟩,
 ⟨some 21, .conv .u8 (.t 20), none⟩,
 ⟨some 22, .bin .add (.t 21) (.k (.d (.int .u8 128))), none⟩,
 ⟨some 23, .buildSlice false 1 1 [(.int .u8 0)] [(0, 1, (.t 22))], none⟩,
 ⟨some 24, .append false 1 1 (.t 18) (.t 23), none⟩,
 ⟨some 4, .mov (.t 24), none⟩]
def s75r7 : List SOper := [
 ⟨some 25, .mov (.t 3), none⟩,
 ⟨some 26, .bin .quo (.t 25) (.k (.d (.int .u64 128))), none⟩,
 ⟨some 3, .mov (.t 26), none⟩]
def s75l8 : SCode := (.seq (.seq (.region s75r5 0 []) (.cond (.t 17) .skip (.exit 0))) (.block 1 (.seq (.region s75r6 0 []) (.region s75r7 0 []))))
theorem q43 : CodeIs s75l8.eq_1 := qc s75l8.eq_1
def s75r9 : List SOper := [
 ⟨some 27, .mov (.t 4), none⟩,
 ⟨some 28, .mov (.t 3), none⟩,
 ⟨some 29, .conv .u8 (.t 28), none⟩,
 ⟨some 30, .buildSlice false 1 1 [(.int .u8 0)] [(0, 1, (.t 29))], none⟩,
 ⟨some 31, .append false 1 1 (.t 27) (.t 30), none⟩,
 ⟨some 2, .mov (.t 31), none⟩]
def s75 : SCode := (.seq (.region s75r0 0 []) (.seq (.region s75r1 0 []) (.seq (.seq (.region s75r2 0 []) (.cond (.t 9) (.region s75r3 0 []) .skip)) (.seq (.region s75r4 0 []) (.seq (.block 0 (.loop s75l8)) (.seq (.region s75r9 0 []) .ret))))))
theorem e75 : CodeIs s75.eq_1 := qc s75.eq_1
theorem q44 : RegIs s75r0.eq_1 := qa
theorem q45 : RegIs s75r1.eq_1 := qa
theorem q46 : RegIs s75r2.eq_1 := qa
theorem q47 : RegIs s75r3.eq_1 := qa
theorem q48 : RegIs s75r4.eq_1 := qa
theorem q49 : RegIs s75r5.eq_1 := qa
theorem q5a : RegIs s75r6.eq_1 := qa
theorem q5b : RegIs s75r7.eq_1 := qa
theorem q5c : RegIs s75r9.eq_1 := qa
attribute [go_sem] q44 q45 q46 q47 q48 q49 q5a q5b q43 q5c e75
theorem F75 : FnIs Try.prog 75 Try.f75 [] news s75 [.tmp 2] 32 := xa follows Try.func75
def s79r0 : List SOper := [
 ⟨some 2, .mov (.k (.d .nilsl)), none⟩]
def s79r1 : List SOper := [
 ⟨some 3, .mov (.t 0), none⟩,
 ⟨some 4, .len (.t 3), none⟩,
 ⟨some 5, .call (.k (.d (.func (.func 75) [] []))) [(.t 4)], none⟩,
 ⟨some 6, .mov (.t 0), none⟩,
 ⟨some 7, .append false 1 1 (.t 5) (.t 6), none⟩,
 ⟨some 2, .mov (.t 7), none⟩]
def s79 : SCode := (.seq (.region s79r0 0 []) (.seq (.region s79r1 0 []) .ret))
theorem e79 : CodeIs s79.eq_1 := qc s79.eq_1
theorem q5d : RegIs s79r0.eq_1 := qa
theorem q5e : RegIs s79r1.eq_1 := qa
attribute [go_sem] q5d q5e e79
theorem F79 : FnIs Try.prog 79 Try.f79 [] news s79 [.tmp 2] 8 := xa follows Try.func79
def s77r0 : List SOper := [
 ⟨some 2, .mov (.k (.d .nilsl)), none⟩]
def s77r1 : List SOper := [
 ⟨some 3, .mov (.t 0), none⟩,
 ⟨some 4, .s2b (.t 3), none⟩,
 ⟨some 5, .call (.k (.d (.func (.func 79) [] []))) [(.t 4)], none⟩,
 ⟨some 2, .mov (.t 5), none⟩]
def s77 : SCode := (.seq (.region s77r0 0 []) (.seq (.region s77r1 0 []) .ret))
theorem e77 : CodeIs s77.eq_1 := qc s77.eq_1
theorem q5f : RegIs s77r0.eq_1 := qa
theorem q5g : RegIs s77r1.eq_1 := qa
attribute [go_sem] q5f q5g e77
theorem F77 : FnIs Try.prog 77 Try.f77 [] news s77 [.tmp 2] 6 := xa follows Try.func77
def s78r0 : List SOper := [
 ⟨some 2, .mov (.k (.d .nilsl)), none⟩]
def s78r1 : List SOper := [
 ⟨some 3, .mov (.t 0), none⟩]
def s78r2 : List SOper := [
 ⟨some 4, .buildSlice false 1 1 [(.int .u8 0)] [(0, 1, (.k (.d (.int .u8 1))))], none⟩,
 ⟨some 2, .mov (.t 4), none⟩]
def s78r3 : List SOper := [
 ⟨some 5, .buildSlice false 1 1 [(.int .u8 0)] [(0, 1, (.k (.d (.int .u8 0))))], none⟩,
 ⟨some 2, .mov (.t 5), none⟩]
def s78 : SCode := (.seq (.region s78r0 0 []) (.seq (.seq (.region s78r1 0 []) (.cond (.t 3) (.seq (.region s78r2 0 []) .ret) .skip)) (.seq (.region s78r3 0 []) .ret)))
theorem e78 : CodeIs s78.eq_1 := qc s78.eq_1
theorem q5h : RegIs s78r0.eq_1 := qa
theorem q5i : RegIs s78r1.eq_1 := qa
theorem q5j : RegIs s78r2.eq_1 := qa
theorem q5k : RegIs s78r3.eq_1 := qa
attribute [go_sem] q5h q5i q5j q5k e78
theorem F78 : FnIs Try.prog 78 Try.f78 [] news s78 [.tmp 2] 6 := xa follows Try.func78
def s76r0 : List SOper := [
 ⟨some 1, .box 1 (.t 0), none⟩,
 ⟨some 2, .mov (.k (.d (.bool false))), none⟩]
def s76r1 : List SOper := [
 ⟨some 3, .faddr 0 (.t 1), none⟩,
 ⟨some 4, .load none (.t 3), none⟩,
 ⟨some 5, .lenS (.t 4), none⟩,
 ⟨some 6, .bin .geq (.t 5) (.k (.d (.int .i64 1))), none⟩,
 ⟨some 7, .mov (.t 6), none⟩,
 ⟨some 8, .faddr 0 (.t 1), some (7, true)⟩,
 ⟨some 9, .load none (.t 8), some (7, true)⟩,
 ⟨some 10, .lenS (.t 9), some (7, true)⟩,
 ⟨some 11, .bin .leq (.t 10) (.k (.d (.int .i64 40))), some (7, true)⟩,
 ⟨some 12, .pick (.t 7) (.t 11) (.k (.d (.bool false))), none⟩,
 ⟨some 13, .mov (.t 12), none⟩,
 ⟨some 14, .faddr 2 (.t 1), some (13, true)⟩,
 ⟨some 15, .load none (.t 14), some (13, true)⟩,
 ⟨some 16, .len (.t 15), some (13, true)⟩,
 ⟨some 17, .bin .leq (.t 16) (.k (.d (.int .i64 900))), some (13, true)⟩,
 ⟨some 18, .pick (.t 13) (.t 17) (.k (.d (.bool false))), none⟩,
 ⟨some 19, .mov (.t 18), none⟩,
 ⟨some 20, .faddr 1 (.t 1), some (19, true)⟩,
 ⟨some 21, .load none (.t 20), some (19, true)⟩,
 ⟨some 22, .not (.t 21), some (19, true)⟩,
 ⟨some 23, .mov (.t 22), some (19, true)⟩,
 ⟨some 24, .faddr 2 (.t 1), some (23, false)⟩,
 ⟨some 25, .load none (.t 24), some (23, false)⟩,
 ⟨some 26, .len (.t 25), some (23, false)⟩,
 ⟨some 27, .bin .eql (.t 26) (.k (.d (.int .i64 0))), some (23, false)⟩,
 ⟨some 28, .pick (.t 23) (.k (.d (.bool true))) (.t 27), some (19, true)⟩,
 ⟨some 29, .pick (.t 19) (.t 28) (.k (.d (.bool false))), none⟩,
 ⟨some 2, .mov (.t 29), none⟩]
def s76 : SCode := (.seq (.region s76r0 1 []) (.seq (.region s76r1 0 []) .ret))
theorem e76 : CodeIs s76.eq_1 := qc s76.eq_1
theorem q5l : RegIs s76r0.eq_1 := qa
theorem q5m : RegIs s76r1.eq_1 := qa
attribute [go_sem] q5l q5m e76
theorem F76 : FnIs Try.prog 76 Try.f76 [] news s76 [.tmp 2] 30 := xa follows Try.func76
def s31r0 : List SOper := [
 ⟨some 2, .mov (.k (.d .nilsl)), none⟩,
 ⟨some 3, .mov (.k (.d (.int .i64 0))), none⟩]
def s31r1 : List SOper := [
 ⟨some 6, .mov (.t 0), none⟩,
 ⟨some 7, .len (.t 6), none⟩,
 ⟨some 8, .bin .eql (.t 7) (.k (.d (.int .i64 0))), none⟩]
def s31r2 : List SOper := [
 ⟨some 2, .mov (.k (.d .nilsl)), none⟩,
 ⟨some 3, .mov (.k (.d (.int .i64 1))), none⟩]
def s31r3 : List SOper := [
 ⟨some 9, .mov (.t 0), none⟩,
 ⟨some 10, .len (.t 9), none⟩,
 ⟨some 11, .call (.k (.d (.func (.func 75) [] []))) [(.t 10)], none⟩,
 ⟨some 4, .mov (.t 11), none⟩]
def s31r4 : List SOper := [
 ⟨some 5, .mov (.k (.d (.int .i64 0))), none⟩]
def s31r5 : List SOper := [
 ⟨some 12, .mov (.t 5), none⟩,
 ⟨some 13, .mov (.t 0), none⟩,
 ⟨some 14, .len (.t 13), none⟩,
 ⟨some 15, .bin .lss (.t 12) (.t 14), none⟩]
def s31r6 : List SOper := [
 ⟨some 18, .mov (.t 0), none⟩,
 ⟨some 19, .mov (.t 5), none⟩,
 ⟨some 20, .iaddr 3 (.t 18) (.t 19), none⟩,
 ⟨some 21, .load (some 3) (.t 20), none⟩,
 ⟨some 22, .call (.k (.d (.func (.func 76) [] []))) [(.t 21)], none⟩,
 ⟨some 23, .not (.t 22), none⟩]
def s31r7 : List SOper := [
 ⟨some 2, .mov (.k (.d .nilsl)), none⟩,
 ⟨some 3, .mov (.k (.d (.int .i64 1))), none⟩]
def s31r8 : List SOper := [
 ⟨some 24, .mov (.t 4), none⟩,
 ⟨some 25, .mov (.t 0), none⟩,
 ⟨some 26, .mov (.t 5), none⟩,
 ⟨some 27, .iaddr 3 (.t 25) (.t 26), none⟩,
 ⟨some 28, .faddr 0 (.t 27), none⟩,
 ⟨some 29, .load none (.t 28), none⟩,
 ⟨some 30, .call (.k (.d (.func (.func 77) [] []))) [(.t 29)], none⟩,
 ⟨some 31, .append false 1 1 (.t 24) (.t 30), none⟩,
 ⟨some 32, .mov (.t 0), none⟩,
 ⟨some 33, .mov (.t 5), none⟩,
 ⟨some 34, .iaddr 3 (.t 32) (.t 33), none⟩,
 ⟨some 35, .faddr 1 (.t 34), none⟩,
 ⟨some 36, .load none (.t 35), none⟩,
 ⟨some 37, .call (.k (.d (.func (.func 78) [] []))) [(.t 36)], none⟩,
 ⟨some 38, .append false 1 1 (.t 31) (.t 37), none⟩,
 ⟨some 4, .mov (.t 38), none⟩]
def s31r9 : List SOper := [
 ⟨some 39, .mov (.t 4), none⟩,
 ⟨some 40, .mov (.t 0), none⟩,
 ⟨some 41, .mov (.t 5), none⟩,
 ⟨some 42, .iaddr 3 (.t 40) (.t 41), none⟩,
 ⟨some 43, .faddr 2 (.t 42), none⟩,
 ⟨some 44, .load none (.t 43), none⟩,
 ⟨some 45, .call (.k (.d (.func (.func 79) [] []))) [(.t 44)], none⟩,
 ⟨some 46, .append false 1 1 (.t 39) (.t 45), none⟩,
 ⟨some 4, .mov (.t 46), none⟩]
def s31r10 : List SOper := [
 ⟨some 16, .mov (.t 5), none⟩,
 ⟨some 17, .bin .add (.t 16) (.k (.d (.int .i64 1))), none⟩,
 ⟨some 5, .mov (.t 17), none⟩]
def s31l11 : SCode := (.seq (.seq (.region s31r5 0 []) (.cond (.t 15) .skip (.exit 0))) (.seq (.block 1 (.seq (.seq (.region s31r6 0 []) (.cond (.t 23) (.seq (.region s31r7 0 []) .ret) .skip)) (.seq (.region s31r8 0 [(6, 12)]) (.region s31r9 0 [])))) (.region s31r10 0 [])))
theorem qwp : CodeIs s31l11.eq_1 := qc s31l11.eq_1
def s31r12 : List SOper := [
 ⟨some 47, .mov (.t 0), none⟩,
 ⟨some 48, .len (.t 47), none⟩,
 ⟨some 49, .bin .gtr (.t 48) (.k (.d (.int .i64 20))), none⟩,
 ⟨some 50, .mov (.t 49), none⟩,
 ⟨some 51, .mov (.t 4), some (50, false)⟩,
 ⟨some 52, .len (.t 51), some (50, false)⟩,
 ⟨some 53, .bin .gtr (.t 52) (.k (.d (.int .i64 2000))), some (50, false)⟩,
 ⟨some 54, .pick (.t 50) (.k (.d (.bool true))) (.t 53), none⟩]
def s31r13 : List SOper := [
 ⟨some 2, .mov (.k (.d .nilsl)), none⟩,
 ⟨some 3, .mov (.k (.d (.int .i64 6))), none⟩]
def s31r14 : List SOper := [
 ⟨some 55, .mov (.t 4), none⟩,
 ⟨some 2, .mov (.t 55), none⟩,
 ⟨some 3, .mov (.k (.d (.int .i64 0))), none⟩]
def s31 : SCode := (.seq (.region s31r0 0 []) (.seq (.seq (.region s31r1 0 []) (.cond (.t 8) (.seq (.region s31r2 0 []) .ret) .skip)) (.seq (.region s31r3 0 []) (.seq (.seq (.region s31r4 0 []) (.block 0 (.loop s31l11))) (.seq (.seq (.region s31r12 0 []) (.cond (.t 54) (.seq (.region s31r13 0 []) .ret) .skip)) (.seq (.region s31r14 0 []) .ret))))))
theorem e31 : CodeIs s31.eq_1 := qc s31.eq_1
theorem q5n : RegIs s31r0.eq_1 := qa
theorem q5o : RegIs s31r1.eq_1 := qa
theorem q5p : RegIs s31r2.eq_1 := qa
theorem q5q : RegIs s31r3.eq_1 := qa
theorem q5r : RegIs s31r4.eq_1 := qa
theorem q5s : RegIs s31r5.eq_1 := qa
theorem q5t : RegIs s31r6.eq_1 := qa
theorem q5u : RegIs s31r7.eq_1 := qa
theorem q5v : RegIs s31r8.eq_1 := qa
theorem q5w : RegIs s31r9.eq_1 := qa
theorem qwq : RegIs s31r10.eq_1 := qa
theorem qwr : RegIs s31r12.eq_1 := qa
theorem qws : RegIs s31r13.eq_1 := qa
theorem qwt : RegIs s31r14.eq_1 := qa
attribute [go_sem] q5n q5o q5p q5q q5r q5s q5t q5u q5v q5w qwq qwp qwr qws qwt e31
theorem F31 : FnIs Try.prog 31 Try.f31 [] news s31 [.tmp 2, .tmp 3] 56 := xa follows Try.func31
end
def SrefInt (n : Int) (i : { x : List UInt8 × Nat // x.1 ++ vbytes x.2 = wInt n ∧ x.2 < 18446744073709551616 }) : St :=
 ⟨[(3, true, .d (.int .u64 (i.val.2 : Nat))), (4, true, .own 0 1 (byteRows i.val.1))], [], [0], 1⟩
theorem qg2 (n : Int) (hn : I64 n) : ACall Try.prog 75 [.d (.int .i64 n)] [] (.own 0 1 (byteRows (wInt n))) [] := by
 have hz := qqa hn
 obtain ⟨hn1, hn2⟩ := hn
 have hrest : ∀ Q : SExit → St → Prop, True := fun _ => trivial
 refine F75.go ?_
 try (refine ev ?_; try exact True.intro)
 have b128 : ∀ u : Nat, u < 18446744073709551616 → IntKind.u8.wrap (IntKind.u8.wrap ((u : Int).tmod 128) + 128) = ((UInt8.ofNat (u % 128 + 128)).toNat : Int) := by
  intro u hu
  rw [Int.tmod_eq_emod_of_nonneg (by omega), qbr, qbr, show ((u : Int) % 128 % 256 + 128) % 256 = ((u % 128 + 128 : Nat) : Int) by omega]
  simp [UInt8.toNat_ofNat]; omega
 have q128 : ∀ u : Nat, u < 18446744073709551616 → IntKind.u64.wrap ((u : Int).tdiv 128) = ((u / 128 : Nat) : Int) := by
  intro u hu
  rw [Int.tdiv_eq_ediv_of_nonneg (by omega), show ((u : Int) / 128) = ((u / 128 : Nat) : Int) by omega, f2 _ (by omega)]
 refine zb _ (fun h => ?_) (fun h => ?_)
 ·have e : IntKind.u64.wrap (IntKind.u64.wrap (IntKind.u64.wrap (IntKind.i64.wrap (0 - IntKind.i64.wrap (n + 1))) * 2) + 1) = ((zz n : Nat) : Int) := by
   simp at h
   rw [xd (n := n + 1) (by unfold I64; omega), xd (by unfold I64; omega)]
   simp only [wc]
   unfold zz; rw [if_neg (by omega)]; omega
  try simp only [e, go_sem, Nat.reduceAdd, Nat.reduceMul, Nat.reduceSub, Nat.reduceEqDiff, Nat.reduceLT, Nat.reduceLeDiff, Nat.reduceBEq, reduceIte, reduceCtorEq, Int.reduceAdd, Int.reduceLT, Int.reduceLE, Int.reduceGT, Int.reduceGE, Int.reduceEq, Int.reduceNe, Int.reduceBEq, Int.reduceBNe, Int.reduceToNat, Int.reduceNeg]
  refine qn (SrefInt n) (fun i => i.val.2) ⟨([], zz n), by simp [wInt], hz⟩ ?_ (fun i => ?_)
  ·try simp only [SrefInt, qj, go_sem, Nat.reduceAdd, Nat.reduceMul, Nat.reduceSub, Nat.reduceEqDiff, Nat.reduceLT, Nat.reduceLeDiff, Nat.reduceBEq, reduceIte, reduceCtorEq, Int.reduceAdd, Int.reduceLT, Int.reduceLE, Int.reduceGT, Int.reduceGE, Int.reduceEq, Int.reduceNe, Int.reduceBEq, Int.reduceBNe, Int.reduceToNat, Int.reduceNeg]
  obtain ⟨⟨p, u⟩, hi, hu⟩ := i
  simp only at hi hu
  have hl : p.length ≤ 10 := by
   have h1 := congrArg List.length hi
   have h2 := zh (n := n) ⟨hn1, hn2⟩
   simp at h1; omega
  try simp only [SrefInt, go_sem, Nat.reduceAdd, Nat.reduceMul, Nat.reduceSub, Nat.reduceEqDiff, Nat.reduceLT, Nat.reduceLeDiff, Nat.reduceBEq, reduceIte, reduceCtorEq, Int.reduceAdd, Int.reduceLT, Int.reduceLE, Int.reduceGT, Int.reduceGE, Int.reduceEq, Int.reduceNe, Int.reduceBEq, Int.reduceBNe, Int.reduceToNat, Int.reduceNeg]
  refine zb _ (fun hc => ?_) (fun hc => ?_)
  ·have hc2 : ¬ u < 128 := by simp at hc; omega
   try simp only [b128 u hu, q128 u hu, xu, qm, go_sem, Nat.reduceAdd, Nat.reduceMul, Nat.reduceSub, Nat.reduceEqDiff, Nat.reduceLT, Nat.reduceLeDiff, Nat.reduceBEq, reduceIte, reduceCtorEq, Int.reduceAdd, Int.reduceLT, Int.reduceLE, Int.reduceGT, Int.reduceGE, Int.reduceEq, Int.reduceNe, Int.reduceBEq, Int.reduceBNe, Int.reduceToNat, Int.reduceNeg]
   (repeat (with_reducible refine ob ?_))
   refine ⟨⟨(p ++ [UInt8.ofNat (u % 128 + 128)], u / 128), ?_, by omega⟩, ?_, by simp only; omega⟩
   ·simp only at hi ⊢; rw [zy hc2] at hi; rw [← hi]; simp
   ·try simp only [SrefInt, go_sem, Nat.reduceAdd, Nat.reduceMul, Nat.reduceSub, Nat.reduceEqDiff, Nat.reduceLT, Nat.reduceLeDiff, Nat.reduceBEq, reduceIte, reduceCtorEq, Int.reduceAdd, Int.reduceLT, Int.reduceLE, Int.reduceGT, Int.reduceGE, Int.reduceEq, Int.reduceNe, Int.reduceBEq, Int.reduceBNe, Int.reduceToNat, Int.reduceNeg]
  ·have hc2 : u < 128 := by simp at hc; omega
   try simp only [qeq, xu, qm, go_sem, Nat.reduceAdd, Nat.reduceMul, Nat.reduceSub, Nat.reduceEqDiff, Nat.reduceLT, Nat.reduceLeDiff, Nat.reduceBEq, reduceIte, reduceCtorEq, Int.reduceAdd, Int.reduceLT, Int.reduceLE, Int.reduceGT, Int.reduceGE, Int.reduceEq, Int.reduceNe, Int.reduceBEq, Int.reduceBNe, Int.reduceToNat, Int.reduceNeg]
   (repeat (with_reducible refine ob ?_))
   simp only [z6 hc2] at hi
   try simp only [hi, go_sem, Nat.reduceAdd, Nat.reduceMul, Nat.reduceSub, Nat.reduceEqDiff, Nat.reduceLT, Nat.reduceLeDiff, Nat.reduceBEq, reduceIte, reduceCtorEq, Int.reduceAdd, Int.reduceLT, Int.reduceLE, Int.reduceGT, Int.reduceGE, Int.reduceEq, Int.reduceNe, Int.reduceBEq, Int.reduceBNe, Int.reduceToNat, Int.reduceNeg]
 ·have e : IntKind.u64.wrap (IntKind.u64.wrap n * 2) = ((zz n : Nat) : Int) := by
   simp at h
   simp only [wc]
   unfold zz; rw [if_pos (by omega)]; omega
  try simp only [e, go_sem, Nat.reduceAdd, Nat.reduceMul, Nat.reduceSub, Nat.reduceEqDiff, Nat.reduceLT, Nat.reduceLeDiff, Nat.reduceBEq, reduceIte, reduceCtorEq, Int.reduceAdd, Int.reduceLT, Int.reduceLE, Int.reduceGT, Int.reduceGE, Int.reduceEq, Int.reduceNe, Int.reduceBEq, Int.reduceBNe, Int.reduceToNat, Int.reduceNeg]
  refine qn (SrefInt n) (fun i => i.val.2) ⟨([], zz n), by simp [wInt], hz⟩ ?_ (fun i => ?_)
  ·try simp only [SrefInt, qj, go_sem, Nat.reduceAdd, Nat.reduceMul, Nat.reduceSub, Nat.reduceEqDiff, Nat.reduceLT, Nat.reduceLeDiff, Nat.reduceBEq, reduceIte, reduceCtorEq, Int.reduceAdd, Int.reduceLT, Int.reduceLE, Int.reduceGT, Int.reduceGE, Int.reduceEq, Int.reduceNe, Int.reduceBEq, Int.reduceBNe, Int.reduceToNat, Int.reduceNeg]
  obtain ⟨⟨p, u⟩, hi, hu⟩ := i
  simp only at hi hu
  have hl : p.length ≤ 10 := by
   have h1 := congrArg List.length hi
   have h2 := zh (n := n) ⟨hn1, hn2⟩
   simp at h1; omega
  try simp only [SrefInt, go_sem, Nat.reduceAdd, Nat.reduceMul, Nat.reduceSub, Nat.reduceEqDiff, Nat.reduceLT, Nat.reduceLeDiff, Nat.reduceBEq, reduceIte, reduceCtorEq, Int.reduceAdd, Int.reduceLT, Int.reduceLE, Int.reduceGT, Int.reduceGE, Int.reduceEq, Int.reduceNe, Int.reduceBEq, Int.reduceBNe, Int.reduceToNat, Int.reduceNeg]
  refine zb _ (fun hc => ?_) (fun hc => ?_)
  ·have hc2 : ¬ u < 128 := by simp at hc; omega
   try simp only [b128 u hu, q128 u hu, xu, qm, go_sem, Nat.reduceAdd, Nat.reduceMul, Nat.reduceSub, Nat.reduceEqDiff, Nat.reduceLT, Nat.reduceLeDiff, Nat.reduceBEq, reduceIte, reduceCtorEq, Int.reduceAdd, Int.reduceLT, Int.reduceLE, Int.reduceGT, Int.reduceGE, Int.reduceEq, Int.reduceNe, Int.reduceBEq, Int.reduceBNe, Int.reduceToNat, Int.reduceNeg]
   (repeat (with_reducible refine ob ?_))
   refine ⟨⟨(p ++ [UInt8.ofNat (u % 128 + 128)], u / 128), ?_, by omega⟩, ?_, by simp only; omega⟩
   ·simp only at hi ⊢; rw [zy hc2] at hi; rw [← hi]; simp
   ·try simp only [SrefInt, go_sem, Nat.reduceAdd, Nat.reduceMul, Nat.reduceSub, Nat.reduceEqDiff, Nat.reduceLT, Nat.reduceLeDiff, Nat.reduceBEq, reduceIte, reduceCtorEq, Int.reduceAdd, Int.reduceLT, Int.reduceLE, Int.reduceGT, Int.reduceGE, Int.reduceEq, Int.reduceNe, Int.reduceBEq, Int.reduceBNe, Int.reduceToNat, Int.reduceNeg]
  ·have hc2 : u < 128 := by simp at hc; omega
   try simp only [qeq, xu, qm, go_sem, Nat.reduceAdd, Nat.reduceMul, Nat.reduceSub, Nat.reduceEqDiff, Nat.reduceLT, Nat.reduceLeDiff, Nat.reduceBEq, reduceIte, reduceCtorEq, Int.reduceAdd, Int.reduceLT, Int.reduceLE, Int.reduceGT, Int.reduceGE, Int.reduceEq, Int.reduceNe, Int.reduceBEq, Int.reduceBNe, Int.reduceToNat, Int.reduceNeg]
   (repeat (with_reducible refine ob ?_))
   simp only [z6 hc2] at hi
   try simp only [hi, go_sem, Nat.reduceAdd, Nat.reduceMul, Nat.reduceSub, Nat.reduceEqDiff, Nat.reduceLT, Nat.reduceLeDiff, Nat.reduceBEq, reduceIte, reduceCtorEq, Int.reduceAdd, Int.reduceLT, Int.reduceLE, Int.reduceGT, Int.reduceGE, Int.reduceEq, Int.reduceNe, Int.reduceBEq, Int.reduceBNe, Int.reduceToNat, Int.reduceNeg]
theorem qb0 (s : List UInt8) (hs : s.length ≤ 100000000) : ACall Try.prog 79 [.d (.sl 1 (byteRows s))] [] (.own 0 1 (byteRows (wText s))) [] := by
 have hw := zh (qz (n := s.length) (by omega))
 refine F79.go ?_
 try (refine ev ?_; try exact True.intro)
 refine clA F75 (qg2 s.length (qz (by omega))) ?_
 try simp only [qm, wText, go_sem, Nat.reduceAdd, Nat.reduceMul, Nat.reduceSub, Nat.reduceEqDiff, Nat.reduceLT, Nat.reduceLeDiff, Nat.reduceBEq, reduceIte, reduceCtorEq, Int.reduceAdd, Int.reduceLT, Int.reduceLE, Int.reduceGT, Int.reduceGE, Int.reduceEq, Int.reduceNe, Int.reduceBEq, Int.reduceBNe, Int.reduceToNat, Int.reduceNeg]
 omega
theorem qlb (s : List UInt8) (hs : s.length ≤ 100000000) : ACall Try.prog 77 [.d (.str s)] [] (.own 0 1 (byteRows (wText s))) [] := by
 refine F77.go ?_
 try (refine ev ?_; try exact True.intro)
 refine clA F79 (qb0 s hs) ?_
 try (refine ev ?_; try exact True.intro)
theorem qdo (v : Bool) : ACall Try.prog 78 [.d (.bool v)] [] (.full 1 (byteRows [if v then 1 else 0])) [] := by
 refine F78.go ?_
 try (refine ev ?_; try exact True.intro)
 have e1 : [[D.int .u8 1]] = byteRows [1] := rfl
 have e0 : [[D.int .u8 0]] = byteRows [0] := rfl
 cases v with
 | true =>
  (repeat (with_reducible refine ob ?_)); refine yv ?_
  try simp only [e1, go_sem, Nat.reduceAdd, Nat.reduceMul, Nat.reduceSub, Nat.reduceEqDiff, Nat.reduceLT, Nat.reduceLeDiff, Nat.reduceBEq, reduceIte, reduceCtorEq, Int.reduceAdd, Int.reduceLT, Int.reduceLE, Int.reduceGT, Int.reduceGE, Int.reduceEq, Int.reduceNe, Int.reduceBEq, Int.reduceBNe, Int.reduceToNat, Int.reduceNeg]
 | false =>
  (repeat (with_reducible refine ob ?_)); refine no_ ?_
  try simp only [e0, go_sem, Nat.reduceAdd, Nat.reduceMul, Nat.reduceSub, Nat.reduceEqDiff, Nat.reduceLT, Nat.reduceLeDiff, Nat.reduceBEq, reduceIte, reduceCtorEq, Int.reduceAdd, Int.reduceLT, Int.reduceLE, Int.reduceGT, Int.reduceGE, Int.reduceEq, Int.reduceNe, Int.reduceBEq, Int.reduceBNe, Int.reduceToNat, Int.reduceNeg]
def rProper (o : OpS) : Bool := decide ((o.key.length : Int) ≥ 1) && decide ((o.key.length : Int) ≤ 40) && decide ((o.val.length : Int) ≤ 900) && (!o.del || (o.val.length : Int) == 0)
theorem qlc (o : OpS) : rProper o = sProper o := by
 unfold rProper sProper
 congr 1
 cases o.del
 ·rfl
 ·rw [Bool.eq_iff_iff]; simp
theorem qld (o : OpS) : ACall Try.prog 76 [.d (.agg (encOp o))] [] (.d (.bool (sProper o))) [] := by
 rw [← qlc]
 refine F76.go ?_
 try simp only [encOp, rProper, go_sem, Nat.reduceAdd, Nat.reduceMul, Nat.reduceSub, Nat.reduceEqDiff, Nat.reduceLT, Nat.reduceLeDiff, Nat.reduceBEq, reduceIte, reduceCtorEq, Int.reduceAdd, Int.reduceLT, Int.reduceLE, Int.reduceGT, Int.reduceGE, Int.reduceEq, Int.reduceNe, Int.reduceBEq, Int.reduceBNe, Int.reduceToNat, Int.reduceNeg]
 intro h
 exact ⟨h, fun h2 => by rw [h]; simpa using h2⟩
def SrEnc (l : List OpS) (i : { i : Nat // i ≤ l.length ∧ ∀ o ∈ l.take i, sProper o = true }) : St :=
 ⟨[(0, true, .d (.sl 3 (l.map encOp))), (4, true, .own 0 1 (byteRows (wInt l.length ++ (l.take i.val).flatMap wOp))), (5, true, .d (.int .i64 (i.val : Nat)))], [], [0], 1⟩
set_option maxRecDepth 10000 in
theorem ji (l : List OpS) (hl : l.length ≤ 100000) : ACall Try.prog 31 [.d (.sl 3 (l.map encOp))] [] (.tup [.d (.sl 1 (byteRows (sEncode l).1)), .d (.int .i64 (sEncode l).2)]) [] := by
 refine F31.goT ?_
 try (refine ev ?_; try exact True.intro)
 (repeat (with_reducible refine ob ?_)); refine zb _ (fun h => ?_) (fun h => ?_)
 ·have hb : sEncode l = ([], 1) := by
   unfold sEncode
   rw [if_pos]
   simp at h ⊢
   exact .inl h
  try simp only [hb, qj, go_sem, Nat.reduceAdd, Nat.reduceMul, Nat.reduceSub, Nat.reduceEqDiff, Nat.reduceLT, Nat.reduceLeDiff, Nat.reduceBEq, reduceIte, reduceCtorEq, Int.reduceAdd, Int.reduceLT, Int.reduceLE, Int.reduceGT, Int.reduceGE, Int.reduceEq, Int.reduceNe, Int.reduceBEq, Int.reduceBNe, Int.reduceToNat, Int.reduceNeg]
 have hw := zh (qz (n := l.length) (by omega))
 try (refine ev ?_; try exact True.intro)
 refine clA F75 (qg2 l.length (qz (by omega))) ?_
 try (refine ev ?_; try exact True.intro)
 refine qn (SrEnc l) (fun i => l.length - i.val) ⟨0, Nat.zero_le _, by simp⟩ ?_ (fun i => ?_)
 ·try simp only [SrEnc, List.take_zero, List.flatMap_nil, List.append_nil, go_sem, Nat.reduceAdd, Nat.reduceMul, Nat.reduceSub, Nat.reduceEqDiff, Nat.reduceLT, Nat.reduceLeDiff, Nat.reduceBEq, reduceIte, reduceCtorEq, Int.reduceAdd, Int.reduceLT, Int.reduceLE, Int.reduceGT, Int.reduceGE, Int.reduceEq, Int.reduceNe, Int.reduceBEq, Int.reduceBNe, Int.reduceToNat, Int.reduceNeg]
 obtain ⟨i, hi, hp⟩ := i
 try simp only [SrEnc, go_sem, Nat.reduceAdd, Nat.reduceMul, Nat.reduceSub, Nat.reduceEqDiff, Nat.reduceLT, Nat.reduceLeDiff, Nat.reduceBEq, reduceIte, reduceCtorEq, Int.reduceAdd, Int.reduceLT, Int.reduceLE, Int.reduceGT, Int.reduceGE, Int.reduceEq, Int.reduceNe, Int.reduceBEq, Int.reduceBNe, Int.reduceToNat, Int.reduceNeg]
 refine zb _ (fun hc => ?_) (fun hc => ?_)
 ·have hil : i < l.length := by simpa using hc
  have hwl := qas hp
  have hwt : (l.take i).length ≤ i := by rw [List.length_take]; omega
  try simp only [qw encOp l hil, encOp, go_sem, Nat.reduceAdd, Nat.reduceMul, Nat.reduceSub, Nat.reduceEqDiff, Nat.reduceLT, Nat.reduceLeDiff, Nat.reduceBEq, reduceIte, reduceCtorEq, Int.reduceAdd, Int.reduceLT, Int.reduceLE, Int.reduceGT, Int.reduceGE, Int.reduceEq, Int.reduceNe, Int.reduceBEq, Int.reduceBNe, Int.reduceToNat, Int.reduceNeg]
  (repeat (with_reducible refine ob ?_))
  have hpo := qld l[i]
  simp only [encOp] at hpo
  (repeat (with_reducible refine ob ?_)); first | refine cl F76 (hpo) ?_ | refine clF F76 (hpo) (fun _ => by simp only [encOp, encEn, encStep, go_sem, Nat.reduceAdd, Nat.reduceMul, Nat.reduceSub, Nat.reduceEqDiff, Nat.reduceLT, Nat.reduceLeDiff, Nat.reduceBEq, reduceIte, reduceCtorEq, Int.reduceAdd, Int.reduceLT, Int.reduceLE, Int.reduceGT, Int.reduceGE, Int.reduceEq, Int.reduceNe, Int.reduceBEq, Int.reduceBNe, Int.reduceToNat, Int.reduceNeg]) ?_
  try (refine ev ?_; try exact True.intro)
  refine zb _ (fun hc => ?_) (fun hc => ?_)
  ·have hb : sEncode l = ([], 1) := by
    unfold sEncode
    rw [if_pos]
    simp only [Bool.or_eq_true, List.any_eq_true]
    exact .inr ⟨l[i], List.getElem_mem hil, hc⟩
   try simp only [hb, qj, go_sem, Nat.reduceAdd, Nat.reduceMul, Nat.reduceSub, Nat.reduceEqDiff, Nat.reduceLT, Nat.reduceLeDiff, Nat.reduceBEq, reduceIte, reduceCtorEq, Int.reduceAdd, Int.reduceLT, Int.reduceLE, Int.reduceGT, Int.reduceGE, Int.reduceEq, Int.reduceNe, Int.reduceBEq, Int.reduceBNe, Int.reduceToNat, Int.reduceNeg]
  have hpi : sProper l[i] = true := by simpa using hc
  obtain ⟨q1, q2, q3, _⟩ := x8.1 hpi
  try simp only [qw encOp l hil, encOp, go_sem, Nat.reduceAdd, Nat.reduceMul, Nat.reduceSub, Nat.reduceEqDiff, Nat.reduceLT, Nat.reduceLeDiff, Nat.reduceBEq, reduceIte, reduceCtorEq, Int.reduceAdd, Int.reduceLT, Int.reduceLE, Int.reduceGT, Int.reduceGE, Int.reduceEq, Int.reduceNe, Int.reduceBEq, Int.reduceBNe, Int.reduceToNat, Int.reduceNeg]
  (repeat (with_reducible refine ob ?_))
  have hw2 := qm9 hpi
  have hk := kz l[i].key (by omega)
  have hv := kz l[i].val (by omega)
  refine clA F77 (qlb l[i].key (by omega)) ?_
  try simp only [qm, go_sem, Nat.reduceAdd, Nat.reduceMul, Nat.reduceSub, Nat.reduceEqDiff, Nat.reduceLT, Nat.reduceLeDiff, Nat.reduceBEq, reduceIte, reduceCtorEq, Int.reduceAdd, Int.reduceLT, Int.reduceLE, Int.reduceGT, Int.reduceGE, Int.reduceEq, Int.reduceNe, Int.reduceBEq, Int.reduceBNe, Int.reduceToNat, Int.reduceNeg]
  (repeat (with_reducible refine ob ?_))
  try simp only [qw encOp l hil, encOp, go_sem, Nat.reduceAdd, Nat.reduceMul, Nat.reduceSub, Nat.reduceEqDiff, Nat.reduceLT, Nat.reduceLeDiff, Nat.reduceBEq, reduceIte, reduceCtorEq, Int.reduceAdd, Int.reduceLT, Int.reduceLE, Int.reduceGT, Int.reduceGE, Int.reduceEq, Int.reduceNe, Int.reduceBEq, Int.reduceBNe, Int.reduceToNat, Int.reduceNeg]
  (repeat (with_reducible refine ob ?_))
  (repeat (with_reducible refine ob ?_)); first | refine cl F78 (qdo l[i].del) ?_ | refine clF F78 (qdo l[i].del) (fun _ => by simp only [encOp, encEn, encStep, go_sem, Nat.reduceAdd, Nat.reduceMul, Nat.reduceSub, Nat.reduceEqDiff, Nat.reduceLT, Nat.reduceLeDiff, Nat.reduceBEq, reduceIte, reduceCtorEq, Int.reduceAdd, Int.reduceLT, Int.reduceLE, Int.reduceGT, Int.reduceGE, Int.reduceEq, Int.reduceNe, Int.reduceBEq, Int.reduceBNe, Int.reduceToNat, Int.reduceNeg]) ?_
  try simp only [qm, go_sem, Nat.reduceAdd, Nat.reduceMul, Nat.reduceSub, Nat.reduceEqDiff, Nat.reduceLT, Nat.reduceLeDiff, Nat.reduceBEq, reduceIte, reduceCtorEq, Int.reduceAdd, Int.reduceLT, Int.reduceLE, Int.reduceGT, Int.reduceGE, Int.reduceEq, Int.reduceNe, Int.reduceBEq, Int.reduceBNe, Int.reduceToNat, Int.reduceNeg]
  (repeat (with_reducible refine ob ?_))
  try simp only [qw encOp l hil, encOp, go_sem, Nat.reduceAdd, Nat.reduceMul, Nat.reduceSub, Nat.reduceEqDiff, Nat.reduceLT, Nat.reduceLeDiff, Nat.reduceBEq, reduceIte, reduceCtorEq, Int.reduceAdd, Int.reduceLT, Int.reduceLE, Int.reduceGT, Int.reduceGE, Int.reduceEq, Int.reduceNe, Int.reduceBEq, Int.reduceBNe, Int.reduceToNat, Int.reduceNeg]
  (repeat (with_reducible refine ob ?_))
  refine clA F79 (qb0 l[i].val (by omega)) ?_
  try simp only [qm, go_sem, Nat.reduceAdd, Nat.reduceMul, Nat.reduceSub, Nat.reduceEqDiff, Nat.reduceLT, Nat.reduceLeDiff, Nat.reduceBEq, reduceIte, reduceCtorEq, Int.reduceAdd, Int.reduceLT, Int.reduceLE, Int.reduceGT, Int.reduceGE, Int.reduceEq, Int.reduceNe, Int.reduceBEq, Int.reduceBNe, Int.reduceToNat, Int.reduceNeg]
  (repeat (with_reducible refine ob ?_))
  have h1 : wInt l.length ++ (l.take (i + 1)).flatMap wOp = wInt l.length ++ List.flatMap wOp (List.take i l) ++ wText l[i].key ++ [if l[i].del = true then 1 else 0] ++ wText l[i].val := by
   rw [qgq wOp l hil]; simp [wOp]
  refine ⟨⟨i + 1, hil, fun o ho => ?_⟩, ?_, by dsimp only; omega⟩
  ·rw [List.take_succ_eq_append_getElem hil] at ho
   rcases List.mem_append.1 ho with ho | ho
   ·exact hp o ho
   ·simp at ho; subst ho; exact hpi
  try simp only [SrEnc, h1, ql (show i < 9223372036854775807 by omega), go_sem, Nat.reduceAdd, Nat.reduceMul, Nat.reduceSub, Nat.reduceEqDiff, Nat.reduceLT, Nat.reduceLeDiff, Nat.reduceBEq, reduceIte, reduceCtorEq, Int.reduceAdd, Int.reduceLT, Int.reduceLE, Int.reduceGT, Int.reduceGE, Int.reduceEq, Int.reduceNe, Int.reduceBEq, Int.reduceBNe, Int.reduceToNat, Int.reduceNeg]
 ·have hil : i = l.length := by simp at hc; omega
  subst hil
  rw [List.take_length] at hp
  have hwl := qas hp
  have hne : ¬ (decide (l.length = 0) || l.any (fun o => !sProper o)) = true := by
   simp only [Bool.or_eq_true, decide_eq_true_eq, not_or, List.any_eq_true, not_exists, not_and]
   exact ⟨by simp at h; simpa using h, fun o ho => by simp [hp o ho]⟩
  have hx : wInt l.length ++ l.flatMap wOp = wOps l := rfl
  try simp only [List.take_length, hx, go_sem, Nat.reduceAdd, Nat.reduceMul, Nat.reduceSub, Nat.reduceEqDiff, Nat.reduceLT, Nat.reduceLeDiff, Nat.reduceBEq, reduceIte, reduceCtorEq, Int.reduceAdd, Int.reduceLT, Int.reduceLE, Int.reduceGT, Int.reduceGE, Int.reduceEq, Int.reduceNe, Int.reduceBEq, Int.reduceBNe, Int.reduceToNat, Int.reduceNeg]
  refine ⟨fun h => by rw [h]; rfl, ?_⟩
  refine zb _ (fun hc => ?_) (fun hc => ?_)
  ·have hb : sEncode l = ([], 6) := by
    unfold sEncode
    rw [if_neg hne, if_pos]
    simp only [Bool.or_eq_true, decide_eq_true_eq] at hc ⊢
    omega
   try simp only [hb, qj, go_sem, Nat.reduceAdd, Nat.reduceMul, Nat.reduceSub, Nat.reduceEqDiff, Nat.reduceLT, Nat.reduceLeDiff, Nat.reduceBEq, reduceIte, reduceCtorEq, Int.reduceAdd, Int.reduceLT, Int.reduceLE, Int.reduceGT, Int.reduceGE, Int.reduceEq, Int.reduceNe, Int.reduceBEq, Int.reduceBNe, Int.reduceToNat, Int.reduceNeg]
  ·have hb : sEncode l = (wOps l, 0) := by
    unfold sEncode
    rw [if_neg hne, if_neg]
    simp only [Bool.or_eq_true, Bool.or_eq_false_iff, decide_eq_true_eq, decide_eq_false_iff_not] at hc ⊢
    omega
   try simp only [hb, go_sem, Nat.reduceAdd, Nat.reduceMul, Nat.reduceSub, Nat.reduceEqDiff, Nat.reduceLT, Nat.reduceLeDiff, Nat.reduceBEq, reduceIte, reduceCtorEq, Int.reduceAdd, Int.reduceLT, Int.reduceLE, Int.reduceGT, Int.reduceGE, Int.reduceEq, Int.reduceNe, Int.reduceBEq, Int.reduceBNe, Int.reduceToNat, Int.reduceNeg]
end Go.Proofs.Ytinnaedmdoengaa
namespace Go.Proofs.Ytinnaedmdoengaa
open Go.Abs
set_option linter.unusedSimpArgs false
set_option linter.unusedVariables false
structure Rd where
 b : List UInt8
 pos : Nat
 failed : Bool
 deriving DecidableEq, Inhabited
def rdO (r : Rd) : AObj := .row [.d (.sl 1 (byteRows r.b)), .d (.int .i64 (r.pos : Nat)), .d (.bool r.failed)]
structure Rd.Ok (r : Rd) : Prop where
 len : r.b.length ≤ 1000000000
 pos : r.pos ≤ r.b.length
def rNext (n : Nat) (r : Rd) : List UInt8 × Rd := if r.failed || decide (r.b.length - r.pos < n) then ([], { r with failed := true }) else ((r.b.drop r.pos).take n, { r with pos := r.pos + n })
noncomputable section
set_option maxRecDepth 100000
def s61r0 : List SOper := [
 ⟨some 2, .mov (.k (.d .nilptr)), none⟩]
def s61r1 : List SOper := [
 ⟨some 3, .mov (.t 0), none⟩,
 ⟨some 4, .append false 1 1 (.k (.d .nilsl)) (.t 3), none⟩,
 ⟨some 5, .build [.nilsl, (.int .i64 0), (.bool false)] [(0, 1, (.t 4))], none⟩,
 ⟨some 6, .box 1 (.t 5), none⟩,
 ⟨some 2, .mov (.t 6), none⟩]
def s61 : SCode := (.seq (.region s61r0 0 []) (.seq (.region s61r1 1 []) .ret))
theorem e61 : CodeIs s61.eq_1 := qc s61.eq_1
theorem q5x : RegIs s61r0.eq_1 := qa
theorem q5y : RegIs s61r1.eq_1 := qa
attribute [go_sem] q5x q5y e61
theorem F61 : FnIs Try.prog 61 Try.f61 [] news s61 [.tmp 2] 7 := xa follows Try.func61
def s141r0 : List SOper := [
 ⟨some 4, .mov (.k (.d .nilsl)), none⟩]
def s141r1 : List SOper := [
 ⟨some 5, .mov (.t 0), none⟩,
 ⟨some 6, .nilCheck (.t 5), none⟩,
 ⟨some 7, .faddr 2 (.t 6), none⟩,
 ⟨some 8, .load none (.t 7), none⟩,
 ⟨some 9, .mov (.t 8), none⟩,
 ⟨some 10, .mov (.t 1), some (9, false)⟩,
 ⟨some 11, .mov (.t 0), some (9, false)⟩,
 ⟨some 12, .nilCheck (.t 11), some (9, false)⟩,
 ⟨some 13, .faddr 0 (.t 12), some (9, false)⟩,
 ⟨some 14, .load none (.t 13), some (9, false)⟩,
 ⟨some 15, .len (.t 14), some (9, false)⟩,
 ⟨some 16, .mov (.t 0), some (9, false)⟩,
 ⟨some 17, .nilCheck (.t 16), some (9, false)⟩,
 ⟨some 18, .faddr 1 (.t 17), some (9, false)⟩,
 ⟨some 19, .load none (.t 18), some (9, false)⟩,
 ⟨some 20, .bin .sub (.t 15) (.t 19), some (9, false)⟩,
 ⟨some 21, .bin .gtr (.t 10) (.t 20), some (9, false)⟩,
 ⟨some 22, .pick (.t 9) (.k (.d (.bool true))) (.t 21), none⟩]
def s141r2 : List SOper := [
 ⟨some 23, .mov (.t 0), none⟩,
 ⟨some 24, .nilCheck (.t 23), none⟩,
 ⟨some 25, .faddr 2 (.t 24), none⟩,
 ⟨none, .store none (.t 25) (.k (.d (.bool true))), none⟩]
def s141r3 : List SOper := [
 ⟨some 4, .mov (.k (.d .nilsl)), none⟩]
def s141r4 : List SOper := [
 ⟨some 26, .mov (.t 0), none⟩,
 ⟨some 27, .nilCheck (.t 26), none⟩,
 ⟨some 28, .faddr 1 (.t 27), none⟩,
 ⟨some 29, .load none (.t 28), none⟩,
 ⟨some 30, .mov (.t 1), none⟩,
 ⟨some 31, .bin .add (.t 29) (.t 30), none⟩,
 ⟨some 32, .nilCheck (.t 26), none⟩,
 ⟨some 33, .faddr 1 (.t 32), none⟩,
 ⟨none, .store none (.t 33) (.t 31), none⟩]
def s141r5 : List SOper := [
 ⟨some 34, .mov (.t 0), none⟩,
 ⟨some 35, .nilCheck (.t 34), none⟩,
 ⟨some 36, .faddr 0 (.t 35), none⟩,
 ⟨some 37, .load none (.t 36), none⟩,
 ⟨some 38, .mov (.t 0), none⟩,
 ⟨some 39, .nilCheck (.t 38), none⟩,
 ⟨some 40, .faddr 1 (.t 39), none⟩,
 ⟨some 41, .load none (.t 40), none⟩,
 ⟨some 42, .mov (.t 1), none⟩,
 ⟨some 43, .bin .sub (.t 41) (.t 42), none⟩,
 ⟨some 44, .mov (.t 0), none⟩,
 ⟨some 45, .nilCheck (.t 44), none⟩,
 ⟨some 46, .faddr 1 (.t 45), none⟩,
 ⟨some 47, .load none (.t 46), none⟩,
 ⟨some 48, .slice 1 (.t 37) (some (.t 43)) (some (.t 47)) none, none⟩,
 ⟨some 4, .mov (.t 48), none⟩]
def s141 : SCode := (.seq (.region s141r0 0 []) (.seq (.seq (.region s141r1 0 []) (.cond (.t 22) (.seq (.region s141r2 0 []) (.seq (.region s141r3 0 []) .ret)) .skip)) (.seq (.region s141r4 0 []) (.seq (.region s141r5 0 []) .ret))))
theorem q9k : CodeIs s141.eq_1 := qc s141.eq_1
theorem qwu : RegIs s141r0.eq_1 := qa
theorem qwv : RegIs s141r1.eq_1 := qa
theorem qww : RegIs s141r2.eq_1 := qa
theorem qwx : RegIs s141r3.eq_1 := qa
theorem qwy : RegIs s141r4.eq_1 := qa
theorem qwz : RegIs s141r5.eq_1 := qa
attribute [go_sem] qwu qwv qww qwx qwy qwz q9k
theorem qz0 : FnIs Try.prog 141 Try.f141 [] news s141 [.tmp 4] 49 := xa follows Try.func141
def s118r0 : List SOper := [
 ⟨some 2, .mov (.k (.d (.int .i64 0))), none⟩]
def s118r1 : List SOper := [
 ⟨some 3, .mov (.t 0), none⟩,
 ⟨some 4, .eqnil false .ptr (.t 3), none⟩]
def s118r2 : List SOper := [
 ⟨some 2, .mov (.k (.d (.int .i64 0))), none⟩]
def s118r3 : List SOper := [
 ⟨some 5, .mov (.t 0), none⟩,
 ⟨some 6, .nilCheck (.t 5), none⟩,
 ⟨some 7, .faddr 0 (.t 6), none⟩,
 ⟨some 8, .load none (.t 7), none⟩,
 ⟨some 9, .len (.t 8), none⟩,
 ⟨some 10, .mov (.t 0), none⟩,
 ⟨some 11, .nilCheck (.t 10), none⟩,
 ⟨some 12, .faddr 1 (.t 11), none⟩,
 ⟨some 13, .load none (.t 12), none⟩,
 ⟨some 14, .bin .sub (.t 9) (.t 13), none⟩,
 ⟨some 2, .mov (.t 14), none⟩]
def s118 : SCode := (.seq (.region s118r0 0 []) (.seq (.seq (.region s118r1 0 []) (.cond (.t 4) (.seq (.region s118r2 0 []) .ret) .skip)) (.seq (.region s118r3 0 []) .ret)))
theorem q9l : CodeIs s118.eq_1 := qc s118.eq_1
theorem qw0 : RegIs s118r0.eq_1 := qa
theorem qw1 : RegIs s118r1.eq_1 := qa
theorem qw2 : RegIs s118r2.eq_1 := qa
theorem qw3 : RegIs s118r3.eq_1 := qa
attribute [go_sem] qw0 qw1 qw2 qw3 q9l
theorem q8q : FnIs Try.prog 118 Try.f118 [] news s118 [.tmp 2] 15 := xa follows Try.func118
def s84r0 : List SOper := [
 ⟨some 2, .mov (.k (.d (.int .i64 0))), none⟩]
def s84r1 : List SOper := [
 ⟨some 4, .mov (.t 0), none⟩,
 ⟨some 5, .eqnil false .ptr (.t 4), none⟩,
 ⟨some 3, .mov (.t 5), none⟩]
def s84r2 : List SOper := [
 ⟨some 2, .mov (.k (.d (.int .i64 7))), none⟩]
def s84r3 : List SOper := [
 ⟨some 7, .mov (.t 0), none⟩,
 ⟨some 8, .nilCheck (.t 7), none⟩,
 ⟨some 9, .faddr 2 (.t 8), none⟩,
 ⟨some 10, .load none (.t 9), none⟩,
 ⟨some 11, .mov (.t 10), none⟩,
 ⟨some 12, .mov (.t 0), some (11, false)⟩,
 ⟨some 13, .call (.k (.d (.func (.func 118) [] []))) [(.t 12)], some (11, false)⟩,
 ⟨some 14, .bin .gtr (.t 13) (.k (.d (.int .i64 0))), some (11, false)⟩,
 ⟨some 15, .pick (.t 11) (.k (.d (.bool true))) (.t 14), none⟩,
 ⟨some 6, .mov (.t 15), none⟩]
def s84r4 : List SOper := [
 ⟨some 2, .mov (.k (.d (.int .i64 4))), none⟩]
def s84r5 : List SOper := [
 ⟨some 2, .mov (.k (.d (.int .i64 0))), none⟩]
def s84 : SCode := (.seq (.region s84r0 0 []) (.seq (.block 0 (.seq (.region s84r1 0 []) (.cond (.t 3) (.seq (.region s84r2 0 []) .ret) (.seq (.region s84r3 0 []) (.cond (.t 6) (.seq (.region s84r4 0 []) .ret) .skip))))) (.seq (.region s84r5 0 []) .ret)))
theorem e84 : CodeIs s84.eq_1 := qc s84.eq_1
theorem q5z : RegIs s84r0.eq_1 := qa
theorem q50 : RegIs s84r1.eq_1 := qa
theorem q51 : RegIs s84r2.eq_1 := qa
theorem q52 : RegIs s84r3.eq_1 := qa
theorem q53 : RegIs s84r4.eq_1 := qa
theorem q54 : RegIs s84r5.eq_1 := qa
attribute [go_sem] q5z q50 q51 q52 q53 q54 e84
theorem F84 : FnIs Try.prog 84 Try.f84 [] news s84 [.tmp 2] 16 := xa follows Try.func84
end
theorem qqr (b : List UInt8) (hb : b.length ≤ 1000000000) : ACall Try.prog 61 [.d (.sl 1 (byteRows b))] [] (.d (.ptr 0 0)) [rdO ⟨b, 0, false⟩] := by
 refine F61.go ?_
 try (refine ev ?_; try exact True.intro)
 (repeat (with_reducible refine ob ?_))
 try simp only [rdO, Int.ofNat_zero, go_sem, Nat.reduceAdd, Nat.reduceMul, Nat.reduceSub, Nat.reduceEqDiff, Nat.reduceLT, Nat.reduceLeDiff, Nat.reduceBEq, reduceIte, reduceCtorEq, Int.reduceAdd, Int.reduceLT, Int.reduceLE, Int.reduceGT, Int.reduceGE, Int.reduceEq, Int.reduceNe, Int.reduceBEq, Int.reduceBNe, Int.reduceToNat, Int.reduceNeg]
theorem qez (r : Rd) (n : Nat) (hr : r.Ok) (hn : n ≤ 1000000000) : ACall Try.prog 141 [.d (.ptr 0 0), .d (.int .i64 n)] [rdO r] (.d (.sl 1 (byteRows (rNext n r).1))) [rdO (rNext n r).2] := by
 have h1 := hr.len
 have h2 := hr.pos
 have e1 : IntKind.i64.wrap ((r.b.length : Int) - (r.pos : Int)) = ((r.b.length - r.pos : Nat) : Int) := by rw [xd (by unfold I64; omega)]; omega
 have e2 : IntKind.i64.wrap ((r.pos : Int) + (n : Int)) = ((r.pos + n : Nat) : Int) := by rw [xd (by unfold I64; omega)]; omega
 have e3 : IntKind.i64.wrap ((r.pos : Int) + (n : Int) - (n : Int)) = ((r.pos : Nat) : Int) := by rw [xd (by unfold I64; omega)]; omega
 have e5 : ((r.pos : Int) + (n : Int)).toNat = r.pos + n := by omega
 refine qz0.go ?_
 try simp only [rdO, e1, go_sem, Nat.reduceAdd, Nat.reduceMul, Nat.reduceSub, Nat.reduceEqDiff, Nat.reduceLT, Nat.reduceLeDiff, Nat.reduceBEq, reduceIte, reduceCtorEq, Int.reduceAdd, Int.reduceLT, Int.reduceLE, Int.reduceGT, Int.reduceGE, Int.reduceEq, Int.reduceNe, Int.reduceBEq, Int.reduceBNe, Int.reduceToNat, Int.reduceNeg]
 refine ⟨fun h => by rw [h]; rfl, ?_⟩
 have hd : (r.failed || decide ((n : Int) > ((r.b.length - r.pos : Nat) : Int))) = (r.failed || decide (r.b.length - r.pos < n)) := by
  congr 1; exact decide_eq_decide.2 (by omega)
 refine zb _ (fun h => ?_) (fun h => ?_)
 ·rw [hd] at h
  have hx : rNext n r = ([], { r with failed := true }) := by unfold rNext; rw [if_pos h]
  try simp only [hx, qj, go_sem, Nat.reduceAdd, Nat.reduceMul, Nat.reduceSub, Nat.reduceEqDiff, Nat.reduceLT, Nat.reduceLeDiff, Nat.reduceBEq, reduceIte, reduceCtorEq, Int.reduceAdd, Int.reduceLT, Int.reduceLE, Int.reduceGT, Int.reduceGE, Int.reduceEq, Int.reduceNe, Int.reduceBEq, Int.reduceBNe, Int.reduceToNat, Int.reduceNeg]
 ·rw [hd] at h
  have hx : rNext n r = ((r.b.drop r.pos).take n, { r with pos := r.pos + n }) := by unfold rNext; rw [if_neg (by rw [h]; simp)]
  simp only [Bool.or_eq_false_iff, decide_eq_false_iff_not] at h
  have e4 : r.pos + n - r.pos = n := by omega
  try simp only [hx, e2, go_sem, Nat.reduceAdd, Nat.reduceMul, Nat.reduceSub, Nat.reduceEqDiff, Nat.reduceLT, Nat.reduceLeDiff, Nat.reduceBEq, reduceIte, reduceCtorEq, Int.reduceAdd, Int.reduceLT, Int.reduceLE, Int.reduceGT, Int.reduceGE, Int.reduceEq, Int.reduceNe, Int.reduceBEq, Int.reduceBNe, Int.reduceToNat, Int.reduceNeg]
  try simp only [e3, go_sem, Nat.reduceAdd, Nat.reduceMul, Nat.reduceSub, Nat.reduceEqDiff, Nat.reduceLT, Nat.reduceLeDiff, Nat.reduceBEq, reduceIte, reduceCtorEq, Int.reduceAdd, Int.reduceLT, Int.reduceLE, Int.reduceGT, Int.reduceGE, Int.reduceEq, Int.reduceNe, Int.reduceBEq, Int.reduceBNe, Int.reduceToNat, Int.reduceNeg]
  (repeat (with_reducible refine ob ?_))
  try simp only [jx, jy, e4, e3, e5, Int.toNat_natCast, go_sem, Nat.reduceAdd, Nat.reduceMul, Nat.reduceSub, Nat.reduceEqDiff, Nat.reduceLT, Nat.reduceLeDiff, Nat.reduceBEq, reduceIte, reduceCtorEq, Int.reduceAdd, Int.reduceLT, Int.reduceLE, Int.reduceGT, Int.reduceGE, Int.reduceEq, Int.reduceNe, Int.reduceBEq, Int.reduceBNe, Int.reduceToNat, Int.reduceNeg]
theorem k8 {r : Rd} (hr : r.Ok) (n : Nat) : (rNext n r).2.Ok ∧ (rNext n r).2.b = r.b := by
 unfold rNext
 split
 ·exact ⟨⟨hr.len, hr.pos⟩, rfl⟩
 ·rename_i h
  simp only [Bool.or_eq_true, decide_eq_true_eq, not_or] at h
  have := hr.pos
  exact ⟨⟨hr.len, by simp only; omega⟩, rfl⟩
theorem qqs (r : Rd) (hr : r.Ok) : ACall Try.prog 118 [.d (.ptr 0 0)] [rdO r] (.d (.int .i64 (r.b.length - r.pos : Nat))) [rdO r] := by
 have h1 := hr.len
 have h2 := hr.pos
 have e1 : IntKind.i64.wrap ((r.b.length : Int) - (r.pos : Int)) = ((r.b.length - r.pos : Nat) : Int) := by rw [xd (by unfold I64; omega)]; omega
 refine q8q.go ?_
 try simp only [rdO, go_sem, Nat.reduceAdd, Nat.reduceMul, Nat.reduceSub, Nat.reduceEqDiff, Nat.reduceLT, Nat.reduceLeDiff, Nat.reduceBEq, reduceIte, reduceCtorEq, Int.reduceAdd, Int.reduceLT, Int.reduceLE, Int.reduceGT, Int.reduceGE, Int.reduceEq, Int.reduceNe, Int.reduceBEq, Int.reduceBNe, Int.reduceToNat, Int.reduceNeg]
 (repeat (with_reducible refine ob ?_)); refine no_ ?_
 try simp only [e1, go_sem, Nat.reduceAdd, Nat.reduceMul, Nat.reduceSub, Nat.reduceEqDiff, Nat.reduceLT, Nat.reduceLeDiff, Nat.reduceBEq, reduceIte, reduceCtorEq, Int.reduceAdd, Int.reduceLT, Int.reduceLE, Int.reduceGT, Int.reduceGE, Int.reduceEq, Int.reduceNe, Int.reduceBEq, Int.reduceBNe, Int.reduceToNat, Int.reduceNeg]
def rEnd (r : Rd) : Int := if r.failed || decide (r.pos < r.b.length) then 4 else 0
theorem qsm (r : Rd) (hr : r.Ok) : ACall Try.prog 84 [.d (.ptr 0 0)] [rdO r] (.d (.int .i64 (rEnd r))) [rdO r] := by
 have h2 := hr.pos
 have hl := qqs r hr
 simp only [rdO] at hl
 obtain ⟨b, p, f⟩ := r
 refine F84.go ?_
 try simp only [rdO, go_sem, Nat.reduceAdd, Nat.reduceMul, Nat.reduceSub, Nat.reduceEqDiff, Nat.reduceLT, Nat.reduceLeDiff, Nat.reduceBEq, reduceIte, reduceCtorEq, Int.reduceAdd, Int.reduceLT, Int.reduceLE, Int.reduceGT, Int.reduceGE, Int.reduceEq, Int.reduceNe, Int.reduceBEq, Int.reduceBNe, Int.reduceToNat, Int.reduceNeg]
 (repeat (with_reducible refine ob ?_)); refine no_ ?_
 cases f
 ·try (refine ev ?_; try exact True.intro)
  (repeat (with_reducible refine ob ?_)); refine clO [0] q8q (hl) ?_
  try (refine ev ?_; try exact True.intro)
  refine zb _ (fun h => ?_) (fun h => ?_)
  ·have hx : rEnd ⟨b, p, false⟩ = 4 := by unfold rEnd; rw [if_pos]; simp at h ⊢; omega
   try simp only [hx, go_sem, Nat.reduceAdd, Nat.reduceMul, Nat.reduceSub, Nat.reduceEqDiff, Nat.reduceLT, Nat.reduceLeDiff, Nat.reduceBEq, reduceIte, reduceCtorEq, Int.reduceAdd, Int.reduceLT, Int.reduceLE, Int.reduceGT, Int.reduceGE, Int.reduceEq, Int.reduceNe, Int.reduceBEq, Int.reduceBNe, Int.reduceToNat, Int.reduceNeg]
  ·have hx : rEnd ⟨b, p, false⟩ = 0 := by unfold rEnd; rw [if_neg]; simp at h ⊢; omega
   try simp only [hx, go_sem, Nat.reduceAdd, Nat.reduceMul, Nat.reduceSub, Nat.reduceEqDiff, Nat.reduceLT, Nat.reduceLeDiff, Nat.reduceBEq, reduceIte, reduceCtorEq, Int.reduceAdd, Int.reduceLT, Int.reduceLE, Int.reduceGT, Int.reduceGE, Int.reduceEq, Int.reduceNe, Int.reduceBEq, Int.reduceBNe, Int.reduceToNat, Int.reduceNeg]
 ·try (refine ev ?_; try exact True.intro)
  refine ky (.int .i64 0) rfl ?_
  try simp only [rEnd, go_sem, Nat.reduceAdd, Nat.reduceMul, Nat.reduceSub, Nat.reduceEqDiff, Nat.reduceLT, Nat.reduceLeDiff, Nat.reduceBEq, reduceIte, reduceCtorEq, Int.reduceAdd, Int.reduceLT, Int.reduceLE, Int.reduceGT, Int.reduceGE, Int.reduceEq, Int.reduceNe, Int.reduceBEq, Int.reduceBNe, Int.reduceToNat, Int.reduceNeg]
  (repeat (with_reducible refine ob ?_)); refine yv ?_
  try (refine ev ?_; try exact True.intro)
def unz (u : Nat) : Int := if u % 2 = 0 then (u / 2 : Nat) else -((u / 2 : Nat) : Int) - 1
def rIntG : Nat → Nat → Nat → Rd → Int × Rd
 | 0, _, _, r => (0, { r with failed := true })
 | k + 1, i, u, r =>
  if (rNext 1 r).2.failed then (0, (rNext 1 r).2) else
   if ((rNext 1 r).1.headD 0).toNat < 128 then (unz ((u + ((rNext 1 r).1.headD 0).toNat % 128 * 128 ^ i) % 18446744073709551616), { (rNext 1 r).2 with failed := (((rNext 1 r).1.headD 0).toNat == 0 && decide (0 < i)) || (decide (i = 9) && decide (((rNext 1 r).1.headD 0).toNat > 1)) })
   else rIntG k (i + 1) ((u + ((rNext 1 r).1.headD 0).toNat % 128 * 128 ^ i) % 18446744073709551616) (rNext 1 r).2
def rInt (r : Rd) : Int × Rd := rIntG 10 0 0 r
noncomputable section
set_option maxRecDepth 100000
def s106r0 : List SOper := [
 ⟨some 2, .mov (.k (.d (.int .i64 0))), none⟩]
def s106r1 : List SOper := [
 ⟨some 3, .mov (.k (.d (.int .u64 0))), none⟩]
def s106r2 : List SOper := [
 ⟨some 6, .mov (.k (.d (.int .i64 0))), none⟩]
def s106r3 : List SOper := [
 ⟨some 7, .bin .lss (.t 6) (.k (.d (.int .i64 10))), none⟩]
def s106r4 : List SOper := [
 ⟨some 8, .mov (.t 6), none⟩,
 ⟨some 4, .mov (.t 8), none⟩]
def s106r5 : List SOper := [
 ⟨some 9, .mov (.t 0), none⟩,
 ⟨some 10, .call (.k (.d (.func (.func 141) [] []))) [(.t 9), (.k (.d (.int .i64 1)))], none⟩,
 ⟨some 5, .mov (.t 10), none⟩]
def s106r6 : List SOper := [
 ⟨some 11, .mov (.t 0), none⟩,
 ⟨some 12, .nilCheck (.t 11), none⟩,
 ⟨some 13, .faddr 2 (.t 12), none⟩,
 ⟨some 14, .load none (.t 13), none⟩]
def s106r7 : List SOper := [
 ⟨some 2, .mov (.k (.d (.int .i64 0))), none⟩]
def s106r8 : List SOper := [
 ⟨some 15, .mov (.t 3), none⟩,
 ⟨some 16, .mov (.t 5), none⟩,
 ⟨some 17, .iaddr 1 (.t 16) (.k (.d (.int .i64 0))), none⟩,
 ⟨some 18, .load none (.t 17), none⟩,
 ⟨some 19, .bin .and (.t 18) (.k (.d (.int .u8 127))), none⟩,
 ⟨some 20, .conv .u64 (.t 19), none⟩,
 ⟨some 21, .mov (.t 4), none⟩,
 ⟨some 22, .bin .mul (.k (.d (.int .i64 7))) (.t 21), none⟩,
 ⟨some 23, .bin .shl (.t 20) (.t 22), none⟩,
 ⟨some 24, .bin .or (.t 15) (.t 23), none⟩,
 ⟨some 3, .mov (.t 24), none⟩]
def s106r9 : List SOper := [
 ⟨some 25, .mov (.t 5), none⟩,
 ⟨some 26, .iaddr 1 (.t 25) (.k (.d (.int .i64 0))), none⟩,
 ⟨some 27, .load none (.t 26), none⟩,
 ⟨some 28, .bin .lss (.t 27) (.k (.d (.int .u8 128))), none⟩]
def s106r10 : List SOper := [
 ⟨some 29, .mov (.t 0), none⟩,
 ⟨some 30, .mov (.t 5), none⟩,
 ⟨some 31, .iaddr 1 (.t 30) (.k (.d (.int .i64 0))), none⟩,
 ⟨some 32, .load none (.t 31), none⟩,
 ⟨some 33, .bin .eql (.t 32) (.k (.d (.int .u8 0))), none⟩,
 ⟨some 34, .mov (.t 33), none⟩,
 ⟨some 35, .mov (.t 4), some (34, true)⟩,
 ⟨some 36, .bin .gtr (.t 35) (.k (.d (.int .i64 0))), some (34, true)⟩,
 ⟨some 37, .pick (.t 34) (.t 36) (.k (.d (.bool false))), none⟩,
 ⟨some 38, .mov (.t 37), none⟩,
 ⟨some 39, .mov (.t 4), some (38, false)⟩,
 ⟨some 40, .bin .eql (.t 39) (.k (.d (.int .i64 9))), some (38, false)⟩,
 ⟨some 41, .mov (.t 40), some (38, false)⟩,
 ⟨some 42, .mov (.t 5), some (41, true)⟩,
 ⟨some 43, .iaddr 1 (.t 42) (.k (.d (.int .i64 0))), some (41, true)⟩,
 ⟨some 44, .load none (.t 43), some (41, true)⟩,
 ⟨some 45, .bin .gtr (.t 44) (.k (.d (.int .u8 1))), some (41, true)⟩,
 ⟨some 46, .pick (.t 41) (.t 45) (.k (.d (.bool false))), some (38, false)⟩,
 ⟨some 47, .pick (.t 38) (.k (.d (.bool true))) (.t 46), none⟩,
 ⟨some 48, .nilCheck (.t 29), none⟩,
 ⟨some 49, .faddr 2 (.t 48), none⟩,
 ⟨none, .store none (.t 49) (.t 47), none⟩]
def s106r11 : List SOper := [
 ⟨some 50, .mov (.t 3), none⟩,
 ⟨some 51, .bin .shr (.t 50) (.k (.d (.int .u64 1))), none⟩,
 ⟨some 52, .conv .i64 (.t 51), none⟩,
 ⟨some 53, .mov (.t 3), none⟩,
 ⟨some 54, .bin .and (.t 53) (.k (.d (.int .u64 1))), none⟩,
 ⟨some 55, .conv .i64 (.t 54), none⟩,
 ⟨some 56, .neg (.t 55), none⟩,
 ⟨some 57, .bin .xor (.t 52) (.t 56), none⟩,
 ⟨some 2, .mov (.t 57), none⟩]
def s106r12 : List SOper := [
 ⟨some 58, .bin .add (.t 6) (.k (.d (.int .i64 1))), none⟩,
 ⟨some 6, .mov (.t 58), none⟩]
def s106l13 : SCode := (.seq (.region s106r3 0 []) (.seq (.cond (.t 7) .skip (.exit 0)) (.seq (.block 1 (.seq (.region s106r4 0 []) (.seq (.region s106r5 0 []) (.seq (.seq (.region s106r6 0 []) (.cond (.t 14) (.seq (.region s106r7 0 []) .ret) .skip)) (.seq (.region s106r8 0 []) (.seq (.region s106r9 0 []) (.cond (.t 28) (.seq (.region s106r10 0 []) (.seq (.region s106r11 0 []) .ret)) .skip))))))) (.region s106r12 0 []))))
theorem qsn : CodeIs s106l13.eq_1 := qc s106l13.eq_1
def s106r14 : List SOper := [
 ⟨some 59, .mov (.t 0), none⟩,
 ⟨some 60, .nilCheck (.t 59), none⟩,
 ⟨some 61, .faddr 2 (.t 60), none⟩,
 ⟨none, .store none (.t 61) (.k (.d (.bool true))), none⟩]
def s106r15 : List SOper := [
 ⟨some 2, .mov (.k (.d (.int .i64 0))), none⟩]
def s106 : SCode := (.seq (.region s106r0 0 []) (.seq (.region s106r1 0 []) (.seq (.seq (.region s106r2 0 []) (.block 0 (.loop s106l13))) (.seq (.region s106r14 0 []) (.seq (.region s106r15 0 []) .ret)))))
theorem q9m : CodeIs s106.eq_1 := qc s106.eq_1
theorem qw4 : RegIs s106r0.eq_1 := qa
theorem qw5 : RegIs s106r1.eq_1 := qa
theorem qw6 : RegIs s106r2.eq_1 := qa
theorem qw7 : RegIs s106r3.eq_1 := qa
theorem qw8 : RegIs s106r4.eq_1 := qa
theorem qw9 : RegIs s106r5.eq_1 := qa
theorem qxa : RegIs s106r6.eq_1 := qa
theorem qxb : RegIs s106r7.eq_1 := qa
theorem qxc : RegIs s106r8.eq_1 := qa
theorem qxd : RegIs s106r9.eq_1 := qa
theorem qso : RegIs s106r10.eq_1 := qa
theorem qsp : RegIs s106r11.eq_1 := qa
theorem qsq : RegIs s106r12.eq_1 := qa
theorem qsr : RegIs s106r14.eq_1 := qa
theorem qss : RegIs s106r15.eq_1 := qa
attribute [go_sem] qw4 qw5 qw6 qw7 qw8 qw9 qxa qxb qxc qxd qso qsp qsq qsn qsr qss q9m
theorem q55 : FnIs Try.prog 106 Try.f106 [] news s106 [.tmp 2] 62 := xa follows Try.func106
end
theorem qof (s : List UInt8) (h : s ≠ []) : (byteRows s).getD 0 [] = [byteD (s.headD 0)] := by
 cases s with
 | nil => exact absurd rfl h
 | cons c s => rfl
theorem qg3 {r : Rd} (h : (rNext 1 r).2.failed = false) : ∃ c, (rNext 1 r).1 = [c] := by
 unfold rNext at h ⊢
 split at h
 ·cases h
 ·rename_i hn
  rw [if_neg hn]
  simp only [Bool.or_eq_true, decide_eq_true_eq, not_or] at hn
  have : r.pos < r.b.length := by omega
  exact ⟨r.b[r.pos], by simp only; rw [List.drop_eq_getElem_cons this]; rfl⟩
theorem qnu (u d i : Nat) (hu : u < 2 ^ i) : u ||| d * 2 ^ i = u + d * 2 ^ i := by
 have := Nat.shiftLeft_add_eq_or_of_lt hu d
 rw [Nat.shiftLeft_eq] at this
 rw [Nat.or_comm, ← this, Nat.add_comm]
theorem qnv (i : Nat) : 128 ^ i = 2 ^ (7 * i) := by rw [Nat.pow_mul]
theorem qg4 (n a b : Nat) (ha : a < 2 ^ n) (hb : b < 2 ^ n) : bvAnd n (a : Int) (b : Int) = ((a &&& b : Nat) : Int) := by
 unfold bvAnd
 rw [BitVec.ofInt_natCast, BitVec.ofInt_natCast, BitVec.toNat_and, BitVec.toNat_ofNat, BitVec.toNat_ofNat, Nat.mod_eq_of_lt ha, Nat.mod_eq_of_lt hb]
theorem qqt {u c i : Nat} (hi : i ≤ 9) (hu : u < 128 ^ i) (hc : c < 256) :
  IntKind.u64.wrap (bvOr 64 (u : Int) (IntKind.u64.wrap (IntKind.u64.wrap (IntKind.u8.wrap (bvAnd 8 (c : Int) 127)) * 2 ^ min (7 * i) 64))) = (((u + c % 128 * 128 ^ i) % 18446744073709551616 : Nat) : Int) := by
 have e1 : bvAnd 8 (c : Int) 127 = ((c % 128 : Nat) : Int) := by
  have := qg4 8 c 127 (by omega) (by omega)
  rw [show c &&& 127 = c % 128 from Nat.and_two_pow_sub_one_eq_mod c 7] at this
  exact this
 have e2 : min (7 * i) 64 = 7 * i := by omega
 have hcm : c % 128 < 128 := Nat.mod_lt _ (by decide)
 rw [e1, e2, qbr, show ((c % 128 : Nat) : Int) % 256 = ((c % 128 : Nat) : Int) by omega, f2 _ (by omega)]
 generalize c % 128 = d at hcm
 have e3 : ((d : Nat) : Int) * 2 ^ (7 * i) = ((d * 2 ^ (7 * i) : Nat) : Int) := by simp
 rw [e3]
 have hp : 128 ^ i ≤ 128 ^ 9 := Nat.pow_le_pow_right (by decide) hi
 have hp9 : (128 : Nat) ^ 9 = 9223372036854775808 := by decide
 have e4 : IntKind.u64.wrap ((d * 2 ^ (7 * i) : Nat) : Int) = ((d * 2 ^ (7 * i) % 18446744073709551616 : Nat) : Int) := by rw [wc]; omega
 rw [e4, qjl _ _ (by omega) (Nat.mod_lt _ (by decide)), qnv]
 rw [qnv] at hu
 rcases Nat.lt_or_ge i 9 with h9 | h9
 ·have hp8 : 128 ^ i ≤ 128 ^ 8 := Nat.pow_le_pow_right (by decide) (by omega)
  have e8 : (128 : Nat) ^ 8 = 72057594037927936 := by decide
  rw [qnv] at hp8
  have hd : d * 2 ^ (7 * i) ≤ 127 * 72057594037927936 := Nat.mul_le_mul (by omega) (by omega)
  rw [Nat.mod_eq_of_lt (by omega), qnu _ _ _ hu, f2 _ (by omega), Nat.mod_eq_of_lt (by omega)]
 ·have : i = 9 := by omega
  subst this
  have e9 : (2 : Nat) ^ (7 * 9) = 9223372036854775808 := by decide
  rw [e9] at hu ⊢
  have h1 : d * 9223372036854775808 % 18446744073709551616 = d % 2 * 2 ^ 63 := by
   have : (2 : Nat) ^ 63 = 9223372036854775808 := by decide
   rw [this]; omega
  rw [h1, qnu u (d % 2) 63 (by
   have : (2 : Nat) ^ 63 = 9223372036854775808 := by decide
   omega)]
  have : (2 : Nat) ^ 63 = 9223372036854775808 := by decide
  rw [this, f2 _ (by omega)]
  congr 1
  omega
theorem qqu {u : Nat} (h : u < 18446744073709551616) :
  IntKind.i64.wrap (bvXor 64 (IntKind.i64.wrap ((u : Int).fdiv (2 ^ min 1 64))) (IntKind.i64.wrap (0 - IntKind.i64.wrap (IntKind.u64.wrap (bvAnd 64 (u : Int) 1))))) = unz u := by
 have e1 : (u : Int).fdiv (2 ^ min 1 64) = ((u / 2 : Nat) : Int) := by
  show (u : Int).fdiv 2 = _
  rw [Int.fdiv_eq_ediv_of_nonneg _ (by decide)]; omega
 have e2 : bvAnd 64 (u : Int) 1 = ((u % 2 : Nat) : Int) := by
  have := qg4 64 u 1 (by omega) (by omega)
  rw [show u &&& 1 = u % 2 from Nat.and_two_pow_sub_one_eq_mod u 1] at this
  exact this
 rw [e1, e2, f2 _ (by omega), xd (n := ((u / 2 : Nat) : Int)) (by unfold I64; omega), xd (n := ((u % 2 : Nat) : Int)) (by unfold I64; omega), xd (n := 0 - ((u % 2 : Nat) : Int)) (by unfold I64; omega)]
 unfold bvXor unz
 rcases Nat.mod_two_eq_zero_or_one u with hp | hp
 ·rw [hp, if_pos rfl]
  have : BitVec.ofInt 64 (0 - ((0 : Nat) : Int)) = 0#64 := by decide
  rw [this, BitVec.xor_zero, BitVec.ofInt_natCast, BitVec.toNat_ofNat, Nat.mod_eq_of_lt (by omega), xd (by unfold I64; omega)]
 ·rw [hp, if_neg (by decide)]
  have e3 : BitVec.ofInt 64 (0 - ((1 : Nat) : Int)) = BitVec.ofInt 64 18446744073709551615 := by decide
  rw [e3, vr _ (by omega)]
  simp only [IntKind.wrap, IntKind.bits, IntKind.signed]
  simp
  omega
def SrInt (i u : Nat) (r : Rd) : St := ⟨[(0, true, .d (.ptr 0 0)), (3, true, .d (.int .u64 (u : Nat))), (6, true, .d (.int .i64 (i : Nat)))], [rdO r], [], 1⟩
set_option maxRecDepth 10000 in
theorem qnw (r : Rd) (hr : r.Ok) : ACall Try.prog 106 [.d (.ptr 0 0)] [rdO r] (.d (.int .i64 (rInt r).1)) [rdO (rInt r).2] := by
 refine q55.go ?_
 try (refine ev ?_; try exact True.intro)
 refine qn (fun i : { x : Nat × Nat × Rd // x.1 ≤ 10 ∧ x.2.1 < 18446744073709551616 ∧ (x.1 ≤ 9 → x.2.1 < 128 ^ x.1) ∧ x.2.2.Ok ∧ rIntG (10 - x.1) x.1 x.2.1 x.2.2 = rInt r } => SrInt i.val.1 i.val.2.1 i.val.2.2) (fun i => 10 - i.val.1) ⟨(0, 0, r), by simp, by simp, by simp, hr, rfl⟩ ?_ (fun i => ?_)
 ·try simp only [SrInt, Int.ofNat_zero, rdO, go_sem, Nat.reduceAdd, Nat.reduceMul, Nat.reduceSub, Nat.reduceEqDiff, Nat.reduceLT, Nat.reduceLeDiff, Nat.reduceBEq, reduceIte, reduceCtorEq, Int.reduceAdd, Int.reduceLT, Int.reduceLE, Int.reduceGT, Int.reduceGE, Int.reduceEq, Int.reduceNe, Int.reduceBEq, Int.reduceBNe, Int.reduceToNat, Int.reduceNeg]
 obtain ⟨⟨i, u, rd⟩, hi, hu, hu2, hrd, hx⟩ := i
 simp only at hi hu hu2 hrd hx
 try simp only [SrInt, rdO, go_sem, Nat.reduceAdd, Nat.reduceMul, Nat.reduceSub, Nat.reduceEqDiff, Nat.reduceLT, Nat.reduceLeDiff, Nat.reduceBEq, reduceIte, reduceCtorEq, Int.reduceAdd, Int.reduceLT, Int.reduceLE, Int.reduceGT, Int.reduceGE, Int.reduceEq, Int.reduceNe, Int.reduceBEq, Int.reduceBNe, Int.reduceToNat, Int.reduceNeg]
 (repeat (with_reducible refine ob ?_)); refine zb _ (fun h => ?_) (fun h => ?_)
 ·have hil : i < 10 := by simp at h; omega
  have hn := qez rd 1 hrd (by decide)
  obtain ⟨hn1, hn2⟩ := k8 hrd 1
  have hk : 10 - i = (10 - (i + 1)) + 1 := by omega
  rw [hk, rIntG] at hx
  try (refine ev ?_; try exact True.intro)
  simp only [rdO] at hn
  (repeat (with_reducible refine ob ?_)); refine clO [0] qz0 (hn) ?_
  try (refine ev ?_; try exact True.intro)
  cases hf : (rNext 1 rd).2.failed with
  | true =>
   rw [if_pos hf] at hx
   (repeat (with_reducible refine ob ?_)); refine yv ?_
   try simp only [← hx, hf, go_sem, Nat.reduceAdd, Nat.reduceMul, Nat.reduceSub, Nat.reduceEqDiff, Nat.reduceLT, Nat.reduceLeDiff, Nat.reduceBEq, reduceIte, reduceCtorEq, Int.reduceAdd, Int.reduceLT, Int.reduceLE, Int.reduceGT, Int.reduceGE, Int.reduceEq, Int.reduceNe, Int.reduceBEq, Int.reduceBNe, Int.reduceToNat, Int.reduceNeg]
  | false =>
   rw [if_neg (by rw [hf]; simp)] at hx
   obtain ⟨c, hc⟩ := qg3 hf
   rw [hc] at hx ⊢
   simp only [List.headD_cons] at hx
   (repeat (with_reducible refine ob ?_)); refine no_ ?_
   have hcb : byteRows [c] = [[.int .u8 (c.toNat : Nat)]] := rfl
   have hlt := k7 c
   have hi9 : i ≤ 9 := by omega
   have hu' : (u + c.toNat % 128 * 128 ^ i) % 18446744073709551616 < 18446744073709551616 := Nat.mod_lt _ (by decide)
   have hu2' : i ≤ 8 → (u + c.toNat % 128 * 128 ^ i) % 18446744073709551616 < 128 ^ (i + 1) := fun h8 => by
    have h1 := hu2 (by omega)
    have h2 : c.toNat % 128 < 128 := Nat.mod_lt _ (by decide)
    have h3 : c.toNat % 128 * 128 ^ i ≤ 127 * 128 ^ i := Nat.mul_le_mul_right _ (by omega)
    have h4 := Nat.mod_le (u + c.toNat % 128 * 128 ^ i) 18446744073709551616
    rw [Nat.pow_succ]
    omega
   have a1 : IntKind.i64.wrap (7 * (i : Int)) = ((7 * i : Nat) : Int) := by rw [xd (by unfold I64; omega)]; omega
   try simp only [hcb, a1, qqt hi9 (hu2 hi9) hlt, go_sem, Nat.reduceAdd, Nat.reduceMul, Nat.reduceSub, Nat.reduceEqDiff, Nat.reduceLT, Nat.reduceLeDiff, Nat.reduceBEq, reduceIte, reduceCtorEq, Int.reduceAdd, Int.reduceLT, Int.reduceLE, Int.reduceGT, Int.reduceGE, Int.reduceEq, Int.reduceNe, Int.reduceBEq, Int.reduceBNe, Int.reduceToNat, Int.reduceNeg]
   refine ⟨by omega, ?_⟩
   generalize (u + c.toNat % 128 * 128 ^ i) % 18446744073709551616 = u' at hx hu' hu2'
   refine zb _ (fun hc => ?_) (fun hc => ?_)
   ·have h128 : c.toNat < 128 := by simp at hc; omega
    simp only [h128, if_true] at hx
    try (refine ev ?_; try exact True.intro)
    have hb : (((c.toNat : Nat) : Int) == 0 && decide ((i : Int) > 0) || ((i : Int) == 9) && decide (((c.toNat : Nat) : Int) > 1)) = (c.toNat == 0 && decide (0 < i) || decide (i = 9) && decide (c.toNat > 1)) := by
     have b1 : (((c.toNat : Nat) : Int) == 0) = (c.toNat == 0) := by rw [Bool.eq_iff_iff]; simp
     have b2 : decide ((i : Int) > 0) = decide (0 < i) := decide_eq_decide.2 (by omega)
     have b3 : ((i : Int) == 9) = decide (i = 9) := by rw [Bool.eq_iff_iff]; simp; omega
     have b4 : decide (((c.toNat : Nat) : Int) > 1) = decide (c.toNat > 1) := decide_eq_decide.2 (by omega)
     rw [b1, b2, b3, b4]
    rw [qqu hu', hb, ← hx]
    exact ⟨fun h => ⟨h, fun h2 => by rw [h, h2]; rfl⟩, fun h => by rw [h]; rfl, rfl, (by simp only [go_sem]), rfl, rfl⟩
   ·have h128 : ¬ c.toNat < 128 := by simp at hc; omega
    simp only [h128, if_false] at hx
    try (refine ev ?_; try exact True.intro)
    refine ⟨⟨(i + 1, u', (rNext 1 rd).2), hil, hu', fun h => hu2' (by omega), hn1, hx⟩, ?_, by dsimp only; omega⟩
    try simp only [SrInt, rdO, hf, ql (show i < 9223372036854775807 by omega), go_sem, Nat.reduceAdd, Nat.reduceMul, Nat.reduceSub, Nat.reduceEqDiff, Nat.reduceLT, Nat.reduceLeDiff, Nat.reduceBEq, reduceIte, reduceCtorEq, Int.reduceAdd, Int.reduceLT, Int.reduceLE, Int.reduceGT, Int.reduceGE, Int.reduceEq, Int.reduceNe, Int.reduceBEq, Int.reduceBNe, Int.reduceToNat, Int.reduceNeg]
 ·have hil : i = 10 := by simp at h; omega
  subst hil
  have : rInt r = (0, { rd with failed := true }) := hx.symm
  try simp only [this, rdO, go_sem, Nat.reduceAdd, Nat.reduceMul, Nat.reduceSub, Nat.reduceEqDiff, Nat.reduceLT, Nat.reduceLeDiff, Nat.reduceBEq, reduceIte, reduceCtorEq, Int.reduceAdd, Int.reduceLT, Int.reduceLE, Int.reduceGT, Int.reduceGE, Int.reduceEq, Int.reduceNe, Int.reduceBEq, Int.reduceBNe, Int.reduceToNat, Int.reduceNeg]
end Go.Proofs.Ytinnaedmdoengaa
namespace Go.Proofs.Ytinnaedmdoengaa
open Go.Abs
set_option linter.unusedSimpArgs false
set_option linter.unusedVariables false
attribute [go_sem] exists_eq' List.getD_nil
theorem qg5 : ∀ (k i u : Nat) {r : Rd}, r.Ok → (rIntG k i u r).2.Ok ∧ (rIntG k i u r).2.b = r.b
 | 0, i, u, r, h => ⟨⟨h.len, h.pos⟩, rfl⟩
 | k + 1, i, u, r, h => by
  have hn := k8 h 1
  rw [rIntG]
  split
  ·exact hn
  ·split
   ·exact ⟨⟨hn.1.len, hn.1.pos⟩, hn.2⟩
   ·have := qg5 k (i + 1) ((u + ((rNext 1 r).1.headD 0).toNat % 128 * 128 ^ i) % 18446744073709551616) hn.1
    exact ⟨this.1, this.2.trans hn.2⟩
theorem qat {r : Rd} (h : r.Ok) : (rInt r).2.Ok ∧ (rInt r).2.b = r.b := qg5 10 0 0 h
def Rd.fail (r : Rd) (f : Bool) : Rd := ⟨r.b, r.pos, f⟩
theorem Rd.Ok.fail {r : Rd} (h : r.Ok) (f : Bool) : (r.fail f).Ok := ⟨h.len, h.pos⟩
def rBounded (lo hi : Int) (r : Rd) : Int × Rd := ((rInt r).1, (rInt r).2.fail ((rInt r).2.failed || decide ((rInt r).1 < lo) || decide ((rInt r).1 > hi)))
def rBytes0 (most : Int) (r : Rd) : List UInt8 × Rd := if (rBounded 0 most r).2.failed then ([], (rBounded 0 most r).2) else rNext (rBounded 0 most r).1.toNat (rBounded 0 most r).2
def rBool0 (r : Rd) : Bool × Rd :=
 let f := (rNext 1 r).2.failed || decide (((rNext 1 r).1.headD 0).toNat > 1)
 (!f && ((rNext 1 r).1.headD 0).toNat == 1, (rNext 1 r).2.fail f)
def rPart {α : Type} (z : α) (f : Rd → α × Rd) (r : Rd) : α × Rd := if r.failed then (z, r) else if (f r).2.failed then (z, ⟨(f r).2.b, r.pos, (f r).2.failed⟩) else f r
theorem zc {r : Rd} (h : r.Ok) (lo hi : Int) : (rBounded lo hi r).2.Ok ∧ (rBounded lo hi r).2.b = r.b := ⟨(qat h).1.fail _, (qat h).2⟩
theorem qb1 {r : Rd} {lo hi : Int} (h : (rBounded lo hi r).2.failed = false) : lo ≤ (rBounded lo hi r).1 ∧ (rBounded lo hi r).1 ≤ hi := by
 simp only [rBounded, Rd.fail, Bool.or_eq_false_iff, decide_eq_false_iff_not] at h ⊢
 omega
theorem qb2 {r : Rd} (h : r.Ok) (most : Int) : (rBytes0 most r).2.Ok ∧ (rBytes0 most r).2.b = r.b := by
 have h1 := zc h 0 most
 unfold rBytes0
 split
 ·exact h1
 ·have h2 := k8 h1.1 (rBounded 0 most r).1.toNat
  exact ⟨h2.1, h2.2.trans h1.2⟩
theorem qnx {r : Rd} (h : r.Ok) (n : Nat) : (rNext n r).1.length ≤ 1000000000 := by
 have := h.len
 unfold rNext
 split
 ·simp
 ·simp only [List.length_take, List.length_drop]; omega
theorem qix {r : Rd} (h : r.Ok) (most : Int) : (rBytes0 most r).1.length ≤ 1000000000 := by
 unfold rBytes0
 split
 ·simp
 ·exact qnx (zc h 0 most).1 _
theorem qdp {r : Rd} (h : r.Ok) : (rBool0 r).2.Ok ∧ (rBool0 r).2.b = r.b := ⟨(k8 h 1).1.fail _, (k8 h 1).2⟩
theorem yf {α : Type} {z : α} {f : Rd → α × Rd} {r : Rd} (h : r.Ok) (hf : (f r).2.Ok ∧ (f r).2.b = r.b) : (rPart z f r).2.Ok ∧ (rPart z f r).2.b = r.b := by
 unfold rPart
 split
 ·exact ⟨h, rfl⟩
 ·split
  ·exact ⟨⟨hf.1.len, by simp only [hf.2]; exact h.pos⟩, hf.2⟩
  ·exact hf
noncomputable section
set_option maxRecDepth 100000
def s112r0 : List SOper := [
 ⟨some 6, .mov (.k (.d (.int .i64 0))), none⟩]
def s112r1 : List SOper := [
 ⟨some 8, .mov (.t 0), none⟩,
 ⟨some 9, .call (.k (.d (.func (.func 106) [] []))) [(.t 8)], none⟩,
 ⟨some 7, .mov (.t 9), none⟩]
def s112r2 : List SOper := [
 ⟨some 10, .mov (.t 0), none⟩,
 ⟨some 11, .mov (.t 0), none⟩,
 ⟨some 12, .nilCheck (.t 11), none⟩,
 ⟨some 13, .faddr 2 (.t 12), none⟩,
 ⟨some 14, .load none (.t 13), none⟩,
 ⟨some 15, .mov (.t 14), none⟩,
 ⟨some 16, .mov (.t 7), some (15, false)⟩,
 ⟨some 17, .mov (.t 1), some (15, false)⟩,
 ⟨some 18, .bin .lss (.t 16) (.t 17), some (15, false)⟩,
 ⟨some 19, .pick (.t 15) (.k (.d (.bool true))) (.t 18), none⟩,
 ⟨some 20, .mov (.t 19), none⟩,
 ⟨some 21, .mov (.t 7), some (20, false)⟩,
 ⟨some 22, .mov (.t 2), some (20, false)⟩,
 ⟨some 23, .bin .gtr (.t 21) (.t 22), some (20, false)⟩,
 ⟨some 24, .pick (.t 20) (.k (.d (.bool true))) (.t 23), none⟩,
 ⟨some 25, .nilCheck (.t 10), none⟩,
 ⟨some 26, .faddr 2 (.t 25), none⟩,
 ⟨none, .store none (.t 26) (.t 24), none⟩]
def s112r3 : List SOper := [
 ⟨some 27, .mov (.t 7), none⟩,
 ⟨some 6, .mov (.t 27), none⟩]
def s112 : SCode := (.seq (.region s112r0 0 []) (.seq (.region s112r1 0 []) (.seq (.region s112r2 0 []) (.seq (.region s112r3 0 []) .ret))))
theorem q9n : CodeIs s112.eq_1 := qc s112.eq_1
theorem qxe : RegIs s112r0.eq_1 := qa
theorem qxf : RegIs s112r1.eq_1 := qa
theorem qxg : RegIs s112r2.eq_1 := qa
theorem qxh : RegIs s112r3.eq_1 := qa
attribute [go_sem] qxe qxf qxg qxh q9n
theorem q56 : FnIs Try.prog 112 Try.f112 [] news s112 [.tmp 6] 28 := xa follows Try.func112
def s117r0 : List SOper := [
 ⟨some 4, .mov (.k (.d .nilsl)), none⟩]
def s117r1 : List SOper := [
 ⟨some 6, .mov (.t 0), none⟩,
 ⟨some 7, .mov (.t 1), none⟩,
 ⟨some 8, .call (.k (.d (.func (.func 112) [] []))) [(.t 6), (.k (.d (.int .i64 0))), (.t 7)], none⟩,
 ⟨some 5, .mov (.t 8), none⟩]
def s117r2 : List SOper := [
 ⟨some 9, .mov (.t 0), none⟩,
 ⟨some 10, .nilCheck (.t 9), none⟩,
 ⟨some 11, .faddr 2 (.t 10), none⟩,
 ⟨some 12, .load none (.t 11), none⟩]
def s117r3 : List SOper := [
 ⟨some 4, .mov (.k (.d .nilsl)), none⟩]
def s117r4 : List SOper := [
 ⟨some 13, .mov (.t 0), none⟩,
 ⟨some 14, .mov (.t 5), none⟩,
 ⟨some 15, .call (.k (.d (.func (.func 141) [] []))) [(.t 13), (.t 14)], none⟩,
 ⟨some 4, .mov (.t 15), none⟩]
def s117 : SCode := (.seq (.region s117r0 0 []) (.seq (.region s117r1 0 []) (.seq (.seq (.region s117r2 0 []) (.cond (.t 12) (.seq (.region s117r3 0 []) .ret) .skip)) (.seq (.region s117r4 0 []) .ret))))
theorem q9o : CodeIs s117.eq_1 := qc s117.eq_1
theorem qxi : RegIs s117r0.eq_1 := qa
theorem qxj : RegIs s117r1.eq_1 := qa
theorem qxk : RegIs s117r2.eq_1 := qa
theorem qxl : RegIs s117r3.eq_1 := qa
theorem qxm : RegIs s117r4.eq_1 := qa
attribute [go_sem] qxi qxj qxk qxl qxm q9o
theorem q8r : FnIs Try.prog 117 Try.f117 [] news s117 [.tmp 4] 16 := xa follows Try.func117
def s114r0 : List SOper := [
 ⟨some 2, .mov (.k (.d (.bool false))), none⟩]
def s114r1 : List SOper := [
 ⟨some 4, .mov (.t 0), none⟩,
 ⟨some 5, .call (.k (.d (.func (.func 141) [] []))) [(.t 4), (.k (.d (.int .i64 1)))], none⟩,
 ⟨some 3, .mov (.t 5), none⟩]
def s114r2 : List SOper := [
 ⟨some 6, .mov (.t 0), none⟩,
 ⟨some 7, .mov (.t 0), none⟩,
 ⟨some 8, .nilCheck (.t 7), none⟩,
 ⟨some 9, .faddr 2 (.t 8), none⟩,
 ⟨some 10, .load none (.t 9), none⟩,
 ⟨some 11, .mov (.t 10), none⟩,
 ⟨some 12, .mov (.t 3), some (11, false)⟩,
 ⟨some 13, .iaddr 1 (.t 12) (.k (.d (.int .i64 0))), some (11, false)⟩,
 ⟨some 14, .load none (.t 13), some (11, false)⟩,
 ⟨some 15, .bin .gtr (.t 14) (.k (.d (.int .u8 1))), some (11, false)⟩,
 ⟨some 16, .pick (.t 11) (.k (.d (.bool true))) (.t 15), none⟩,
 ⟨some 17, .nilCheck (.t 6), none⟩,
 ⟨some 18, .faddr 2 (.t 17), none⟩,
 ⟨none, .store none (.t 18) (.t 16), none⟩]
def s114r3 : List SOper := [
 ⟨some 19, .mov (.t 0), none⟩,
 ⟨some 20, .nilCheck (.t 19), none⟩,
 ⟨some 21, .faddr 2 (.t 20), none⟩,
 ⟨some 22, .load none (.t 21), none⟩,
 ⟨some 23, .not (.t 22), none⟩,
 ⟨some 24, .mov (.t 23), none⟩,
 ⟨some 25, .mov (.t 3), some (24, true)⟩,
 ⟨some 26, .iaddr 1 (.t 25) (.k (.d (.int .i64 0))), some (24, true)⟩,
 ⟨some 27, .load none (.t 26), some (24, true)⟩,
 ⟨some 28, .bin .eql (.t 27) (.k (.d (.int .u8 1))), some (24, true)⟩,
 ⟨some 29, .pick (.t 24) (.t 28) (.k (.d (.bool false))), none⟩,
 ⟨some 2, .mov (.t 29), none⟩]
def s114 : SCode := (.seq (.region s114r0 0 []) (.seq (.region s114r1 0 []) (.seq (.region s114r2 0 []) (.seq (.region s114r3 0 []) .ret))))
theorem q9p : CodeIs s114.eq_1 := qc s114.eq_1
theorem qxn : RegIs s114r0.eq_1 := qa
theorem qxo : RegIs s114r1.eq_1 := qa
theorem qxp : RegIs s114r2.eq_1 := qa
theorem qxq : RegIs s114r3.eq_1 := qa
attribute [go_sem] qxn qxo qxp qxq q9p
theorem q8s : FnIs Try.prog 114 Try.f114 [] news s114 [.tmp 2] 30 := xa follows Try.func114
def s111r0 : List SOper := [
 ⟨some 3, .mov (.k (.d (.int .i64 0))), none⟩]
def s111r1 : List SOper := [
 ⟨some 4, .load none (.t 0), none⟩,
 ⟨some 5, .load none (.t 1), none⟩,
 ⟨some 6, .load none (.t 2), none⟩,
 ⟨some 7, .call (.k (.d (.func (.func 112) [] []))) [(.t 4), (.t 5), (.t 6)], none⟩,
 ⟨some 3, .mov (.t 7), none⟩]
def s111 : SCode := (.seq (.region s111r0 0 []) (.seq (.region s111r1 0 []) .ret))
theorem q9q : CodeIs s111.eq_1 := qc s111.eq_1
theorem qxr : RegIs s111r0.eq_1 := qa
theorem qxs : RegIs s111r1.eq_1 := qa
attribute [go_sem] qxr qxs q9q
theorem q8t : FnIs Try.prog 111 Try.f111 [] news s111 [.tmp 3] 8 := xa follows Try.func111
def s116r0 : List SOper := [
 ⟨some 2, .mov (.k (.d .nilsl)), none⟩]
def s116r1 : List SOper := [
 ⟨some 3, .load none (.t 0), none⟩,
 ⟨some 4, .load none (.t 1), none⟩,
 ⟨some 5, .call (.k (.d (.func (.func 117) [] []))) [(.t 3), (.t 4)], none⟩,
 ⟨some 6, .append false 1 1 (.k (.d .nilsl)) (.t 5), none⟩,
 ⟨some 2, .mov (.t 6), none⟩]
def s116 : SCode := (.seq (.region s116r0 0 []) (.seq (.region s116r1 0 []) .ret))
theorem q9r : CodeIs s116.eq_1 := qc s116.eq_1
theorem qxt : RegIs s116r0.eq_1 := qa
theorem qxu : RegIs s116r1.eq_1 := qa
attribute [go_sem] qxt qxu q9r
theorem q8u : FnIs Try.prog 116 Try.f116 [] news s116 [.tmp 2] 7 := xa follows Try.func116
def s105r0 : List SOper := [
 ⟨some 4, .mov (.k (.d (.int .i64 0))), none⟩]
def s105r1 : List SOper := [
 ⟨some 5, .mov (.k (.d (.int .i64 0))), none⟩]
def s105r2 : List SOper := [
 ⟨some 8, .mov (.t 0), none⟩,
 ⟨some 9, .eqnil false .ptr (.t 8), none⟩,
 ⟨some 10, .mov (.t 9), none⟩,
 ⟨some 11, .mov (.t 0), some (10, false)⟩,
 ⟨some 12, .nilCheck (.t 11), some (10, false)⟩,
 ⟨some 13, .faddr 2 (.t 12), some (10, false)⟩,
 ⟨some 14, .load none (.t 13), some (10, false)⟩,
 ⟨some 15, .pick (.t 10) (.k (.d (.bool true))) (.t 14), none⟩]
def s105r3 : List SOper := [
 ⟨some 16, .mov (.t 5), none⟩,
 ⟨some 4, .mov (.t 16), none⟩]
def s105r4 : List SOper := [
 ⟨some 17, .mov (.t 0), none⟩,
 ⟨some 18, .nilCheck (.t 17), none⟩,
 ⟨some 19, .faddr 1 (.t 18), none⟩,
 ⟨some 20, .load none (.t 19), none⟩,
 ⟨some 6, .mov (.t 20), none⟩]
def s105r5 : List SOper := [
 ⟨some 21, .mov (.t 1), none⟩,
 ⟨some 22, .call (.t 21) [], none⟩,
 ⟨some 7, .mov (.t 22), none⟩]
def s105r6 : List SOper := [
 ⟨some 23, .mov (.t 0), none⟩,
 ⟨some 24, .nilCheck (.t 23), none⟩,
 ⟨some 25, .faddr 2 (.t 24), none⟩,
 ⟨some 26, .load none (.t 25), none⟩]
def s105r7 : List SOper := [
 ⟨some 27, .mov (.t 0), none⟩,
 ⟨some 28, .mov (.t 6), none⟩,
 ⟨some 29, .nilCheck (.t 27), none⟩,
 ⟨some 30, .faddr 1 (.t 29), none⟩,
 ⟨none, .store none (.t 30) (.t 28), none⟩]
def s105r8 : List SOper := [
 ⟨some 31, .mov (.t 5), none⟩,
 ⟨some 4, .mov (.t 31), none⟩]
def s105r9 : List SOper := [
 ⟨some 32, .mov (.t 7), none⟩,
 ⟨some 4, .mov (.t 32), none⟩]
def s105 : SCode := (.seq (.region s105r0 0 []) (.seq (.region s105r1 0 []) (.seq (.seq (.region s105r2 0 []) (.cond (.t 15) (.seq (.region s105r3 0 []) .ret) .skip)) (.seq (.region s105r4 0 []) (.seq (.region s105r5 0 []) (.seq (.seq (.region s105r6 0 []) (.cond (.t 26) (.seq (.region s105r7 0 []) (.seq (.region s105r8 0 []) .ret)) .skip)) (.seq (.region s105r9 0 []) .ret)))))))
theorem q9s : CodeIs s105.eq_1 := qc s105.eq_1
theorem qxv : RegIs s105r0.eq_1 := qa
theorem qxw : RegIs s105r1.eq_1 := qa
theorem qxx : RegIs s105r2.eq_1 := qa
theorem qxy : RegIs s105r3.eq_1 := qa
theorem qxz : RegIs s105r4.eq_1 := qa
theorem qx0 : RegIs s105r5.eq_1 := qa
theorem qx1 : RegIs s105r6.eq_1 := qa
theorem qx2 : RegIs s105r7.eq_1 := qa
theorem qx3 : RegIs s105r8.eq_1 := qa
theorem qx4 : RegIs s105r9.eq_1 := qa
attribute [go_sem] qxv qxw qxx qxy qxz qx0 qx1 qx2 qx3 qx4 q9s
theorem qz1 : FnIs Try.prog 105 Try.f105 [] news s105 [.tmp 4] 33 := xa follows Try.func105
def s113r0 : List SOper := [
 ⟨some 4, .mov (.k (.d (.bool false))), none⟩]
def s113r1 : List SOper := [
 ⟨some 5, .mov (.k (.d (.bool false))), none⟩]
def s113r2 : List SOper := [
 ⟨some 8, .mov (.t 0), none⟩,
 ⟨some 9, .eqnil false .ptr (.t 8), none⟩,
 ⟨some 10, .mov (.t 9), none⟩,
 ⟨some 11, .mov (.t 0), some (10, false)⟩,
 ⟨some 12, .nilCheck (.t 11), some (10, false)⟩,
 ⟨some 13, .faddr 2 (.t 12), some (10, false)⟩,
 ⟨some 14, .load none (.t 13), some (10, false)⟩,
 ⟨some 15, .pick (.t 10) (.k (.d (.bool true))) (.t 14), none⟩]
def s113r3 : List SOper := [
 ⟨some 16, .mov (.t 5), none⟩,
 ⟨some 4, .mov (.t 16), none⟩]
def s113r4 : List SOper := [
 ⟨some 17, .mov (.t 0), none⟩,
 ⟨some 18, .nilCheck (.t 17), none⟩,
 ⟨some 19, .faddr 1 (.t 18), none⟩,
 ⟨some 20, .load none (.t 19), none⟩,
 ⟨some 6, .mov (.t 20), none⟩]
def s113r5 : List SOper := [
 ⟨some 21, .mov (.t 1), none⟩,
 ⟨some 22, .call (.t 21) [], none⟩,
 ⟨some 7, .mov (.t 22), none⟩]
def s113r6 : List SOper := [
 ⟨some 23, .mov (.t 0), none⟩,
 ⟨some 24, .nilCheck (.t 23), none⟩,
 ⟨some 25, .faddr 2 (.t 24), none⟩,
 ⟨some 26, .load none (.t 25), none⟩]
def s113r7 : List SOper := [
 ⟨some 27, .mov (.t 0), none⟩,
 ⟨some 28, .mov (.t 6), none⟩,
 ⟨some 29, .nilCheck (.t 27), none⟩,
 ⟨some 30, .faddr 1 (.t 29), none⟩,
 ⟨none, .store none (.t 30) (.t 28), none⟩]
def s113r8 : List SOper := [
 ⟨some 31, .mov (.t 5), none⟩,
 ⟨some 4, .mov (.t 31), none⟩]
def s113r9 : List SOper := [
 ⟨some 32, .mov (.t 7), none⟩,
 ⟨some 4, .mov (.t 32), none⟩]
def s113 : SCode := (.seq (.region s113r0 0 []) (.seq (.region s113r1 0 []) (.seq (.seq (.region s113r2 0 []) (.cond (.t 15) (.seq (.region s113r3 0 []) .ret) .skip)) (.seq (.region s113r4 0 []) (.seq (.region s113r5 0 []) (.seq (.seq (.region s113r6 0 []) (.cond (.t 26) (.seq (.region s113r7 0 []) (.seq (.region s113r8 0 []) .ret)) .skip)) (.seq (.region s113r9 0 []) .ret)))))))
theorem q9t : CodeIs s113.eq_1 := qc s113.eq_1
theorem qx5 : RegIs s113r0.eq_1 := qa
theorem qx6 : RegIs s113r1.eq_1 := qa
theorem qx7 : RegIs s113r2.eq_1 := qa
theorem qx8 : RegIs s113r3.eq_1 := qa
theorem qx9 : RegIs s113r4.eq_1 := qa
theorem qya : RegIs s113r5.eq_1 := qa
theorem qyb : RegIs s113r6.eq_1 := qa
theorem qyc : RegIs s113r7.eq_1 := qa
theorem qyd : RegIs s113r8.eq_1 := qa
theorem qye : RegIs s113r9.eq_1 := qa
attribute [go_sem] qx5 qx6 qx7 qx8 qx9 qya qyb qyc qyd qye q9t
theorem q8v : FnIs Try.prog 113 Try.f113 [] news s113 [.tmp 4] 33 := xa follows Try.func113
def s115r0 : List SOper := [
 ⟨some 4, .mov (.k (.d .nilsl)), none⟩]
def s115r1 : List SOper := [
 ⟨some 5, .mov (.k (.d .nilsl)), none⟩]
def s115r2 : List SOper := [
 ⟨some 8, .mov (.t 0), none⟩,
 ⟨some 9, .eqnil false .ptr (.t 8), none⟩,
 ⟨some 10, .mov (.t 9), none⟩,
 ⟨some 11, .mov (.t 0), some (10, false)⟩,
 ⟨some 12, .nilCheck (.t 11), some (10, false)⟩,
 ⟨some 13, .faddr 2 (.t 12), some (10, false)⟩,
 ⟨some 14, .load none (.t 13), some (10, false)⟩,
 ⟨some 15, .pick (.t 10) (.k (.d (.bool true))) (.t 14), none⟩]
def s115r3 : List SOper := [
 ⟨some 16, .mov (.t 5), none⟩,
 ⟨some 4, .mov (.t 16), none⟩]
def s115r4 : List SOper := [
 ⟨some 17, .mov (.t 0), none⟩,
 ⟨some 18, .nilCheck (.t 17), none⟩,
 ⟨some 19, .faddr 1 (.t 18), none⟩,
 ⟨some 20, .load none (.t 19), none⟩,
 ⟨some 6, .mov (.t 20), none⟩]
def s115r5 : List SOper := [
 ⟨some 21, .mov (.t 1), none⟩,
 ⟨some 22, .call (.t 21) [], none⟩,
 ⟨some 7, .mov (.t 22), none⟩]
def s115r6 : List SOper := [
 ⟨some 23, .mov (.t 0), none⟩,
 ⟨some 24, .nilCheck (.t 23), none⟩,
 ⟨some 25, .faddr 2 (.t 24), none⟩,
 ⟨some 26, .load none (.t 25), none⟩]
def s115r7 : List SOper := [
 ⟨some 27, .mov (.t 0), none⟩,
 ⟨some 28, .mov (.t 6), none⟩,
 ⟨some 29, .nilCheck (.t 27), none⟩,
 ⟨some 30, .faddr 1 (.t 29), none⟩,
 ⟨none, .store none (.t 30) (.t 28), none⟩]
def s115r8 : List SOper := [
 ⟨some 31, .mov (.t 5), none⟩,
 ⟨some 4, .mov (.t 31), none⟩]
def s115r9 : List SOper := [
 ⟨some 32, .mov (.t 7), none⟩,
 ⟨some 4, .mov (.t 32), none⟩]
def s115 : SCode := (.seq (.region s115r0 0 []) (.seq (.region s115r1 0 []) (.seq (.seq (.region s115r2 0 []) (.cond (.t 15) (.seq (.region s115r3 0 []) .ret) .skip)) (.seq (.region s115r4 0 []) (.seq (.region s115r5 0 []) (.seq (.seq (.region s115r6 0 []) (.cond (.t 26) (.seq (.region s115r7 0 []) (.seq (.region s115r8 0 []) .ret)) .skip)) (.seq (.region s115r9 0 []) .ret)))))))
theorem q9u : CodeIs s115.eq_1 := qc s115.eq_1
theorem qyf : RegIs s115r0.eq_1 := qa
theorem qyg : RegIs s115r1.eq_1 := qa
theorem qyh : RegIs s115r2.eq_1 := qa
theorem qyi : RegIs s115r3.eq_1 := qa
theorem qyj : RegIs s115r4.eq_1 := qa
theorem qyk : RegIs s115r5.eq_1 := qa
theorem qyl : RegIs s115r6.eq_1 := qa
theorem qym : RegIs s115r7.eq_1 := qa
theorem qyn : RegIs s115r8.eq_1 := qa
theorem qyo : RegIs s115r9.eq_1 := qa
attribute [go_sem] qyf qyg qyh qyi qyj qyk qyl qym qyn qyo q9u
theorem q8w : FnIs Try.prog 115 Try.f115 [] news s115 [.tmp 4] 33 := xa follows Try.func115
def s62r0 : List SOper := [
 ⟨some 2, .mov (.k (.d (.int .i64 0))), none⟩]
def s62r1 : List SOper := [
 ⟨some 3, .mov (.t 0), none⟩,
 ⟨some 4, .mov (.t 0), none⟩,
 ⟨some 5, .mkFunc (.func 106) [(.t 4)] [], none⟩,
 ⟨some 6, .call (.k (.d (.func (.func 105) [] []))) [(.t 3), (.t 5)], none⟩,
 ⟨some 2, .mov (.t 6), none⟩]
def s62 : SCode := (.seq (.region s62r0 0 []) (.seq (.region s62r1 0 []) .ret))
theorem e62 : CodeIs s62.eq_1 := qc s62.eq_1
theorem q57 : RegIs s62r0.eq_1 := qa
theorem q58 : RegIs s62r1.eq_1 := qa
attribute [go_sem] q57 q58 e62
theorem F62 : FnIs Try.prog 62 Try.f62 [] news s62 [.tmp 2] 7 := xa follows Try.func62
def s80r0 : List SOper := [
 ⟨some 3, .box 3 (.t 0), none⟩,
 ⟨some 4, .box 2 (.t 1), none⟩,
 ⟨some 5, .box 1 (.t 2), none⟩,
 ⟨some 6, .mov (.k (.d (.int .i64 0))), none⟩]
def s80r1 : List SOper := [
 ⟨some 7, .load none (.t 3), none⟩,
 ⟨some 8, .mkFunc (.func 111) [] [(.t 3), (.t 4), (.t 5)], none⟩,
 ⟨some 9, .call (.k (.d (.func (.func 105) [] []))) [(.t 7), (.t 8)], none⟩,
 ⟨some 6, .mov (.t 9), none⟩]
def s80 : SCode := (.seq (.region s80r0 3 []) (.seq (.region s80r1 0 []) .ret))
theorem e80 : CodeIs s80.eq_1 := qc s80.eq_1
theorem q59 : RegIs s80r0.eq_1 := qa
theorem q6a : RegIs s80r1.eq_1 := qa
attribute [go_sem] q59 q6a e80
theorem F80 : FnIs Try.prog 80 Try.f80 [] news s80 [.tmp 6] 10 := xa follows Try.func80
def s82r0 : List SOper := [
 ⟨some 2, .mov (.k (.d (.bool false))), none⟩]
def s82r1 : List SOper := [
 ⟨some 3, .mov (.t 0), none⟩,
 ⟨some 4, .mov (.t 0), none⟩,
 ⟨some 5, .mkFunc (.func 114) [(.t 4)] [], none⟩,
 ⟨some 6, .call (.k (.d (.func (.func 113) [] []))) [(.t 3), (.t 5)], none⟩,
 ⟨some 2, .mov (.t 6), none⟩]
def s82 : SCode := (.seq (.region s82r0 0 []) (.seq (.region s82r1 0 []) .ret))
theorem e82 : CodeIs s82.eq_1 := qc s82.eq_1
theorem q6b : RegIs s82r0.eq_1 := qa
theorem q6c : RegIs s82r1.eq_1 := qa
attribute [go_sem] q6b q6c e82
theorem F82 : FnIs Try.prog 82 Try.f82 [] news s82 [.tmp 2] 7 := xa follows Try.func82
def s83r0 : List SOper := [
 ⟨some 2, .box 2 (.t 0), none⟩,
 ⟨some 3, .box 1 (.t 1), none⟩,
 ⟨some 4, .mov (.k (.d .nilsl)), none⟩]
def s83r1 : List SOper := [
 ⟨some 5, .load none (.t 2), none⟩,
 ⟨some 6, .mkFunc (.func 116) [] [(.t 2), (.t 3)], none⟩,
 ⟨some 7, .call (.k (.d (.func (.func 115) [] []))) [(.t 5), (.t 6)], none⟩,
 ⟨some 4, .mov (.t 7), none⟩]
def s83 : SCode := (.seq (.region s83r0 2 []) (.seq (.region s83r1 0 []) .ret))
theorem e83 : CodeIs s83.eq_1 := qc s83.eq_1
theorem q6d : RegIs s83r0.eq_1 := qa
theorem q6e : RegIs s83r1.eq_1 := qa
attribute [go_sem] q6d q6e e83
theorem F83 : FnIs Try.prog 83 Try.f83 [] news s83 [.tmp 4] 8 := xa follows Try.func83
def s81r0 : List SOper := [
 ⟨some 4, .mov (.k (.d (.str []))), none⟩]
def s81r1 : List SOper := [
 ⟨some 5, .mov (.t 0), none⟩,
 ⟨some 6, .mov (.t 1), none⟩,
 ⟨some 7, .call (.k (.d (.func (.func 83) [] []))) [(.t 5), (.t 6)], none⟩,
 ⟨some 8, .b2s (.t 7), none⟩,
 ⟨some 4, .mov (.t 8), none⟩]
def s81 : SCode := (.seq (.region s81r0 0 []) (.seq (.region s81r1 0 []) .ret))
theorem e81 : CodeIs s81.eq_1 := qc s81.eq_1
theorem q6f : RegIs s81r0.eq_1 := qa
theorem q6g : RegIs s81r1.eq_1 := qa
attribute [go_sem] q6f q6g e81
theorem F81 : FnIs Try.prog 81 Try.f81 [] news s81 [.tmp 4] 9 := xa follows Try.func81
end
theorem qb3 (r : Rd) (lo hi : Int) (hr : r.Ok) : ACall Try.prog 112 [.d (.ptr 0 0), .d (.int .i64 lo), .d (.int .i64 hi)] [rdO r] (.d (.int .i64 (rBounded lo hi r).1)) [rdO (rBounded lo hi r).2] := by
 have hc := qnw r hr
 simp only [rdO] at hc
 refine q56.go ?_
 try simp only [rdO, rBounded, Rd.fail, go_sem, Nat.reduceAdd, Nat.reduceMul, Nat.reduceSub, Nat.reduceEqDiff, Nat.reduceLT, Nat.reduceLeDiff, Nat.reduceBEq, reduceIte, reduceCtorEq, Int.reduceAdd, Int.reduceLT, Int.reduceLE, Int.reduceGT, Int.reduceGE, Int.reduceEq, Int.reduceNe, Int.reduceBEq, Int.reduceBNe, Int.reduceToNat, Int.reduceNeg]
 generalize rInt r = x at hc ⊢
 obtain ⟨n, b, p, f⟩ := x
 (repeat (with_reducible refine ob ?_)); refine clO [0] q55 (hc) ?_
 try (refine ev ?_; try exact True.intro)
 cases f <;> simp
theorem qle (r : Rd) (most : Nat) (hr : r.Ok) (hm : most ≤ 1000000000) : ACall Try.prog 117 [.d (.ptr 0 0), .d (.int .i64 most)] [rdO r] (.d (.sl 1 (byteRows (rBytes0 most r).1))) [rdO (rBytes0 most r).2] := by
 have hc := qb3 r 0 most hr
 have hin := qb1 (r := r) (lo := 0) (hi := most)
 have hinv := (zc hr 0 most).1
 refine q8r.go ?_
 try simp only [rBytes0, go_sem, Nat.reduceAdd, Nat.reduceMul, Nat.reduceSub, Nat.reduceEqDiff, Nat.reduceLT, Nat.reduceLeDiff, Nat.reduceBEq, reduceIte, reduceCtorEq, Int.reduceAdd, Int.reduceLT, Int.reduceLE, Int.reduceGT, Int.reduceGE, Int.reduceEq, Int.reduceNe, Int.reduceBEq, Int.reduceBNe, Int.reduceToNat, Int.reduceNeg]
 generalize rBounded 0 most r = x at hc hin hinv ⊢
 obtain ⟨n, r1⟩ := x
 simp only [rdO] at hc
 try simp only [rdO, go_sem, Nat.reduceAdd, Nat.reduceMul, Nat.reduceSub, Nat.reduceEqDiff, Nat.reduceLT, Nat.reduceLeDiff, Nat.reduceBEq, reduceIte, reduceCtorEq, Int.reduceAdd, Int.reduceLT, Int.reduceLE, Int.reduceGT, Int.reduceGE, Int.reduceEq, Int.reduceNe, Int.reduceBEq, Int.reduceBNe, Int.reduceToNat, Int.reduceNeg]
 (repeat (with_reducible refine ob ?_)); refine clO [0] q56 (hc) ?_
 try (refine ev ?_; try exact True.intro)
 cases hf : r1.failed
 ·obtain ⟨h1, h2⟩ := hin hf
  simp only at h1 h2
  have hn := qez r1 n.toNat hinv (by omega)
  rw [Int.toNat_of_nonneg h1] at hn
  simp only [rdO, hf] at hn
  (repeat (with_reducible refine ob ?_)); refine no_ ?_
  try (refine ev ?_; try exact True.intro)
  (repeat (with_reducible refine ob ?_)); refine clO [0] qz0 (hn) ?_
  try (refine ev ?_; try exact True.intro)
 ·(repeat (with_reducible refine ob ?_)); refine yv ?_
  try simp only [hf, qj, go_sem, Nat.reduceAdd, Nat.reduceMul, Nat.reduceSub, Nat.reduceEqDiff, Nat.reduceLT, Nat.reduceLeDiff, Nat.reduceBEq, reduceIte, reduceCtorEq, Int.reduceAdd, Int.reduceLT, Int.reduceLE, Int.reduceGT, Int.reduceGE, Int.reduceEq, Int.reduceNe, Int.reduceBEq, Int.reduceBNe, Int.reduceToNat, Int.reduceNeg]
theorem qlf {r : Rd} {n : Nat} (h : (rNext n r).2.failed = true) : (rNext n r).1 = [] := by
 unfold rNext at h ⊢
 split
 ·rfl
 ·rename_i hn
  rw [if_neg hn] at h
  simp only [Bool.or_eq_true, not_or] at hn
  exact absurd h hn.1
theorem qra (c : UInt8) : decide (((c.toNat : Nat) : Int) > 1) = decide (c.toNat > 1) := decide_eq_decide.2 (by omega)
theorem qrb (c : UInt8) : (((c.toNat : Nat) : Int) == 1) = (c.toNat == 1) := by rw [Bool.eq_iff_iff]; simp; omega
theorem qny (r : Rd) (hr : r.Ok) : ACall Try.prog 114 [.d (.ptr 0 0)] [rdO r] (.d (.bool (rBool0 r).1)) [rdO (rBool0 r).2] := by
 have hc := qez r 1 hr (by decide)
 have h1 := qg3 (r := r)
 have h0 := qlf (r := r) (n := 1)
 refine q8s.go ?_
 try simp only [rdO, rBool0, Rd.fail, go_sem, Nat.reduceAdd, Nat.reduceMul, Nat.reduceSub, Nat.reduceEqDiff, Nat.reduceLT, Nat.reduceLeDiff, Nat.reduceBEq, reduceIte, reduceCtorEq, Int.reduceAdd, Int.reduceLT, Int.reduceLE, Int.reduceGT, Int.reduceGE, Int.reduceEq, Int.reduceNe, Int.reduceBEq, Int.reduceBNe, Int.reduceToNat, Int.reduceNeg]
 generalize rNext 1 r = x at hc h1 h0 ⊢
 obtain ⟨s, r1⟩ := x
 simp only [rdO] at hc
 try (refine ev ?_; try exact True.intro)
 (repeat (with_reducible refine ob ?_)); refine clO [0] qz0 (hc) ?_
 simp only at h1
 cases hf : r1.failed
 ·obtain ⟨c, rfl⟩ := h1 hf
  have hcb : byteRows [c] = [[.int .u8 (c.toNat : Nat)]] := rfl
  try simp only [hcb, List.headD_cons, go_sem, Nat.reduceAdd, Nat.reduceMul, Nat.reduceSub, Nat.reduceEqDiff, Nat.reduceLT, Nat.reduceLeDiff, Nat.reduceBEq, reduceIte, reduceCtorEq, Int.reduceAdd, Int.reduceLT, Int.reduceLE, Int.reduceGT, Int.reduceGE, Int.reduceEq, Int.reduceNe, Int.reduceBEq, Int.reduceBNe, Int.reduceToNat, Int.reduceNeg]
  exact ⟨by rw [qra, qrb]; rfl, qra c⟩
 ·have hs := h0 hf
  simp only at hs
  subst hs
  try simp only [qj, List.getD_nil, go_sem, Nat.reduceAdd, Nat.reduceMul, Nat.reduceSub, Nat.reduceEqDiff, Nat.reduceLT, Nat.reduceLeDiff, Nat.reduceBEq, reduceIte, reduceCtorEq, Int.reduceAdd, Int.reduceLT, Int.reduceLE, Int.reduceGT, Int.reduceGE, Int.reduceEq, Int.reduceNe, Int.reduceBEq, Int.reduceBNe, Int.reduceToNat, Int.reduceNeg]
theorem qiy (r : Rd) (lo hi : Int) (hr : r.Ok) : ACall Try.prog 111 [.d (.ptr 1 0), .d (.ptr 2 0), .d (.ptr 3 0)] [rdO r, .row [.d (.ptr 0 0)], .row [.d (.int .i64 lo)], .row [.d (.int .i64 hi)]] (.d (.int .i64 (rBounded lo hi r).1)) [rdO (rBounded lo hi r).2, .row [.d (.ptr 0 0)], .row [.d (.int .i64 lo)], .row [.d (.int .i64 hi)]] := by
 have hc := qb3 r lo hi hr
 simp only [rdO] at hc
 refine q8t.go ?_
 try simp only [rdO, go_sem, Nat.reduceAdd, Nat.reduceMul, Nat.reduceSub, Nat.reduceEqDiff, Nat.reduceLT, Nat.reduceLeDiff, Nat.reduceBEq, reduceIte, reduceCtorEq, Int.reduceAdd, Int.reduceLT, Int.reduceLE, Int.reduceGT, Int.reduceGE, Int.reduceEq, Int.reduceNe, Int.reduceBEq, Int.reduceBNe, Int.reduceToNat, Int.reduceNeg]
 (repeat (with_reducible refine ob ?_)); refine clO [0] q56 (hc) ?_
 try (refine ev ?_; try exact True.intro)
theorem qnz (r : Rd) (most : Nat) (hr : r.Ok) (hm : most ≤ 1000000000) : ACall Try.prog 116 [.d (.ptr 1 0), .d (.ptr 2 0)] [rdO r, .row [.d (.ptr 0 0)], .row [.d (.int .i64 most)]] (.d (.sl 1 (byteRows (rBytes0 most r).1))) [rdO (rBytes0 most r).2, .row [.d (.ptr 0 0)], .row [.d (.int .i64 most)]] := by
 have hc := qle r most hr hm
 have hln := qix hr most
 simp only [rdO] at hc
 refine q8u.go ?_
 try simp only [rdO, go_sem, Nat.reduceAdd, Nat.reduceMul, Nat.reduceSub, Nat.reduceEqDiff, Nat.reduceLT, Nat.reduceLeDiff, Nat.reduceBEq, reduceIte, reduceCtorEq, Int.reduceAdd, Int.reduceLT, Int.reduceLE, Int.reduceGT, Int.reduceGE, Int.reduceEq, Int.reduceNe, Int.reduceBEq, Int.reduceBNe, Int.reduceToNat, Int.reduceNeg]
 (repeat (with_reducible refine ob ?_)); refine clO [0] q8r (hc) ?_
 try (refine ev ?_; try exact True.intro)
 omega
def rIntP := rPart (0 : Int) rInt
def rBoundedP (lo hi : Int) := rPart (0 : Int) (rBounded lo hi)
def rBoolP := rPart false rBool0
def rBytesP (most : Int) := rPart ([] : List UInt8) (rBytes0 most)
theorem qlg (r : Rd) (hr : r.Ok) : ACall Try.prog 105 [.d (.ptr 0 0), .d (.func (.func 106) [.ptr 0 0] [])] [rdO r] (.d (.int .i64 (rIntP r).1)) [rdO (rIntP r).2] := by
 have hc := qnw r hr
 unfold rIntP
 unfold rPart
 obtain ⟨b, p, f⟩ := r
 simp only [rdO] at hc
 refine qz1.go ?_
 try simp only [rdO, go_sem, Nat.reduceAdd, Nat.reduceMul, Nat.reduceSub, Nat.reduceEqDiff, Nat.reduceLT, Nat.reduceLeDiff, Nat.reduceBEq, reduceIte, reduceCtorEq, Int.reduceAdd, Int.reduceLT, Int.reduceLE, Int.reduceGT, Int.reduceGE, Int.reduceEq, Int.reduceNe, Int.reduceBEq, Int.reduceBNe, Int.reduceToNat, Int.reduceNeg]
 cases f
 ·try (refine ev ?_; try exact True.intro)
  (repeat (with_reducible refine ob ?_)); refine no_ ?_
  try (refine ev ?_; try exact True.intro)
  (repeat (with_reducible refine ob ?_)); refine clO [0] q55 (hc) ?_
  try (refine ev ?_; try exact True.intro)
  cases hf : (rInt ⟨b, p, false⟩).2.failed
  ·try (refine ev ?_; try exact True.intro)
   (repeat (with_reducible refine ob ?_)); refine no_ ?_
   try simp only [hf, if_false, go_sem, Nat.reduceAdd, Nat.reduceMul, Nat.reduceSub, Nat.reduceEqDiff, Nat.reduceLT, Nat.reduceLeDiff, Nat.reduceBEq, reduceIte, reduceCtorEq, Int.reduceAdd, Int.reduceLT, Int.reduceLE, Int.reduceGT, Int.reduceGE, Int.reduceEq, Int.reduceNe, Int.reduceBEq, Int.reduceBNe, Int.reduceToNat, Int.reduceNeg]
  ·try (refine ev ?_; try exact True.intro)
   (repeat (with_reducible refine ob ?_)); refine yv ?_
   try simp only [hf, go_sem, Nat.reduceAdd, Nat.reduceMul, Nat.reduceSub, Nat.reduceEqDiff, Nat.reduceLT, Nat.reduceLeDiff, Nat.reduceBEq, reduceIte, reduceCtorEq, Int.reduceAdd, Int.reduceLT, Int.reduceLE, Int.reduceGT, Int.reduceGE, Int.reduceEq, Int.reduceNe, Int.reduceBEq, Int.reduceBNe, Int.reduceToNat, Int.reduceNeg]
 ·try (refine ev ?_; try exact True.intro)
  (repeat (with_reducible refine ob ?_)); refine yv ?_
  try (refine ev ?_; try exact True.intro)
theorem qcp (r : Rd) (lo hi : Int) (hr : r.Ok) : ACall Try.prog 105 [.d (.ptr 0 0), .d (.func (.func 111) [] [.ptr 1 0, .ptr 2 0, .ptr 3 0])] [rdO r, .row [.d (.ptr 0 0)], .row [.d (.int .i64 lo)], .row [.d (.int .i64 hi)]] (.d (.int .i64 (rBoundedP lo hi r).1)) [rdO (rBoundedP lo hi r).2, .row [.d (.ptr 0 0)], .row [.d (.int .i64 lo)], .row [.d (.int .i64 hi)]] := by
 have hc := qiy r lo hi hr
 unfold rBoundedP
 unfold rPart
 obtain ⟨b, p, f⟩ := r
 simp only [rdO] at hc
 refine qz1.go ?_
 try simp only [rdO, go_sem, Nat.reduceAdd, Nat.reduceMul, Nat.reduceSub, Nat.reduceEqDiff, Nat.reduceLT, Nat.reduceLeDiff, Nat.reduceBEq, reduceIte, reduceCtorEq, Int.reduceAdd, Int.reduceLT, Int.reduceLE, Int.reduceGT, Int.reduceGE, Int.reduceEq, Int.reduceNe, Int.reduceBEq, Int.reduceBNe, Int.reduceToNat, Int.reduceNeg]
 cases f
 ·try (refine ev ?_; try exact True.intro)
  (repeat (with_reducible refine ob ?_)); refine no_ ?_
  try (refine ev ?_; try exact True.intro)
  (repeat (with_reducible refine ob ?_)); refine clO [0, 1, 2, 3] q8t (hc) ?_
  try (refine ev ?_; try exact True.intro)
  cases hf : (rBounded lo hi ⟨b, p, false⟩).2.failed
  ·try (refine ev ?_; try exact True.intro)
   (repeat (with_reducible refine ob ?_)); refine no_ ?_
   try simp only [hf, if_false, go_sem, Nat.reduceAdd, Nat.reduceMul, Nat.reduceSub, Nat.reduceEqDiff, Nat.reduceLT, Nat.reduceLeDiff, Nat.reduceBEq, reduceIte, reduceCtorEq, Int.reduceAdd, Int.reduceLT, Int.reduceLE, Int.reduceGT, Int.reduceGE, Int.reduceEq, Int.reduceNe, Int.reduceBEq, Int.reduceBNe, Int.reduceToNat, Int.reduceNeg]
  ·try (refine ev ?_; try exact True.intro)
   (repeat (with_reducible refine ob ?_)); refine yv ?_
   try simp only [hf, go_sem, Nat.reduceAdd, Nat.reduceMul, Nat.reduceSub, Nat.reduceEqDiff, Nat.reduceLT, Nat.reduceLeDiff, Nat.reduceBEq, reduceIte, reduceCtorEq, Int.reduceAdd, Int.reduceLT, Int.reduceLE, Int.reduceGT, Int.reduceGE, Int.reduceEq, Int.reduceNe, Int.reduceBEq, Int.reduceBNe, Int.reduceToNat, Int.reduceNeg]
 ·try (refine ev ?_; try exact True.intro)
  (repeat (with_reducible refine ob ?_)); refine yv ?_
  try (refine ev ?_; try exact True.intro)
theorem qiz (r : Rd) (hr : r.Ok) : ACall Try.prog 113 [.d (.ptr 0 0), .d (.func (.func 114) [.ptr 0 0] [])] [rdO r] (.d (.bool (rBoolP r).1)) [rdO (rBoolP r).2] := by
 have hc := qny r hr
 unfold rBoolP
 unfold rPart
 obtain ⟨b, p, f⟩ := r
 simp only [rdO] at hc
 refine q8v.go ?_
 try simp only [rdO, go_sem, Nat.reduceAdd, Nat.reduceMul, Nat.reduceSub, Nat.reduceEqDiff, Nat.reduceLT, Nat.reduceLeDiff, Nat.reduceBEq, reduceIte, reduceCtorEq, Int.reduceAdd, Int.reduceLT, Int.reduceLE, Int.reduceGT, Int.reduceGE, Int.reduceEq, Int.reduceNe, Int.reduceBEq, Int.reduceBNe, Int.reduceToNat, Int.reduceNeg]
 cases f
 ·try (refine ev ?_; try exact True.intro)
  (repeat (with_reducible refine ob ?_)); refine no_ ?_
  try (refine ev ?_; try exact True.intro)
  (repeat (with_reducible refine ob ?_)); refine clO [0] q8s (hc) ?_
  try (refine ev ?_; try exact True.intro)
  cases hf : (rBool0 ⟨b, p, false⟩).2.failed
  ·try (refine ev ?_; try exact True.intro)
   (repeat (with_reducible refine ob ?_)); refine no_ ?_
   try simp only [hf, if_false, go_sem, Nat.reduceAdd, Nat.reduceMul, Nat.reduceSub, Nat.reduceEqDiff, Nat.reduceLT, Nat.reduceLeDiff, Nat.reduceBEq, reduceIte, reduceCtorEq, Int.reduceAdd, Int.reduceLT, Int.reduceLE, Int.reduceGT, Int.reduceGE, Int.reduceEq, Int.reduceNe, Int.reduceBEq, Int.reduceBNe, Int.reduceToNat, Int.reduceNeg]
  ·try (refine ev ?_; try exact True.intro)
   (repeat (with_reducible refine ob ?_)); refine yv ?_
   try simp only [hf, go_sem, Nat.reduceAdd, Nat.reduceMul, Nat.reduceSub, Nat.reduceEqDiff, Nat.reduceLT, Nat.reduceLeDiff, Nat.reduceBEq, reduceIte, reduceCtorEq, Int.reduceAdd, Int.reduceLT, Int.reduceLE, Int.reduceGT, Int.reduceGE, Int.reduceEq, Int.reduceNe, Int.reduceBEq, Int.reduceBNe, Int.reduceToNat, Int.reduceNeg]
 ·try (refine ev ?_; try exact True.intro)
  (repeat (with_reducible refine ob ?_)); refine yv ?_
  try (refine ev ?_; try exact True.intro)
theorem qg6 (r : Rd) (most : Nat) (hr : r.Ok) (hm : most ≤ 1000000000) : ACall Try.prog 115 [.d (.ptr 0 0), .d (.func (.func 116) [] [.ptr 1 0, .ptr 2 0])] [rdO r, .row [.d (.ptr 0 0)], .row [.d (.int .i64 most)]] (.d (.sl 1 (byteRows (rBytesP most r).1))) [rdO (rBytesP most r).2, .row [.d (.ptr 0 0)], .row [.d (.int .i64 most)]] := by
 have hc := qnz r most hr hm
 unfold rBytesP
 unfold rPart
 obtain ⟨b, p, f⟩ := r
 simp only [rdO] at hc
 refine q8w.go ?_
 try simp only [rdO, go_sem, Nat.reduceAdd, Nat.reduceMul, Nat.reduceSub, Nat.reduceEqDiff, Nat.reduceLT, Nat.reduceLeDiff, Nat.reduceBEq, reduceIte, reduceCtorEq, Int.reduceAdd, Int.reduceLT, Int.reduceLE, Int.reduceGT, Int.reduceGE, Int.reduceEq, Int.reduceNe, Int.reduceBEq, Int.reduceBNe, Int.reduceToNat, Int.reduceNeg]
 cases f
 ·try (refine ev ?_; try exact True.intro)
  (repeat (with_reducible refine ob ?_)); refine no_ ?_
  try (refine ev ?_; try exact True.intro)
  (repeat (with_reducible refine ob ?_)); refine clO [0, 1, 2] q8u (hc) ?_
  try (refine ev ?_; try exact True.intro)
  cases hf : (rBytes0 most ⟨b, p, false⟩).2.failed
  ·try (refine ev ?_; try exact True.intro)
   (repeat (with_reducible refine ob ?_)); refine no_ ?_
   try simp only [hf, if_false, go_sem, Nat.reduceAdd, Nat.reduceMul, Nat.reduceSub, Nat.reduceEqDiff, Nat.reduceLT, Nat.reduceLeDiff, Nat.reduceBEq, reduceIte, reduceCtorEq, Int.reduceAdd, Int.reduceLT, Int.reduceLE, Int.reduceGT, Int.reduceGE, Int.reduceEq, Int.reduceNe, Int.reduceBEq, Int.reduceBNe, Int.reduceToNat, Int.reduceNeg]
  ·try (refine ev ?_; try exact True.intro)
   (repeat (with_reducible refine ob ?_)); refine yv ?_
   try simp only [hf, go_sem, Nat.reduceAdd, Nat.reduceMul, Nat.reduceSub, Nat.reduceEqDiff, Nat.reduceLT, Nat.reduceLeDiff, Nat.reduceBEq, reduceIte, reduceCtorEq, Int.reduceAdd, Int.reduceLT, Int.reduceLE, Int.reduceGT, Int.reduceGE, Int.reduceEq, Int.reduceNe, Int.reduceBEq, Int.reduceBNe, Int.reduceToNat, Int.reduceNeg]
 ·try (refine ev ?_; try exact True.intro)
  (repeat (with_reducible refine ob ?_)); refine yv ?_
  try (refine ev ?_; try exact True.intro)
theorem qz2 (r : Rd) (hr : r.Ok) : ACall Try.prog 62 [.d (.ptr 0 0)] [rdO r] (.d (.int .i64 (rIntP r).1)) [rdO (rIntP r).2] := by
 have hc := qlg r hr
 simp only [rdO] at hc
 refine F62.go ?_
 try simp only [rdO, go_sem, Nat.reduceAdd, Nat.reduceMul, Nat.reduceSub, Nat.reduceEqDiff, Nat.reduceLT, Nat.reduceLeDiff, Nat.reduceBEq, reduceIte, reduceCtorEq, Int.reduceAdd, Int.reduceLT, Int.reduceLE, Int.reduceGT, Int.reduceGE, Int.reduceEq, Int.reduceNe, Int.reduceBEq, Int.reduceBNe, Int.reduceToNat, Int.reduceNeg]
 (repeat (with_reducible refine ob ?_)); refine clO [0] qz1 (hc) ?_
 try (refine ev ?_; try exact True.intro)
theorem qg7 (r : Rd) (lo hi : Int) (hr : r.Ok) : ACall Try.prog 80 [.d (.ptr 0 0), .d (.int .i64 lo), .d (.int .i64 hi)] [rdO r] (.d (.int .i64 (rBoundedP lo hi r).1)) [rdO (rBoundedP lo hi r).2] := by
 have hc := qcp r lo hi hr
 simp only [rdO] at hc
 refine F80.go ?_
 try simp only [rdO, go_sem, Nat.reduceAdd, Nat.reduceMul, Nat.reduceSub, Nat.reduceEqDiff, Nat.reduceLT, Nat.reduceLeDiff, Nat.reduceBEq, reduceIte, reduceCtorEq, Int.reduceAdd, Int.reduceLT, Int.reduceLE, Int.reduceGT, Int.reduceGE, Int.reduceEq, Int.reduceNe, Int.reduceBEq, Int.reduceBNe, Int.reduceToNat, Int.reduceNeg]
 refine clO [0, 1, 2, 3] qz1 hc ?_
 try (refine ev ?_; try exact True.intro)
theorem qn0 (r : Rd) (hr : r.Ok) : ACall Try.prog 82 [.d (.ptr 0 0)] [rdO r] (.d (.bool (rBoolP r).1)) [rdO (rBoolP r).2] := by
 have hc := qiz r hr
 simp only [rdO] at hc
 refine F82.go ?_
 try simp only [rdO, go_sem, Nat.reduceAdd, Nat.reduceMul, Nat.reduceSub, Nat.reduceEqDiff, Nat.reduceLT, Nat.reduceLeDiff, Nat.reduceBEq, reduceIte, reduceCtorEq, Int.reduceAdd, Int.reduceLT, Int.reduceLE, Int.reduceGT, Int.reduceGE, Int.reduceEq, Int.reduceNe, Int.reduceBEq, Int.reduceBNe, Int.reduceToNat, Int.reduceNeg]
 (repeat (with_reducible refine ob ?_)); refine clO [0] q8v (hc) ?_
 try (refine ev ?_; try exact True.intro)
theorem qdq (r : Rd) (most : Nat) (hr : r.Ok) (hm : most ≤ 1000000000) : ACall Try.prog 83 [.d (.ptr 0 0), .d (.int .i64 most)] [rdO r] (.d (.sl 1 (byteRows (rBytesP most r).1))) [rdO (rBytesP most r).2] := by
 have hc := qg6 r most hr hm
 simp only [rdO] at hc
 refine F83.go ?_
 try simp only [rdO, go_sem, Nat.reduceAdd, Nat.reduceMul, Nat.reduceSub, Nat.reduceEqDiff, Nat.reduceLT, Nat.reduceLeDiff, Nat.reduceBEq, reduceIte, reduceCtorEq, Int.reduceAdd, Int.reduceLT, Int.reduceLE, Int.reduceGT, Int.reduceGE, Int.reduceEq, Int.reduceNe, Int.reduceBEq, Int.reduceBNe, Int.reduceToNat, Int.reduceNeg]
 refine clO [0, 1, 2] q8w hc ?_
 try (refine ev ?_; try exact True.intro)
theorem qn1 (r : Rd) (most : Nat) (hr : r.Ok) (hm : most ≤ 1000000000) : ACall Try.prog 81 [.d (.ptr 0 0), .d (.int .i64 most)] [rdO r] (.d (.str (rBytesP most r).1)) [rdO (rBytesP most r).2] := by
 have hc := qdq r most hr hm
 simp only [rdO] at hc
 refine F81.go ?_
 try simp only [rdO, go_sem, Nat.reduceAdd, Nat.reduceMul, Nat.reduceSub, Nat.reduceEqDiff, Nat.reduceLT, Nat.reduceLeDiff, Nat.reduceBEq, reduceIte, reduceCtorEq, Int.reduceAdd, Int.reduceLT, Int.reduceLE, Int.reduceGT, Int.reduceGE, Int.reduceEq, Int.reduceNe, Int.reduceBEq, Int.reduceBNe, Int.reduceToNat, Int.reduceNeg]
 (repeat (with_reducible refine ob ?_)); refine clO [0] F83 (hc) ?_
 try (refine ev ?_; try exact True.intro)
end Go.Proofs.Ytinnaedmdoengaa
namespace Go.Proofs.Ytinnaedmdoengaa
open Go.Abs
set_option linter.unusedSimpArgs false
set_option linter.unusedVariables false
theorem qyp {r : Rd} (h : r.Ok) : (rIntP r).2.Ok ∧ (rIntP r).2.b = r.b := yf h (qat h)
theorem kc {r : Rd} (h : r.Ok) (lo hi : Int) : (rBoundedP lo hi r).2.Ok ∧ (rBoundedP lo hi r).2.b = r.b := yf h (zc h lo hi)
theorem yz {r : Rd} (h : r.Ok) : (rBoolP r).2.Ok ∧ (rBoolP r).2.b = r.b := yf h (qdp h)
theorem ke {r : Rd} (h : r.Ok) (most : Int) : (rBytesP most r).2.Ok ∧ (rBytesP most r).2.b = r.b := yf h (qb2 h most)
theorem k9 (r : Rd) (lo hi : Int) : (rBoundedP lo hi r).1 = 0 ∨ (lo ≤ (rBoundedP lo hi r).1 ∧ (rBoundedP lo hi r).1 ≤ hi) := by
 unfold rBoundedP rPart
 split
 ·exact .inl rfl
 ·split
  ·exact .inl rfl
  ·rename_i h
   exact .inr (qb1 (by simpa using h))
def rOp (r : Rd) : OpS × Rd :=
 (⟨(rBytesP 40 r).1, (rBoolP (rBytesP 40 r).2).1, (rBytesP 900 (rBoolP (rBytesP 40 r).2).2).1⟩, (rBytesP 900 (rBoolP (rBytesP 40 r).2).2).2)
def rOpsA : Nat → Rd → List OpS × Rd
 | 0, r => ([], r)
 | n + 1, r => ((rOpsA n r).1 ++ [(rOp (rOpsA n r).2).1], (rOp (rOpsA n r).2).2)
theorem qst {r : Rd} (h : r.Ok) : (rOp r).2.Ok ∧ (rOp r).2.b = r.b := by
 have h1 := ke h 40
 have h2 := yz h1.1
 have h3 := ke h2.1 900
 exact ⟨h3.1, h3.2.trans (h2.2.trans h1.2)⟩
theorem va {r : Rd} (h : r.Ok) : ∀ n, (rOpsA n r).2.Ok ∧ (rOpsA n r).2.b = r.b ∧ (rOpsA n r).1.length = n
 | 0 => ⟨h, rfl, rfl⟩
 | n + 1 => by
  have ih := va h n
  have := qst ih.1
  exact ⟨this.1, this.2.trans ih.2.1, by simp only [rOpsA, List.length_append, ih.2.2, List.length_singleton]⟩
def decRd (b : List UInt8) : List OpS × Rd := rOpsA (rBoundedP 1 20 ⟨b, 0, false⟩).1.toNat (rBoundedP 1 20 ⟨b, 0, false⟩).2
def sDecode (b : List UInt8) : List OpS × Int := if rEnd (decRd b).2 ≠ 0 then ([], 4) else if (sEncode (decRd b).1).2 ≠ 0 then ([], 4) else ((decRd b).1, 0)
noncomputable section
set_option maxRecDepth 100000
def s32r0 : List SOper := [
 ⟨some 2, .mov (.k (.d .nilsl)), none⟩,
 ⟨some 3, .mov (.k (.d (.int .i64 0))), none⟩]
def s32r1 : List SOper := [
 ⟨some 10, .mov (.t 0), none⟩,
 ⟨some 11, .call (.k (.d (.func (.func 61) [] []))) [(.t 10)], none⟩,
 ⟨some 4, .mov (.t 11), none⟩]
def s32r2 : List SOper := [
 ⟨some 12, .mov (.t 4), none⟩,
 ⟨some 13, .call (.k (.d (.func (.func 80) [] []))) [(.t 12), (.k (.d (.int .i64 1))), (.k (.d (.int .i64 20)))], none⟩,
 ⟨some 5, .mov (.t 13), none⟩]
def s32r3 : List SOper := [
 ⟨some 6, .mov (.k (.d .nilsl)), none⟩]
def s32r4 : List SOper := [
 ⟨some 14, .mov (.t 5), none⟩,
 ⟨some 15, .mov (.k (.d (.int .i64 0))), none⟩]
def s32r5 : List SOper := [
 ⟨some 16, .bin .lss (.t 15) (.t 14), none⟩]
def s32r6 : List SOper := [
 ⟨some 17, .mov (.t 4), none⟩,
 ⟨some 18, .call (.k (.d (.func (.func 81) [] []))) [(.t 17), (.k (.d (.int .i64 40)))], none⟩,
 ⟨some 19, .build [(.str []), (.bool false), .nilsl] [(0, 1, (.t 18))], none⟩,
 ⟨some 7, .alloc 1 [(.d (.str [])), (.d (.bool false)), (.d .nilsl)], none⟩,
 ⟨none, .store (some 3) (.t 7) (.t 19), none⟩]
def s32r7 : List SOper := [
 ⟨some 20, .mov (.t 4), none⟩,
 ⟨some 21, .call (.k (.d (.func (.func 82) [] []))) [(.t 20)], none⟩,
 ⟨some 22, .faddr 1 (.t 7), none⟩,
 ⟨none, .store none (.t 22) (.t 21), none⟩]
def s32r8 : List SOper := [
 ⟨some 23, .mov (.t 4), none⟩,
 ⟨some 24, .call (.k (.d (.func (.func 83) [] []))) [(.t 23), (.k (.d (.int .i64 900)))], none⟩,
 ⟨some 25, .faddr 2 (.t 7), none⟩,
 ⟨none, .store none (.t 25) (.t 24), none⟩]
def s32r9 : List SOper := [
 ⟨some 26, .mov (.t 6), none⟩,
 ⟨some 27, .load (some 3) (.t 7), none⟩,
 ⟨some 28, .buildSlice false 3 1 [(.str []), (.bool false), .nilsl] [(0, 3, (.t 27))], none⟩,
 ⟨some 29, .append false 3 48 (.t 26) (.t 28), none⟩,
 ⟨some 6, .mov (.t 29), none⟩]
def s32r10 : List SOper := [
 ⟨some 30, .bin .add (.t 15) (.k (.d (.int .i64 1))), none⟩,
 ⟨some 15, .mov (.t 30), none⟩]
def s32l11 : SCode := (.seq (.region s32r5 0 []) (.seq (.cond (.t 16) .skip (.exit 0)) (.seq (.block 1 (.seq (.region s32r6 1 []) (.seq (.region s32r7 0 []) (.seq (.region s32r8 0 []) (.region s32r9 0 []))))) (.region s32r10 0 []))))
theorem qyq : CodeIs s32l11.eq_1 := qc s32l11.eq_1
def s32r12 : List SOper := [
 ⟨some 31, .mov (.t 4), none⟩,
 ⟨some 32, .call (.k (.d (.func (.func 84) [] []))) [(.t 31)], none⟩,
 ⟨some 33, .bin .neq (.t 32) (.k (.d (.int .i64 0))), none⟩]
def s32r13 : List SOper := [
 ⟨some 2, .mov (.k (.d .nilsl)), none⟩,
 ⟨some 3, .mov (.k (.d (.int .i64 4))), none⟩]
def s32r14 : List SOper := [
 ⟨some 35, .mov (.t 6), none⟩,
 ⟨some 36, .call (.k (.d (.func (.func 30) [] []))) [(.t 35)], none⟩,
 ⟨some 34, .mov (.t 36), none⟩,
 ⟨some 37, .extract 0 (.t 34), none⟩,
 ⟨some 38, .extract 1 (.t 34), none⟩,
 ⟨some 8, .mov (.t 37), none⟩,
 ⟨some 9, .mov (.t 38), none⟩]
def s32r15 : List SOper := [
 ⟨some 39, .mov (.t 9), none⟩,
 ⟨some 40, .bin .neq (.t 39) (.k (.d (.int .i64 0))), none⟩]
def s32r16 : List SOper := [
 ⟨some 2, .mov (.k (.d .nilsl)), none⟩,
 ⟨some 3, .mov (.k (.d (.int .i64 4))), none⟩]
def s32r17 : List SOper := [
 ⟨some 41, .mov (.t 6), none⟩,
 ⟨some 2, .mov (.t 41), none⟩,
 ⟨some 3, .mov (.k (.d (.int .i64 0))), none⟩]
def s32 : SCode := (.seq (.region s32r0 0 []) (.seq (.region s32r1 1 []) (.seq (.region s32r2 0 []) (.seq (.region s32r3 0 []) (.seq (.seq (.region s32r4 0 []) (.block 0 (.loop s32l11))) (.seq (.seq (.region s32r12 0 []) (.cond (.t 33) (.seq (.region s32r13 0 []) .ret) .skip)) (.seq (.seq (.region s32r14 0 []) (.seq (.region s32r15 0 []) (.cond (.t 40) (.seq (.region s32r16 0 []) .ret) .skip))) (.seq (.region s32r17 0 []) .ret))))))))
theorem e32 : CodeIs s32.eq_1 := qc s32.eq_1
theorem q6h : RegIs s32r0.eq_1 := qa
theorem q6i : RegIs s32r1.eq_1 := qa
theorem q6j : RegIs s32r2.eq_1 := qa
theorem q6k : RegIs s32r3.eq_1 := qa
theorem q6l : RegIs s32r4.eq_1 := qa
theorem q6m : RegIs s32r5.eq_1 := qa
theorem q6n : RegIs s32r6.eq_1 := qa
theorem q6o : RegIs s32r7.eq_1 := qa
theorem q6p : RegIs s32r8.eq_1 := qa
theorem q6q : RegIs s32r9.eq_1 := qa
theorem qyr : RegIs s32r10.eq_1 := qa
theorem qys : RegIs s32r12.eq_1 := qa
theorem qyt : RegIs s32r13.eq_1 := qa
theorem qyu : RegIs s32r14.eq_1 := qa
theorem qyv : RegIs s32r15.eq_1 := qa
theorem qyw : RegIs s32r16.eq_1 := qa
theorem qyx : RegIs s32r17.eq_1 := qa
attribute [go_sem] q6h q6i q6j q6k q6l q6m q6n q6o q6p q6q qyr qyq qys qyt qyu qyv qyw qyx e32
theorem F32 : FnIs Try.prog 32 Try.f32 [] news s32 [.tmp 2, .tmp 3] 42 := xa follows Try.func32
end
def Sdec (n : Nat) (r : Rd) (i : { i : Nat // i ≤ n }) : St :=
 ⟨[(4, true, .d (.ptr 0 0)), (6, true, .own 0 3 ((rOpsA i.val r).1.map encOp)), (14, true, .d (.int .i64 (n : Nat))), (15, true, .d (.int .i64 (i.val : Nat)))], [rdO (rOpsA i.val r).2], [0], 1⟩
set_option maxRecDepth 10000 in
theorem vh (b : List UInt8) (hb : b.length ≤ 1000000000) : ACall Try.prog 32 [.d (.sl 1 (byteRows b))] [] (.tup [.d (.sl 3 ((sDecode b).1.map encOp)), .d (.int .i64 (sDecode b).2)]) [] := by
 have hnew := qqr b hb
 have hr0 : (⟨b, 0, false⟩ : Rd).Ok := ⟨hb, Nat.zero_le _⟩
 have hbd := qg7 ⟨b, 0, false⟩ 1 20 hr0
 have hin := k9 ⟨b, 0, false⟩ 1 20
 have hinv := (kc hr0 1 20).1
 unfold sDecode decRd
 generalize rBoundedP 1 20 ⟨b, 0, false⟩ = x at hbd hin hinv ⊢
 obtain ⟨n, r⟩ := x
 simp only at hin hinv
 have hn0 : n = ((n.toNat : Nat) : Int) := by omega
 generalize n.toNat = m at hn0
 subst hn0
 simp only [rdO] at hnew hbd
 refine F32.goT ?_
 try (refine ev ?_; try exact True.intro)
 (repeat (with_reducible refine ob ?_)); refine clO [0] F61 (hnew) ?_ (hfit := by first | exact ⟨qb, trivial⟩ | exact ⟨qb, qb, trivial⟩ | simp only [encOp, encEn, encStep, go_sem, Nat.reduceAdd, Nat.reduceMul, Nat.reduceSub, Nat.reduceEqDiff, Nat.reduceLT, Nat.reduceLeDiff, Nat.reduceBEq, reduceIte, reduceCtorEq, Int.reduceAdd, Int.reduceLT, Int.reduceLE, Int.reduceGT, Int.reduceGE, Int.reduceEq, Int.reduceNe, Int.reduceBEq, Int.reduceBNe, Int.reduceToNat, Int.reduceNeg])
 try (refine ev ?_; try exact True.intro)
 (repeat (with_reducible refine ob ?_)); refine clO [0] F80 (hbd) ?_ (hfit := by first | exact ⟨qb, trivial⟩ | exact ⟨qb, qb, trivial⟩ | simp only [encOp, encEn, encStep, go_sem, Nat.reduceAdd, Nat.reduceMul, Nat.reduceSub, Nat.reduceEqDiff, Nat.reduceLT, Nat.reduceLeDiff, Nat.reduceBEq, reduceIte, reduceCtorEq, Int.reduceAdd, Int.reduceLT, Int.reduceLE, Int.reduceGT, Int.reduceGE, Int.reduceEq, Int.reduceNe, Int.reduceBEq, Int.reduceBNe, Int.reduceToNat, Int.reduceNeg])
 try (refine ev ?_; try exact True.intro)
 refine qn (Sdec m r) (fun i => m - i.val) ⟨0, Nat.zero_le _⟩ ?_ (fun i => ?_)
 ·try simp only [Sdec, rdO, rOpsA, List.map_nil, Int.ofNat_zero, go_sem, Nat.reduceAdd, Nat.reduceMul, Nat.reduceSub, Nat.reduceEqDiff, Nat.reduceLT, Nat.reduceLeDiff, Nat.reduceBEq, reduceIte, reduceCtorEq, Int.reduceAdd, Int.reduceLT, Int.reduceLE, Int.reduceGT, Int.reduceGE, Int.reduceEq, Int.reduceNe, Int.reduceBEq, Int.reduceBNe, Int.reduceToNat, Int.reduceNeg]
 obtain ⟨i, hi⟩ := i
 have hri := va hinv i
 try simp only [Sdec, rdO, go_sem, Nat.reduceAdd, Nat.reduceMul, Nat.reduceSub, Nat.reduceEqDiff, Nat.reduceLT, Nat.reduceLeDiff, Nat.reduceBEq, reduceIte, reduceCtorEq, Int.reduceAdd, Int.reduceLT, Int.reduceLE, Int.reduceGT, Int.reduceGE, Int.reduceEq, Int.reduceNe, Int.reduceBEq, Int.reduceBNe, Int.reduceToNat, Int.reduceNeg]
 (repeat (with_reducible refine ob ?_)); refine zb _ (fun h => ?_) (fun h => ?_)
 ·have hil : i < m := by simp at h; omega
  have hT := qn1 (rOpsA i r).2 40 hri.1 (by decide)
  have hiT := ke hri.1 40
  have hB := qn0 _ hiT.1
  have hiB := yz hiT.1
  have hV := qdq _ 900 hiB.1 (by decide)
  simp only [rdO] at hT hB hV
  try (refine ev ?_; try exact True.intro)
  (repeat (with_reducible refine ob ?_)); refine clO [0] F81 (hT) ?_ (hfit := by first | exact ⟨qb, trivial⟩ | exact ⟨qb, qb, trivial⟩ | simp only [encOp, encEn, encStep, go_sem, Nat.reduceAdd, Nat.reduceMul, Nat.reduceSub, Nat.reduceEqDiff, Nat.reduceLT, Nat.reduceLeDiff, Nat.reduceBEq, reduceIte, reduceCtorEq, Int.reduceAdd, Int.reduceLT, Int.reduceLE, Int.reduceGT, Int.reduceGE, Int.reduceEq, Int.reduceNe, Int.reduceBEq, Int.reduceBNe, Int.reduceToNat, Int.reduceNeg])
  try (refine ev ?_; try exact True.intro)
  (repeat (with_reducible refine ob ?_)); refine clO [0] F82 (hB) ?_ (hfit := by first | exact ⟨qb, trivial⟩ | exact ⟨qb, qb, trivial⟩ | simp only [encOp, encEn, encStep, go_sem, Nat.reduceAdd, Nat.reduceMul, Nat.reduceSub, Nat.reduceEqDiff, Nat.reduceLT, Nat.reduceLeDiff, Nat.reduceBEq, reduceIte, reduceCtorEq, Int.reduceAdd, Int.reduceLT, Int.reduceLE, Int.reduceGT, Int.reduceGE, Int.reduceEq, Int.reduceNe, Int.reduceBEq, Int.reduceBNe, Int.reduceToNat, Int.reduceNeg])
  try (refine ev ?_; try exact True.intro)
  (repeat (with_reducible refine ob ?_)); refine clO [0] F83 (hV) ?_ (hfit := by first | exact ⟨qb, trivial⟩ | exact ⟨qb, qb, trivial⟩ | simp only [encOp, encEn, encStep, go_sem, Nat.reduceAdd, Nat.reduceMul, Nat.reduceSub, Nat.reduceEqDiff, Nat.reduceLT, Nat.reduceLeDiff, Nat.reduceBEq, reduceIte, reduceCtorEq, Int.reduceAdd, Int.reduceLT, Int.reduceLE, Int.reduceGT, Int.reduceGE, Int.reduceEq, Int.reduceNe, Int.reduceBEq, Int.reduceBNe, Int.reduceToNat, Int.reduceNeg])
  try (refine ev ?_; try exact True.intro)
  (repeat (with_reducible refine ob ?_))
  refine ⟨⟨i + 1, hil⟩, ?_, by dsimp only; omega⟩
  try simp only [Sdec, rdO, rOpsA, rOp, List.map_append, List.map_cons, List.map_nil, encOp, ql (show i < 9223372036854775807 by omega), go_sem, Nat.reduceAdd, Nat.reduceMul, Nat.reduceSub, Nat.reduceEqDiff, Nat.reduceLT, Nat.reduceLeDiff, Nat.reduceBEq, reduceIte, reduceCtorEq, Int.reduceAdd, Int.reduceLT, Int.reduceLE, Int.reduceGT, Int.reduceGE, Int.reduceEq, Int.reduceNe, Int.reduceBEq, Int.reduceBNe, Int.reduceToNat, Int.reduceNeg]
 ·have hil : i = m := by simp at h; omega
  subst hil
  have hE := qsm (rOpsA i r).2 hri.1
  simp only [rdO] at hE
  try (refine ev ?_; try exact True.intro)
  (repeat (with_reducible refine ob ?_)); refine clO [0] F84 (hE) ?_ (hfit := by first | exact ⟨qb, trivial⟩ | exact ⟨qb, qb, trivial⟩ | simp only [encOp, encEn, encStep, go_sem, Nat.reduceAdd, Nat.reduceMul, Nat.reduceSub, Nat.reduceEqDiff, Nat.reduceLT, Nat.reduceLeDiff, Nat.reduceBEq, reduceIte, reduceCtorEq, Int.reduceAdd, Int.reduceLT, Int.reduceLE, Int.reduceGT, Int.reduceGE, Int.reduceEq, Int.reduceNe, Int.reduceBEq, Int.reduceBNe, Int.reduceToNat, Int.reduceNeg])
  try (refine ev ?_; try exact True.intro)
  refine zb _ (fun h => ?_) (fun h => ?_)
  ·rw [if_pos (show rEnd (rOpsA i r).2 ≠ 0 by simpa using h)]
   try (refine ev ?_; try exact True.intro)
  ·rw [if_neg (show ¬ rEnd (rOpsA i r).2 ≠ 0 by simpa using h)]
   try (refine ev ?_; try exact True.intro)
   (repeat (with_reducible refine ob ?_)); first | refine cl F30 (xw (rOpsA i r).1 (by omega)) ?_ | refine clF F30 (xw (rOpsA i r).1 (by omega)) (fun _ => by simp only [encOp, encEn, encStep, go_sem, Nat.reduceAdd, Nat.reduceMul, Nat.reduceSub, Nat.reduceEqDiff, Nat.reduceLT, Nat.reduceLeDiff, Nat.reduceBEq, reduceIte, reduceCtorEq, Int.reduceAdd, Int.reduceLT, Int.reduceLE, Int.reduceGT, Int.reduceGE, Int.reduceEq, Int.reduceNe, Int.reduceBEq, Int.reduceBNe, Int.reduceToNat, Int.reduceNeg]) ?_
   try (refine ev ?_; try exact True.intro)
   refine zb _ (fun h => ?_) (fun h => ?_)
   ·rw [if_pos (show (sEncode (rOpsA i r).1).2 ≠ 0 by simpa using h)]
    try (refine ev ?_; try exact True.intro)
   ·rw [if_neg (show ¬ (sEncode (rOpsA i r).1).2 ≠ 0 by simpa using h)]
    try (refine ev ?_; try exact True.intro)
end Go.Proofs.Ytinnaedmdoengaa
namespace Go.Proofs.Ytinnaedmdoengaa
open Go.Abs
set_option linter.unusedSimpArgs false
set_option linter.unusedVariables false
def dG : Nat → Nat → Nat → List UInt8 → Option (Int × List UInt8)
 | 0, _, _, _ => none
 | _ + 1, _, _, [] => none
 | k + 1, j, u, c :: l =>
  if c.toNat < 128 then (if ((c.toNat == 0 && decide (0 < j)) || (decide (j = 9) && decide (c.toNat > 1))) = true then none else some (unz (u + c.toNat * 128 ^ j), l))
  else dG k (j + 1) (u + c.toNat % 128 * 128 ^ j) l
def dInt (l : List UInt8) : Option (Int × List UInt8) := dG 10 0 0 l
def Got {α : Type} (o : Option (α × List UInt8)) (b : List UInt8) (x : α × Rd) : Prop := match o with
 | some (v, l) => x = (v, ⟨b, b.length - l.length, false⟩)
 | none => x.2.failed = true
def Reads {α : Type} (z : α) (f : Rd → α × Rd) (d : List UInt8 → Option (α × List UInt8)) : Prop :=
 ∀ r : Rd, r.Ok → f r = if r.failed = true then (z, r) else match d (r.b.drop r.pos) with
  | some (v, l) => (v, ⟨r.b, r.b.length - l.length, false⟩)
  | none => (z, ⟨r.b, r.pos, true⟩)
def Tails {α : Type} (d : List UInt8 → Option (α × List UInt8)) : Prop := ∀ l0 v l, d l0 = some (v, l) → ∃ p, l0 = p ++ l
theorem jp {b : List UInt8} {p : Nat} {q l : List UInt8} (hp : p ≤ b.length) (h : b.drop p = q ++ l) : b.drop (b.length - l.length) = l ∧ l.length ≤ b.length := by
 have h1 := congrArg List.length h
 simp only [List.length_drop, List.length_append] at h1
 have h2 : b.drop (p + q.length) = l := by rw [← List.drop_drop, h, List.drop_left]
 have e : b.length - l.length = p + q.length := by omega
 rw [e]; exact ⟨h2, by omega⟩
theorem qn2 : ∀ (k j u : Nat) {l0 : List UInt8} {v : Int} {l : List UInt8}, dG k j u l0 = some (v, l) → ∃ p, l0 = p ++ l
 | 0, _, _, _, _, _, h => by simp [dG] at h
 | k + 1, j, u, [], _, _, h => by simp [dG] at h
 | k + 1, j, u, c :: l0, v, l, h => by
  rw [dG] at h
  split at h
  ·split at h
   ·cases h
   ·cases h; exact ⟨[c], rfl⟩
  ·obtain ⟨p, rfl⟩ := qn2 k (j + 1) _ h
   exact ⟨c :: p, rfl⟩
theorem qn3 : Tails dInt := fun _ _ _ h => qn2 10 0 0 h
theorem qdr {r : Rd} (hr : r.Ok) (hf : r.failed = false) {c : UInt8} {l : List UInt8} (h : r.b.drop r.pos = c :: l) : rNext 1 r = ([c], ⟨r.b, r.pos + 1, false⟩) ∧ r.b.drop (r.pos + 1) = l := by
 have hl := congrArg List.length h
 simp only [List.length_drop, List.length_cons] at hl
 have h2 : r.b.drop (r.pos + 1) = l := by rw [← List.drop_drop, h]; rfl
 refine ⟨?_, h2⟩
 unfold rNext
 rw [if_neg (by simp [hf]; omega), h, hf]; rfl
theorem qg8 {r : Rd} (hf : r.failed = false) (h : r.b.drop r.pos = []) : rNext 1 r = ([], ⟨r.b, r.pos, true⟩) := by
 have hl := congrArg List.length h
 simp only [List.length_drop, List.length_nil] at hl
 unfold rNext
 rw [if_pos (by simp [hf]; omega)]
theorem vb {j : Nat} (h : j ≤ 8) : 128 ^ (j + 1) ≤ 9223372036854775808 := by
 have h1 : 128 ^ (j + 1) ≤ 128 ^ 9 := Nat.pow_le_pow_right (by decide) (by omega)
 have h2 : (128 : Nat) ^ 9 = 9223372036854775808 := by decide
 omega
theorem qn4 : ∀ (k j u : Nat) {r : Rd}, j + k = 10 → u < 128 ^ j → r.Ok → r.failed = false →
  Got (dG k j u (r.b.drop r.pos)) r.b (rIntG k j u r)
 | 0, j, u, r, _, _, _, _ => by simp only [Got, dG, rIntG]
 | k + 1, j, u, r, hj, hu, hr, hf => by
  cases hd : r.b.drop r.pos with
  | nil =>
   simp only [dG]
   rw [rIntG, qg8 hf hd, if_pos rfl]
   exact (rfl : true = true)
  | cons c l =>
   obtain ⟨h1, h2⟩ := qdr hr hf hd
   have hlt := k7 c
   have hlen := congrArg List.length hd
   simp only [List.length_drop, List.length_cons] at hlen
   rw [rIntG, h1, dG]
   simp only [Bool.false_eq_true, if_false, List.headD_cons]
   by_cases hc : c.toNat < 128
   ·simp only [hc, if_true]
    by_cases hb : ((c.toNat == 0 && decide (0 < j)) || (decide (j = 9) && decide (c.toNat > 1))) = true
    ·rw [if_pos hb]
     exact hb
    ·rw [if_neg hb]
     simp only [Bool.not_eq_true] at hb
     have hm : c.toNat % 128 = c.toNat := Nat.mod_eq_of_lt hc
     have hs : u + c.toNat * 128 ^ j < 18446744073709551616 := by
      rcases Nat.lt_or_ge j 9 with h9 | h9
      ·have hp := vb (j := j) (by omega)
       rw [Nat.pow_succ] at hp
       have : c.toNat * 128 ^ j ≤ 127 * 128 ^ j := Nat.mul_le_mul_right _ (by omega)
       omega
      ·have : j = 9 := by omega
       subst this
       simp at hb
       have e : (128 : Nat) ^ 9 = 9223372036854775808 := by decide
       rw [e] at hu ⊢
       omega
     rw [hm, Nat.mod_eq_of_lt hs]
     simp only [Got, Prod.mk.injEq, Rd.mk.injEq]
     exact ⟨trivial, trivial, by omega, hb⟩
   ·simp only [hc, if_false]
    cases k with
    | zero => simp only [Got, dG, rIntG]
    | succ k =>
     have hp := vb (j := j) (by omega)
     have hu2 : u + c.toNat % 128 * 128 ^ j < 128 ^ (j + 1) := by
      have h3 : c.toNat % 128 * 128 ^ j ≤ 127 * 128 ^ j := Nat.mul_le_mul_right _ (by omega)
      rw [Nat.pow_succ]
      omega
     rw [Nat.mod_eq_of_lt (show u + c.toNat % 128 * 128 ^ j < 18446744073709551616 by omega)]
     have ih := qn4 (k + 1) (j + 1) (u + c.toNat % 128 * 128 ^ j) (r := ⟨r.b, r.pos + 1, false⟩) (by omega) hu2 ⟨hr.len, by have := hr.pos; simp only; omega⟩ rfl
     rw [show (⟨r.b, r.pos + 1, false⟩ : Rd).b.drop (⟨r.b, r.pos + 1, false⟩ : Rd).pos = l from h2] at ih
     exact ih
theorem qrc {r : Rd} (hr : r.Ok) (hf : r.failed = false) : Got (dInt (r.b.drop r.pos)) r.b (rInt r) := qn4 10 0 0 rfl (by decide) hr hf
theorem vi {α : Type} {z : α} {f : Rd → α × Rd} {d : List UInt8 → Option (α × List UInt8)} (hi : ∀ r : Rd, r.Ok → (f r).2.b = r.b)
  (h : ∀ r : Rd, r.Ok → r.failed = false → Got (d (r.b.drop r.pos)) r.b (f r)) : Reads z (rPart z f) d := by
 intro r hr
 unfold rPart
 by_cases hf : r.failed = true
 ·rw [if_pos hf, if_pos hf]
 ·rw [if_neg hf, if_neg hf]
  have := h r hr (by simpa using hf)
  cases hd : d (r.b.drop r.pos) with
  | none =>
   rw [hd] at this
   simp only [Got] at this
   rw [if_pos this, hi r hr, this]
  | some x =>
   obtain ⟨v, l⟩ := x
   rw [hd] at this
   simp only [Got] at this
   rw [this, if_neg (by simp)]
theorem qn5 : Reads 0 rIntP dInt := vi (fun r hr => (qat hr).2) (fun r hr hf => qrc hr hf)
def dBounded (lo hi : Int) (l0 : List UInt8) : Option (Int × List UInt8) := match dInt l0 with
 | some (n, l) => if n < lo ∨ n > hi then none else some (n, l)
 | none => none
theorem zk (lo hi : Int) : Tails (dBounded lo hi) := by
 intro l0 v l h
 unfold dBounded at h
 split at h
 ·rename_i hd
  split at h
  ·cases h
  ·cases h; exact qn3 _ _ _ hd
 ·cases h
theorem qds (lo hi : Int) {r : Rd} (hr : r.Ok) (hf : r.failed = false) : Got (dBounded lo hi (r.b.drop r.pos)) r.b (rBounded lo hi r) := by
 have h := qrc hr hf
 unfold dBounded
 cases hd : dInt (r.b.drop r.pos) with
 | none =>
  rw [hd] at h
  simp only [Got] at h ⊢
  simp only [rBounded, Rd.fail, h, Bool.true_or]
 | some x =>
  obtain ⟨n, l⟩ := x
  rw [hd] at h
  simp only [Got] at h ⊢
  by_cases hn : n < lo ∨ n > hi
  ·rw [if_pos hn]
   simp only [rBounded, Rd.fail, h, Bool.false_or]
   simpa using hn
  ·rw [if_neg hn]
   simp only [rBounded, Rd.fail, h, Bool.false_or]
   have : (decide (n < lo) || decide (n > hi)) = false := by simpa using hn
   rw [this]
theorem wg (lo hi : Int) : Reads 0 (rBoundedP lo hi) (dBounded lo hi) := vi (fun r hr => (zc hr lo hi).2) (fun r hr hf => qds lo hi hr hf)
def dBytes (most : Int) (l0 : List UInt8) : Option (List UInt8 × List UInt8) := match dBounded 0 most l0 with
 | some (n, l) => if l.length < n.toNat then none else some (l.take n.toNat, l.drop n.toNat)
 | none => none
theorem qi0 (most : Int) : Tails (dBytes most) := by
 intro l0 v l h
 unfold dBytes at h
 split at h
 ·rename_i n l1 hd
  split at h
  ·cases h
  ·cases h
   obtain ⟨p, rfl⟩ := zk _ _ _ _ _ hd
   exact ⟨p ++ l1.take n.toNat, by rw [List.append_assoc, List.take_append_drop]⟩
 ·cases h
theorem qn6 (most : Int) {r : Rd} (hr : r.Ok) (hf : r.failed = false) : Got (dBytes most (r.b.drop r.pos)) r.b (rBytes0 most r) := by
 have h := qds 0 most hr hf
 unfold dBytes
 cases hd : dBounded 0 most (r.b.drop r.pos) with
 | none =>
  rw [hd] at h
  simp only [Got] at h ⊢
  unfold rBytes0
  rw [if_pos h]; exact h
 | some x =>
  obtain ⟨n, l⟩ := x
  rw [hd] at h
  simp only [Got] at h ⊢
  obtain ⟨p, hp⟩ := zk _ _ _ _ _ hd
  obtain ⟨t1, t2⟩ := jp hr.pos hp
  have e : r.b.length - (r.b.length - l.length) = l.length := by omega
  by_cases hn : l.length < n.toNat
  ·rw [if_pos hn]
   simp only [rBytes0, h, Bool.false_eq_true, if_false, rNext, Bool.false_or]
   rw [e, if_pos (by simpa using hn)]
  ·rw [if_neg hn]
   simp only [rBytes0, h, Bool.false_eq_true, if_false, rNext, Bool.false_or]
   rw [e, if_neg (by simpa using hn), t1]
   have : r.b.length - l.length + n.toNat = r.b.length - (l.drop n.toNat).length := by rw [List.length_drop]; omega
   rw [this]
theorem xz (most : Int) : Reads [] (rBytesP most) (dBytes most) := vi (fun r hr => (qb2 hr most).2) (fun r hr hf => qn6 most hr hf)
def dBool : List UInt8 → Option (Bool × List UInt8)
 | [] => none
 | c :: l => if c.toNat > 1 then none else some (c.toNat == 1, l)
theorem qlh : Tails dBool := by
 intro l0 v l h
 cases l0 with
 | nil => cases h
 | cons c l1 =>
  rw [dBool] at h
  split at h
  ·cases h
  ·cases h; exact ⟨[c], rfl⟩
theorem qqv {r : Rd} (hr : r.Ok) (hf : r.failed = false) : Got (dBool (r.b.drop r.pos)) r.b (rBool0 r) := by
 cases hd : r.b.drop r.pos with
 | nil => simp only [Got, dBool, rBool0, qg8 hf hd, Rd.fail, Bool.true_or]
 | cons c l =>
  obtain ⟨h1, h2⟩ := qdr hr hf hd
  have hlen := congrArg List.length hd
  simp only [List.length_drop, List.length_cons] at hlen
  simp only [Got, dBool]
  by_cases hc : c.toNat > 1
  ·rw [if_pos hc]
   simp only [rBool0, h1, Rd.fail, Bool.false_or, List.headD_cons, decide_eq_true hc]
  ·rw [if_neg hc]
   simp only [rBool0, h1, Rd.fail, Bool.false_or, List.headD_cons, decide_eq_false hc, Bool.not_false, Bool.true_and]
   have : r.b.length - l.length = r.pos + 1 := by omega
   rw [this]
theorem yg : Reads false rBoolP dBool := vi (fun r hr => (qdp hr).2) (fun r hr hf => qqv hr hf)
end Go.Proofs.Ytinnaedmdoengaa
namespace Go.Proofs.Ytinnaedmdoengaa
open Go.Abs
set_option linter.unusedSimpArgs false
set_option linter.unusedVariables false
noncomputable section
set_option maxRecDepth 100000
def s119r0 : List SOper := [
 ⟨some 2, .mov (.k (.d (.int .i64 0))), none⟩]
def s119r1 : List SOper := [
 ⟨some 3, .mov (.k (.d (.int .u64 0))), none⟩,
 ⟨some 4, .mov (.k (.d (.int .u64 1))), none⟩]
def s119r2 : List SOper := [
 ⟨some 7, .mov (.t 0), none⟩,
 ⟨some 8, .nilCheck (.t 7), none⟩,
 ⟨some 9, .faddr 1 (.t 8), none⟩,
 ⟨some 10, .load none (.t 9), none⟩,
 ⟨some 5, .mov (.t 10), none⟩]
def s119r3 : List SOper := [
 ⟨some 11, .mov (.t 5), none⟩,
 ⟨some 12, .mov (.t 0), none⟩,
 ⟨some 13, .nilCheck (.t 12), none⟩,
 ⟨some 14, .faddr 0 (.t 13), none⟩,
 ⟨some 15, .load none (.t 14), none⟩,
 ⟨some 16, .len (.t 15), none⟩,
 ⟨some 17, .bin .lss (.t 11) (.t 16), none⟩,
 ⟨some 18, .mov (.t 17), none⟩,
 ⟨some 19, .mov (.t 5), some (18, true)⟩,
 ⟨some 20, .mov (.t 0), some (18, true)⟩,
 ⟨some 21, .nilCheck (.t 20), some (18, true)⟩,
 ⟨some 22, .faddr 1 (.t 21), some (18, true)⟩,
 ⟨some 23, .load none (.t 22), some (18, true)⟩,
 ⟨some 24, .bin .add (.t 23) (.k (.d (.int .i64 10))), some (18, true)⟩,
 ⟨some 25, .bin .lss (.t 19) (.t 24), some (18, true)⟩,
 ⟨some 26, .pick (.t 18) (.t 25) (.k (.d (.bool false))), none⟩,
 ⟨some 27, .mov (.t 26), none⟩,
 ⟨some 28, .mov (.t 0), some (27, true)⟩,
 ⟨some 29, .nilCheck (.t 28), some (27, true)⟩,
 ⟨some 30, .faddr 2 (.t 29), some (27, true)⟩,
 ⟨some 31, .load none (.t 30), some (27, true)⟩,
 ⟨some 32, .not (.t 31), some (27, true)⟩,
 ⟨some 33, .pick (.t 27) (.t 32) (.k (.d (.bool false))), none⟩]
def s119r4 : List SOper := [
 ⟨some 36, .mov (.t 0), none⟩,
 ⟨some 37, .nilCheck (.t 36), none⟩,
 ⟨some 38, .faddr 0 (.t 37), none⟩,
 ⟨some 39, .load none (.t 38), none⟩,
 ⟨some 40, .mov (.t 5), none⟩,
 ⟨some 41, .iaddr 1 (.t 39) (.t 40), none⟩,
 ⟨some 42, .load none (.t 41), none⟩,
 ⟨some 43, .bin .rem (.t 42) (.k (.d (.int .u8 128))), none⟩,
 ⟨some 44, .conv .u64 (.t 43), none⟩,
 ⟨some 6, .mov (.t 44), none⟩]
def s119r5 : List SOper := [
 ⟨some 45, .mov (.t 5), none⟩,
 ⟨some 46, .mov (.t 0), none⟩,
 ⟨some 47, .nilCheck (.t 46), none⟩,
 ⟨some 48, .faddr 1 (.t 47), none⟩,
 ⟨some 49, .load none (.t 48), none⟩,
 ⟨some 50, .bin .add (.t 49) (.k (.d (.int .i64 9))), none⟩,
 ⟨some 51, .bin .eql (.t 45) (.t 50), none⟩,
 ⟨some 52, .mov (.t 51), none⟩,
 ⟨some 53, .mov (.t 6), some (52, true)⟩,
 ⟨some 54, .bin .gtr (.t 53) (.k (.d (.int .u64 1))), some (52, true)⟩,
 ⟨some 55, .pick (.t 52) (.t 54) (.k (.d (.bool false))), none⟩]
def s119r6 : List SOper := [
 ⟨some 56, .mov (.t 3), none⟩,
 ⟨some 57, .mov (.t 6), none⟩,
 ⟨some 58, .mov (.t 4), none⟩,
 ⟨some 59, .bin .mul (.t 57) (.t 58), none⟩,
 ⟨some 60, .bin .add (.t 56) (.t 59), none⟩,
 ⟨some 3, .mov (.t 60), none⟩]
def s119r7 : List SOper := [
 ⟨some 61, .mov (.t 4), none⟩,
 ⟨some 62, .bin .mul (.t 61) (.k (.d (.int .u64 128))), none⟩,
 ⟨some 4, .mov (.t 62), none⟩]
def s119r8 : List SOper := [
 ⟨some 63, .mov (.t 0), none⟩,
 ⟨some 64, .nilCheck (.t 63), none⟩,
 ⟨some 65, .faddr 0 (.t 64), none⟩,
 ⟨some 66, .load none (.t 65), none⟩,
 ⟨some 67, .mov (.t 5), none⟩,
 ⟨some 68, .iaddr 1 (.t 66) (.t 67), none⟩,
 ⟨some 69, .load none (.t 68), none⟩,
 ⟨some 70, .bin .geq (.t 69) (.k (.d (.int .u8 128))), none⟩]
def s119r9 : List SOper := [
 ⟨some 71, .mov (.t 6), none⟩,
 ⟨some 72, .bin .eql (.t 71) (.k (.d (.int .u64 0))), none⟩,
 ⟨some 73, .mov (.t 72), none⟩,
 ⟨some 74, .mov (.t 5), some (73, true)⟩,
 ⟨some 75, .mov (.t 0), some (73, true)⟩,
 ⟨some 76, .nilCheck (.t 75), some (73, true)⟩,
 ⟨some 77, .faddr 1 (.t 76), some (73, true)⟩,
 ⟨some 78, .load none (.t 77), some (73, true)⟩,
 ⟨some 79, .bin .gtr (.t 74) (.t 78), some (73, true)⟩,
 ⟨some 80, .pick (.t 73) (.t 79) (.k (.d (.bool false))), none⟩]
def s119r10 : List SOper := [
 ⟨some 81, .mov (.t 0), none⟩,
 ⟨some 82, .mov (.t 5), none⟩,
 ⟨some 83, .bin .add (.t 82) (.k (.d (.int .i64 1))), none⟩,
 ⟨some 84, .nilCheck (.t 81), none⟩,
 ⟨some 85, .faddr 1 (.t 84), none⟩,
 ⟨none, .store none (.t 85) (.t 83), none⟩]
def s119r11 : List SOper := [
 ⟨some 86, .mov (.t 3), none⟩,
 ⟨some 87, .bin .rem (.t 86) (.k (.d (.int .u64 2))), none⟩,
 ⟨some 88, .bin .eql (.t 87) (.k (.d (.int .u64 1))), none⟩]
def s119r12 : List SOper := [
 ⟨some 89, .mov (.t 3), none⟩,
 ⟨some 90, .bin .quo (.t 89) (.k (.d (.int .u64 2))), none⟩,
 ⟨some 91, .conv .i64 (.t 90), none⟩,
 ⟨some 92, .neg (.t 91), none⟩,
 ⟨some 93, .bin .sub (.t 92) (.k (.d (.int .i64 1))), none⟩,
 ⟨some 2, .mov (.t 93), none⟩]
def s119r13 : List SOper := [
 ⟨some 94, .mov (.t 3), none⟩,
 ⟨some 95, .bin .quo (.t 94) (.k (.d (.int .u64 2))), none⟩,
 ⟨some 96, .conv .i64 (.t 95), none⟩,
 ⟨some 2, .mov (.t 96), none⟩]
def s119r14 : List SOper := [
 ⟨some 34, .mov (.t 5), none⟩,
 ⟨some 35, .bin .add (.t 34) (.k (.d (.int .i64 1))), none⟩,
 ⟨some 5, .mov (.t 35), none⟩]
def s119l15 : SCode := (.seq (.seq (.region s119r3 0 []) (.cond (.t 33) .skip (.exit 0))) (.seq (.block 1 (.seq (.region s119r4 0 []) (.seq (.seq (.region s119r5 0 []) (.cond (.t 55) (.exit 0) .skip)) (.seq (.region s119r6 0 []) (.seq (.region s119r7 0 []) (.seq (.seq (.region s119r8 0 []) (.cond (.t 70) (.exit 1) .skip)) (.seq (.seq (.region s119r9 0 []) (.cond (.t 80) (.exit 0) .skip)) (.seq (.region s119r10 0 []) (.seq (.seq (.region s119r11 0 []) (.cond (.t 88) (.seq (.region s119r12 0 []) .ret) .skip)) (.seq (.region s119r13 0 []) .ret)))))))))) (.region s119r14 0 [])))
theorem qsu : CodeIs s119l15.eq_1 := qc s119l15.eq_1
def s119r16 : List SOper := [
 ⟨some 97, .mov (.t 0), none⟩,
 ⟨some 98, .nilCheck (.t 97), none⟩,
 ⟨some 99, .faddr 2 (.t 98), none⟩,
 ⟨none, .store none (.t 99) (.k (.d (.bool true))), none⟩]
def s119r17 : List SOper := [
 ⟨some 2, .mov (.k (.d (.int .i64 0))), none⟩]
def s119 : SCode := (.seq (.region s119r0 0 []) (.seq (.region s119r1 0 []) (.seq (.seq (.region s119r2 0 []) (.block 0 (.loop s119l15))) (.seq (.region s119r16 0 []) (.seq (.region s119r17 0 []) .ret)))))
theorem q9v : CodeIs s119.eq_1 := qc s119.eq_1
theorem qyy : RegIs s119r0.eq_1 := qa
theorem qyz : RegIs s119r1.eq_1 := qa
theorem qy0 : RegIs s119r2.eq_1 := qa
theorem qy1 : RegIs s119r3.eq_1 := qa
theorem qy2 : RegIs s119r4.eq_1 := qa
theorem qy3 : RegIs s119r5.eq_1 := qa
theorem qy4 : RegIs s119r6.eq_1 := qa
theorem qy5 : RegIs s119r7.eq_1 := qa
theorem qy6 : RegIs s119r8.eq_1 := qa
theorem qy7 : RegIs s119r9.eq_1 := qa
theorem qsv : RegIs s119r10.eq_1 := qa
theorem qsw : RegIs s119r11.eq_1 := qa
theorem qsx : RegIs s119r12.eq_1 := qa
theorem qsy : RegIs s119r13.eq_1 := qa
theorem qsz : RegIs s119r14.eq_1 := qa
theorem qs0 : RegIs s119r16.eq_1 := qa
theorem qs1 : RegIs s119r17.eq_1 := qa
attribute [go_sem] qyy qyz qy0 qy1 qy2 qy3 qy4 qy5 qy6 qy7 qsv qsw qsx qsy qsz qsu qs0 qs1 q9v
theorem qz3 : FnIs Try.prog 119 Try.f119 [] news s119 [.tmp 2] 100 := xa follows Try.func119
end
def SrrInt (b : List UInt8) (pos : Nat) (f : Bool) (i u : Nat) : St :=
 ⟨[(0, true, .d (.ptr 0 0)), (3, true, .d (.int .u64 (u : Nat))), (4, true, .d (.int .u64 (128 ^ (i - pos) % 18446744073709551616 : Nat))), (5, true, .d (.int .i64 (i : Nat)))], [rdO ⟨b, pos, f⟩], [], 1⟩
theorem qqw {u d j : Nat} (hu : u < 128 ^ j) (hd : d < 128) (hj : j ≤ 9) (h9 : j = 9 → d ≤ 1) :
  IntKind.u64.wrap ((u : Int) + IntKind.u64.wrap ((d : Int) * ((128 ^ j % 18446744073709551616 : Nat) : Int))) = ((u + d * 128 ^ j : Nat) : Int) ∧ u + d * 128 ^ j < 18446744073709551616 ∧ u + d * 128 ^ j < 128 ^ (j + 1) := by
 have hp : 128 ^ j ≤ 128 ^ 9 := Nat.pow_le_pow_right (by decide) hj
 have hp9 : (128 : Nat) ^ 9 = 9223372036854775808 := by decide
 rw [Nat.mod_eq_of_lt (by omega)]
 have hs : d * 128 ^ j ≤ 9223372036854775808 := by
  rcases Nat.lt_or_ge j 9 with h | h
  ·have := vb (j := j) (by omega)
   rw [Nat.pow_succ] at this
   have : d * 128 ^ j ≤ 127 * 128 ^ j := Nat.mul_le_mul_right _ (by omega)
   omega
  ·have : j = 9 := by omega
   subst this
   have := h9 rfl
   rw [hp9]; omega
 have h3 : d * 128 ^ j ≤ 127 * 128 ^ j := Nat.mul_le_mul_right _ (by omega)
 refine ⟨?_, by omega, by rw [Nat.pow_succ]; omega⟩
 rw [show ((d : Int) * ((128 ^ j : Nat) : Int)) = ((d * 128 ^ j : Nat) : Int) by rw [Int.natCast_mul], f2 _ (by omega), show ((u : Int) + ((d * 128 ^ j : Nat) : Int)) = ((u + d * 128 ^ j : Nat) : Int) by omega, f2 _ (by omega)]
theorem qli (j : Nat) : IntKind.u64.wrap (((128 ^ j % 18446744073709551616 : Nat) : Int) * 128) = ((128 ^ (j + 1) % 18446744073709551616 : Nat) : Int) := by
 rw [wc, Nat.pow_succ]
 generalize 128 ^ j = x
 omega
set_option maxRecDepth 10000 in
theorem qqx (r : Rd) (hr : r.Ok) : ACall Try.prog 119 [.d (.ptr 0 0)] [rdO r] (.d (.int .i64 (rIntP r).1)) [rdO (rIntP r).2] := by
 have hrd := qn5 r hr
 obtain ⟨hln, hpos⟩ := hr
 obtain ⟨b, pos, f⟩ := r
 simp only at hln hpos hrd
 refine qz3.go ?_
 cases f
 ·simp only [Bool.false_eq_true, if_false] at hrd
  have w9 : IntKind.i64.wrap ((pos : Int) + 9) = ((pos + 9 : Nat) : Int) := by rw [xd (by unfold I64; omega)]; omega
  have w10 : IntKind.i64.wrap ((pos : Int) + 10) = ((pos + 10 : Nat) : Int) := by rw [xd (by unfold I64; omega)]; omega
  try simp only [rdO, go_sem, Nat.reduceAdd, Nat.reduceMul, Nat.reduceSub, Nat.reduceEqDiff, Nat.reduceLT, Nat.reduceLeDiff, Nat.reduceBEq, reduceIte, reduceCtorEq, Int.reduceAdd, Int.reduceLT, Int.reduceLE, Int.reduceGT, Int.reduceGE, Int.reduceEq, Int.reduceNe, Int.reduceBEq, Int.reduceBNe, Int.reduceToNat, Int.reduceNeg]
  refine qn (fun x : { x : Nat × Nat // pos ≤ x.1 ∧ x.1 ≤ pos + 10 ∧ x.1 ≤ b.length ∧ x.2 < 128 ^ (x.1 - pos) ∧ dG (10 - (x.1 - pos)) (x.1 - pos) x.2 (b.drop x.1) = dInt (b.drop pos) } => SrrInt b pos false x.val.1 x.val.2) (fun x => pos + 10 - x.val.1)
   ⟨(pos, 0), Nat.le_refl _, by simp, hpos, by simp, by simp only [Nat.sub_self]; rfl⟩ ?_ (fun x => ?_)
  ·have e1 : 128 ^ (pos - pos) % 18446744073709551616 = 1 := by rw [Nat.sub_self]
   try simp only [SrrInt, e1, rdO, Int.ofNat_zero, go_sem, Nat.reduceAdd, Nat.reduceMul, Nat.reduceSub, Nat.reduceEqDiff, Nat.reduceLT, Nat.reduceLeDiff, Nat.reduceBEq, reduceIte, reduceCtorEq, Int.reduceAdd, Int.reduceLT, Int.reduceLE, Int.reduceGT, Int.reduceGE, Int.reduceEq, Int.reduceNe, Int.reduceBEq, Int.reduceBNe, Int.reduceToNat, Int.reduceNeg]
  obtain ⟨⟨i, u⟩, h1, h2, h3, h4, h5⟩ := x
  simp only at h1 h2 h3 h4 h5
  have hnone : dInt (b.drop pos) = none → rIntP ⟨b, pos, false⟩ = (0, ⟨b, pos, true⟩) := fun h => by rw [hrd, h]
  try simp only [SrrInt, rdO, w10, go_sem, Nat.reduceAdd, Nat.reduceMul, Nat.reduceSub, Nat.reduceEqDiff, Nat.reduceLT, Nat.reduceLeDiff, Nat.reduceBEq, reduceIte, reduceCtorEq, Int.reduceAdd, Int.reduceLT, Int.reduceLE, Int.reduceGT, Int.reduceGE, Int.reduceEq, Int.reduceNe, Int.reduceBEq, Int.reduceBNe, Int.reduceToNat, Int.reduceNeg]
  refine zb _ (fun hc => ?_) (fun hc => ?_)
  ·simp only [Bool.and_eq_true, decide_eq_true_eq] at hc
   have hil : i < b.length := by omega
   have hi10 : i < pos + 10 := by omega
   rw [List.drop_eq_getElem_cons hil, show 10 - (i - pos) = (10 - (i + 1 - pos)) + 1 by omega, dG] at h5
   have hlt := k7 b[i]
   have hd : IntKind.u64.wrap (((b[i].toNat : Nat) : Int).tmod 128) = ((b[i].toNat % 128 : Nat) : Int) := by
    rw [Int.tmod_eq_emod_of_nonneg (by omega), show ((b[i].toNat : Nat) : Int) % 128 = ((b[i].toNat % 128 : Nat) : Int) by omega, f2 _ (by omega)]
   try simp only [xf b hil, hd, w9, go_sem, Nat.reduceAdd, Nat.reduceMul, Nat.reduceSub, Nat.reduceEqDiff, Nat.reduceLT, Nat.reduceLeDiff, Nat.reduceBEq, reduceIte, reduceCtorEq, Int.reduceAdd, Int.reduceLT, Int.reduceLE, Int.reduceGT, Int.reduceGE, Int.reduceEq, Int.reduceNe, Int.reduceBEq, Int.reduceBNe, Int.reduceToNat, Int.reduceNeg]
   refine ⟨by omega, ?_⟩
   refine zb _ (fun hb => ?_) (fun hb => ?_)
   ·have hx : dInt (b.drop pos) = none := by
     simp at hb
     rw [← h5]
     by_cases hc : b[i].toNat < 128
     ·rw [if_pos hc, if_pos]
      simp; omega
     ·rw [if_neg hc, show 10 - (i + 1 - pos) = 0 by omega]; rfl
    try simp only [hnone hx, go_sem, Nat.reduceAdd, Nat.reduceMul, Nat.reduceSub, Nat.reduceEqDiff, Nat.reduceLT, Nat.reduceLeDiff, Nat.reduceBEq, reduceIte, reduceCtorEq, Int.reduceAdd, Int.reduceLT, Int.reduceLE, Int.reduceGT, Int.reduceGE, Int.reduceEq, Int.reduceNe, Int.reduceBEq, Int.reduceBNe, Int.reduceToNat, Int.reduceNeg]
   ·have hb2 : i - pos = 9 → b[i].toNat % 128 ≤ 1 := by
     intro h9
     simp at hb
     have := hb (by omega)
     omega
    obtain ⟨s1, s2, s3⟩ := qqw h4 (Nat.mod_lt b[i].toNat (show 128 > 0 by decide)) (show i - pos ≤ 9 by omega) hb2
    have s4 := qli (i - pos)
    try simp only [s1, s4, xf b hil, go_sem, Nat.reduceAdd, Nat.reduceMul, Nat.reduceSub, Nat.reduceEqDiff, Nat.reduceLT, Nat.reduceLeDiff, Nat.reduceBEq, reduceIte, reduceCtorEq, Int.reduceAdd, Int.reduceLT, Int.reduceLE, Int.reduceGT, Int.reduceGE, Int.reduceEq, Int.reduceNe, Int.reduceBEq, Int.reduceBNe, Int.reduceToNat, Int.reduceNeg]
    (repeat (with_reducible refine ob ?_))
    refine zb _ (fun hc => ?_) (fun hc => ?_)
    ·have hc2 : ¬ b[i].toNat < 128 := by simp at hc; omega
     rw [if_neg hc2] at h5
     try (refine ev ?_; try exact True.intro)
     have hj : i + 1 - pos = i - pos + 1 := by omega
     refine ⟨⟨(i + 1, u + b[i].toNat % 128 * 128 ^ (i - pos)), by simp only; omega, by simp only; omega, by simp only; omega, by simp only [hj]; exact s3, by simp only [hj] at h5 ⊢; exact h5⟩, ?_, by simp only; omega⟩
     try simp only [SrrInt, rdO, hj, ql (show i < 9223372036854775807 by omega), go_sem, Nat.reduceAdd, Nat.reduceMul, Nat.reduceSub, Nat.reduceEqDiff, Nat.reduceLT, Nat.reduceLeDiff, Nat.reduceBEq, reduceIte, reduceCtorEq, Int.reduceAdd, Int.reduceLT, Int.reduceLE, Int.reduceGT, Int.reduceGE, Int.reduceEq, Int.reduceNe, Int.reduceBEq, Int.reduceBNe, Int.reduceToNat, Int.reduceNeg]
    ·have hc2 : b[i].toNat < 128 := by simp at hc; omega
     rw [if_pos hc2] at h5
     have hm : b[i].toNat % 128 = b[i].toNat := Nat.mod_eq_of_lt hc2
     rw [hm] at s1 s2 s3 hb2 hb
     try simp only [hm, go_sem, Nat.reduceAdd, Nat.reduceMul, Nat.reduceSub, Nat.reduceEqDiff, Nat.reduceLT, Nat.reduceLeDiff, Nat.reduceBEq, reduceIte, reduceCtorEq, Int.reduceAdd, Int.reduceLT, Int.reduceLE, Int.reduceGT, Int.reduceGE, Int.reduceEq, Int.reduceNe, Int.reduceBEq, Int.reduceBNe, Int.reduceToNat, Int.reduceNeg]
     refine zb _ (fun hz => ?_) (fun hz => ?_)
     ·have hx : dInt (b.drop pos) = none := by
       rw [← h5, if_pos]
       simp at hz ⊢; omega
      try simp only [hnone hx, go_sem, Nat.reduceAdd, Nat.reduceMul, Nat.reduceSub, Nat.reduceEqDiff, Nat.reduceLT, Nat.reduceLeDiff, Nat.reduceBEq, reduceIte, reduceCtorEq, Int.reduceAdd, Int.reduceLT, Int.reduceLE, Int.reduceGT, Int.reduceGE, Int.reduceEq, Int.reduceNe, Int.reduceBEq, Int.reduceBNe, Int.reduceToNat, Int.reduceNeg]
     ·have hx : rIntP ⟨b, pos, false⟩ = (unz (u + b[i].toNat * 128 ^ (i - pos)), ⟨b, i + 1, false⟩) := by
       rw [hrd, ← h5, if_neg (by simp at hz hb ⊢; omega)]
       simp only [List.length_drop]
       rw [show b.length - (b.length - (i + 1)) = i + 1 by omega]
      generalize hU : u + b[i].toNat * 128 ^ (i - pos) = u' at s2 hx ⊢
      have hU2 : (u : Int) + ((b[i].toNat * 128 ^ (i - pos) : Nat) : Int) = ((u' : Nat) : Int) := by rw [← hU, Int.natCast_add]
      have q2 : (u' : Int).tmod 2 = ((u' % 2 : Nat) : Int) := by rw [Int.tmod_eq_emod_of_nonneg (by omega)]; omega
      have q3 : IntKind.u64.wrap ((u' : Int).tdiv 2) = ((u' / 2 : Nat) : Int) := by rw [Int.tdiv_eq_ediv_of_nonneg (by omega), show ((u' : Int) / 2) = ((u' / 2 : Nat) : Int) by omega, f2 _ (by omega)]
      have q4 : IntKind.i64.wrap ((u' / 2 : Nat) : Int) = ((u' / 2 : Nat) : Int) := xd (by unfold I64; omega)
      try simp only [hU2, hx, ql (show i < 9223372036854775807 by omega), go_sem, Nat.reduceAdd, Nat.reduceMul, Nat.reduceSub, Nat.reduceEqDiff, Nat.reduceLT, Nat.reduceLeDiff, Nat.reduceBEq, reduceIte, reduceCtorEq, Int.reduceAdd, Int.reduceLT, Int.reduceLE, Int.reduceGT, Int.reduceGE, Int.reduceEq, Int.reduceNe, Int.reduceBEq, Int.reduceBNe, Int.reduceToNat, Int.reduceNeg]
      try simp only [q2, hx, go_sem, Nat.reduceAdd, Nat.reduceMul, Nat.reduceSub, Nat.reduceEqDiff, Nat.reduceLT, Nat.reduceLeDiff, Nat.reduceBEq, reduceIte, reduceCtorEq, Int.reduceAdd, Int.reduceLT, Int.reduceLE, Int.reduceGT, Int.reduceGE, Int.reduceEq, Int.reduceNe, Int.reduceBEq, Int.reduceBNe, Int.reduceToNat, Int.reduceNeg]
      rcases Nat.mod_two_eq_zero_or_one u' with hp | hp
      ·have q5 : unz u' = ((u' / 2 : Nat) : Int) := by unfold unz; rw [if_pos hp]
       have q6 : ((((u' % 2 : Nat) : Int)) == 1) = false := by rw [hp]; rfl
       try simp only [q6, go_sem, Nat.reduceAdd, Nat.reduceMul, Nat.reduceSub, Nat.reduceEqDiff, Nat.reduceLT, Nat.reduceLeDiff, Nat.reduceBEq, reduceIte, reduceCtorEq, Int.reduceAdd, Int.reduceLT, Int.reduceLE, Int.reduceGT, Int.reduceGE, Int.reduceEq, Int.reduceNe, Int.reduceBEq, Int.reduceBNe, Int.reduceToNat, Int.reduceNeg]
       (repeat (with_reducible refine ob ?_)); refine no_ ?_
       try simp only [hU2, q3, q4, q5, go_sem, Nat.reduceAdd, Nat.reduceMul, Nat.reduceSub, Nat.reduceEqDiff, Nat.reduceLT, Nat.reduceLeDiff, Nat.reduceBEq, reduceIte, reduceCtorEq, Int.reduceAdd, Int.reduceLT, Int.reduceLE, Int.reduceGT, Int.reduceGE, Int.reduceEq, Int.reduceNe, Int.reduceBEq, Int.reduceBNe, Int.reduceToNat, Int.reduceNeg]
      ·have q5 : unz u' = IntKind.i64.wrap (IntKind.i64.wrap (0 - ((u' / 2 : Nat) : Int)) - 1) := by
        unfold unz; rw [if_neg (by omega), xd (n := 0 - ((u' / 2 : Nat) : Int)) (by unfold I64; omega), xd (by unfold I64; omega)]; omega
       have q6 : ((((u' % 2 : Nat) : Int)) == 1) = true := by rw [hp]; rfl
       try simp only [q6, go_sem, Nat.reduceAdd, Nat.reduceMul, Nat.reduceSub, Nat.reduceEqDiff, Nat.reduceLT, Nat.reduceLeDiff, Nat.reduceBEq, reduceIte, reduceCtorEq, Int.reduceAdd, Int.reduceLT, Int.reduceLE, Int.reduceGT, Int.reduceGE, Int.reduceEq, Int.reduceNe, Int.reduceBEq, Int.reduceBNe, Int.reduceToNat, Int.reduceNeg]
       (repeat (with_reducible refine ob ?_)); refine yv ?_
       try simp only [hU2, q3, q4, q5, go_sem, Nat.reduceAdd, Nat.reduceMul, Nat.reduceSub, Nat.reduceEqDiff, Nat.reduceLT, Nat.reduceLeDiff, Nat.reduceBEq, reduceIte, reduceCtorEq, Int.reduceAdd, Int.reduceLT, Int.reduceLE, Int.reduceGT, Int.reduceGE, Int.reduceEq, Int.reduceNe, Int.reduceBEq, Int.reduceBNe, Int.reduceToNat, Int.reduceNeg]
  ·have hx : dInt (b.drop pos) = none := by
    rw [← h5]
    simp only [Bool.and_eq_false_iff, decide_eq_false_iff_not] at hc
    rcases Nat.lt_or_ge i (pos + 10) with hi | hi
    ·rw [List.drop_of_length_le (by omega), show 10 - (i - pos) = (9 - (i - pos)) + 1 by omega]; rfl
    ·rw [show 10 - (i - pos) = 0 by omega]; rfl
   try simp only [hnone hx, go_sem, Nat.reduceAdd, Nat.reduceMul, Nat.reduceSub, Nat.reduceEqDiff, Nat.reduceLT, Nat.reduceLeDiff, Nat.reduceBEq, reduceIte, reduceCtorEq, Int.reduceAdd, Int.reduceLT, Int.reduceLE, Int.reduceGT, Int.reduceGE, Int.reduceEq, Int.reduceNe, Int.reduceBEq, Int.reduceBNe, Int.reduceToNat, Int.reduceNeg]
 ·simp only [if_true] at hrd
  try simp only [rdO, hrd, go_sem, Nat.reduceAdd, Nat.reduceMul, Nat.reduceSub, Nat.reduceEqDiff, Nat.reduceLT, Nat.reduceLeDiff, Nat.reduceBEq, reduceIte, reduceCtorEq, Int.reduceAdd, Int.reduceLT, Int.reduceLE, Int.reduceGT, Int.reduceGE, Int.reduceEq, Int.reduceNe, Int.reduceBEq, Int.reduceBNe, Int.reduceToNat, Int.reduceNeg]
  refine qn (fun x : Unit => SrrInt b pos true pos 0) (fun x => 0) () ?_ (fun x => ?_)
  ·have e1 : 128 ^ (pos - pos) % 18446744073709551616 = 1 := by rw [Nat.sub_self]
   try simp only [SrrInt, e1, rdO, Int.ofNat_zero, go_sem, Nat.reduceAdd, Nat.reduceMul, Nat.reduceSub, Nat.reduceEqDiff, Nat.reduceLT, Nat.reduceLeDiff, Nat.reduceBEq, reduceIte, reduceCtorEq, Int.reduceAdd, Int.reduceLT, Int.reduceLE, Int.reduceGT, Int.reduceGE, Int.reduceEq, Int.reduceNe, Int.reduceBEq, Int.reduceBNe, Int.reduceToNat, Int.reduceNeg]
  try simp only [SrrInt, rdO, go_sem, Nat.reduceAdd, Nat.reduceMul, Nat.reduceSub, Nat.reduceEqDiff, Nat.reduceLT, Nat.reduceLeDiff, Nat.reduceBEq, reduceIte, reduceCtorEq, Int.reduceAdd, Int.reduceLT, Int.reduceLE, Int.reduceGT, Int.reduceGE, Int.reduceEq, Int.reduceNe, Int.reduceBEq, Int.reduceBNe, Int.reduceToNat, Int.reduceNeg]
  (repeat (with_reducible refine ob ?_)); refine no_ ?_
  try (refine ev ?_; try exact True.intro)
end Go.Proofs.Ytinnaedmdoengaa
