/- Texts Wk, Wl, Wm, Wn, Yd, Yc, Ye, Yf, Yg, Yh, Yi, Ws. -/
import Derived.Test.YtinnaedmdoengaaMen
import Derived.Calls
import Derived.Orders
import Derived.Tactics
import Derived.Laws.AppendOwn
import Derived.Laws.Slices
import Derived.Laws.Closers25
import Derived.Laws.StructEq
import Derived.Laws.BytesString
import Derived.Laws.CopyRow
import Derived.MapKept
import Derived.Maps.RangeRun
import Derived.TacticsIn
import Derived.OrdersIn
import Derived.RangeFuncRecord
import Derived.RangeFuncLeaves
import Derived.IntWalk
import Derived.ProofKit
import Derived.OpenShut
import Derived.Carry
import Derived.Test.YtinnaedmdoengaaProg
import Derived.KernelRfl
import Derived.OwnWalkIn
import Derived.TacticsInMore
import Derived.LoopIn
import Derived.WalkKit
import Derived.Lib.Strings
import Derived.Lib.Slices
import Derived.Lib.Walk
import Derived.Lib.Bytealg
import Derived.Shelf.SlSortCmp.WholeK
import Derived.Shelf.SlSortCmp.NoneTotal

namespace Go.Proofs.Ytinnaedmdoengaa
open Go.Abs Go.Shelf Go.RowKit Go.Lib Go.Sort
set_option linter.unusedSimpArgs false
set_option linter.unusedVariables false
theorem qx5 : (Try.prog.funcs[45]?).any (fun fn => fn.body.isSome && !(fn.name == "runtime.NumGoroutine")) = true := by rw [Try.func45]; rfl
theorem qqo (x : RowE) : (encR x).length = 2 := rfl
theorem qqp (x : RowE) : ∀ v ∈ encR x, v.oneCell' = true := by
 intro v hv
 simp [encR] at hv
 rcases hv with rfl | rfl
 ·rfl
 ·exact x.2.2
set_option maxHeartbeats 1000000 in
theorem qsl (l : List En) (hn : (l.map (·.1)).Nodup) (hl : l.length ≤ 1000000) :
  ACall Try.prog 45 [.d (.ref 0 0 2 l.length), .d (.func (.func 46) [] [])] [.row ((flatEn l).map .d)] (.tup []) [.row ((flatEn (sortEn l)).map .d)] := by
 intro g w vs hd hlen hv ho
 match vs, hlen with
 | [v0, v1], _ =>
 have h1 := qx (qq (hv 1 v1 _ rfl rfl))
 have hf1 : v1 = .func (.func 46) #[] #[] := by
  cases h1 with
  | func _ vf vc _ _ hf hc =>
   have e1 : vf = [] := List.eq_nil_of_length_eq_zero (by simpa using hf)
   have e2 : vc = [] := List.eq_nil_of_length_eq_zero (by simpa using hc)
   subst e1; subst e2; rfl
 subst hf1
 have h0 := qx (qq (hv 0 v0 _ rfl rfl))
 generalize hln : l.length = n at h0
 have none_ : ∀ (p : Option Addr) (cap : Nat), n = 0 → v0 = .slice p 0 cap → Calls Try.prog 45 [v0, .func (.func 46) #[] #[]].toArray w fun e w' =>
   ∃ v g' live', e = .returned v ∧ G g w g' w' ∧ Dom g' w' ∧ (∀ t ∈ (ASlot.tup []).toks, t ∈ live') ∧ RS g' w' live' v (.tup []) ∧ ObjsOk g' w' live' [.row ((flatEn (sortEn l)).map .d)] := by
  intro p cap h0 hv0
  have hl0 : l = [] := List.eq_nil_of_length_eq_zero (by omega)
  subst hl0; subst hv0
  have hcon := AnyF.slices_SortFunc_none qx4 p cap (.func (.func 46) #[] #[]) w
  change Calls Try.prog 45 _ _ _ at hcon
  refine hcon.mono ?_
  rintro e w' ⟨rfl, rfl⟩
  have hs0 : sortEn [] = [] := by simp [sortEn]
  rw [hs0]
  exact ⟨_, g, [], rfl, .refl _ _, hd, by simp [ASlot.toks], ⟨[], rfl, rfl, fun i u s hu => by simp at hu⟩, ho⟩
 cases h0 with
 | refnil a => exact none_ a 0 rfl rfl
 | ref b _ _ _ _ cap hg hcap hmx hsz =>
 by_cases hn0 : n = 0
 ·subst hn0; exact none_ _ cap rfl rfl
 obtain ⟨b', hb', c, et, hh, hcs, hcc⟩ := (ho.objs 0 _ rfl (by simp)).resolve_right (fun h => by
  have := h.1
  simp at this
  have := congrArg List.length this
  simp [vg] at this; omega)
 have : b' = b := ho.inj b' b 0 hb' hg
 subst this
 rw [List.length_map, vg] at hcs
 have hcell : ∀ (i : Nat) (e : En), l[i]? = some e → c[2 * i]? = some (.string ⟨e.1.toArray⟩) ∧ ∃ v, c[2 * i + 1]? = some v ∧ v.oneCell' = true ∧ RV g w v (.sl 1 (byteRows e.2)) := by
  intro i e he
  obtain ⟨k1, k2⟩ := qdj l i e he
  obtain ⟨u, u1, _, u3⟩ := hcc (2 * i) (.d (.str e.1)) (by rw [List.getElem?_map, k1]; rfl)
  obtain ⟨v, v1, v2, v3⟩ := hcc (2 * i + 1) (.d (.sl 1 (byteRows e.2))) (by rw [List.getElem?_map, k2]; rfl)
  have hu := ja (show RV g w u (.str e.1) from u3)
  subst hu
  exact ⟨u1, v, v1, v2, v3⟩
 let mkR : Nat → RowE := fun i => match l[i]?, c[2 * i + 1]? with
  | some e, some v => if h : v.oneCell' = true then (e.1, ⟨v, h⟩) else default
  | _, _ => default
 let P : List (RowE × En) := (List.range n).map fun i => (mkR i, l.getD i ([], []))
 have hPR : ∀ z ∈ P, z.1.1 = z.2.1 ∧ RV g w z.1.2.1 (.sl 1 (byteRows z.2.2)) := by
  intro z hz
  obtain ⟨i, hi, rfl⟩ := List.mem_map.1 hz
  have hil : i < l.length := by rw [hln]; exact List.mem_range.1 hi
  have he := List.getElem?_eq_getElem hil
  obtain ⟨_, v, v1, v2, v3⟩ := hcell i _ he
  have : mkR i = (l[i].1, ⟨v, v2⟩) := by simp only [mkR, he, v1, dif_pos v2]
  have e2 : l.getD i ([], []) = l[i] := by simp [List.getD, he]
  simp only [this, e2]
  exact ⟨trivial, v3⟩
 have hPs : P.map (·.2) = l := by
  apply List.ext_getElem?
  intro i
  simp only [P, List.map_map, List.getElem?_map]
  rcases Nat.lt_or_ge i n with h | h
  ·rw [List.getElem?_range h]
   have he := List.getElem?_eq_getElem (show i < l.length by omega)
   simp [he, List.getD]
  ·rw [List.getElem?_eq_none (by simpa using h), List.getElem?_eq_none (by omega)]; rfl
 obtain ⟨d, hdd⟩ : ∃ d : Array RowE, d = (P.map (·.1)).toArray := ⟨_, rfl⟩
 have hds : d.size = n := by rw [hdd]; simp [P]
 have hdi : ∀ i, i < n → d[i]! = mkR i := fun i hi => by rw [hdd]; simp [P, hi]
 have hblk : b' < w.heap.size := (Array.getElem?_eq_some_iff.1 hh).1
 have hfl : ∀ t, t < n * 2 → (flatK encR 2 d)[t]! = c.getD t default := by
  intro t ht
  rw [get_flatK encR 2 d t (by rw [hds]; exact ht), hdi _ (by omega)]
  have hil : t / 2 < l.length := by omega
  have he := List.getElem?_eq_getElem hil
  obtain ⟨k1, v, v1, v2, v3⟩ := hcell (t / 2) _ he
  have hm : mkR (t / 2) = (l[t / 2].1, ⟨v, v2⟩) := by simp only [mkR, he, v1, dif_pos v2]
  rw [hm]
  rcases Nat.mod_two_eq_zero_or_one t with hp | hp
  ·have e1 : 2 * (t / 2) = t := by omega
   rw [e1] at k1
   rw [hp, Array.getD_eq_getD_getElem?, k1]
   rfl
  ·have e1 : 2 * (t / 2) + 1 = t := by omega
   rw [e1] at v1
   rw [hp, Array.getD_eq_getD_getElem?, v1]
   rfl
 have hH : HoldsK encR 2 w b' 0 d := by
  intro j hj
  rw [size_flatK, hds] at hj
  refine ⟨?_, by simp [World.frozen?, hh]⟩
  rw [hfl j hj]
  have hjc : j < c.size := by omega
  simp [World.cell?, hh, hjc]
 have eg : ∀ args w, (callFunc 46 args).run Try.prog w = .ok (.enter 46 args) w := enters_of Try.func46 (by kernel_rfl) rfl
 have hcon := AnyQ.slices_SortFunc qx4 2 Try.isAgg99 Try.sizeOf99 encR qqo qqp cmpR q9t 46 #[] b' 0 cap d w eg (fun _ _ _ _ x y => qqn x y _) hH hblk (by omega)
 change Calls Try.prog 45 _ _ _ at hcon
 rw [hds] at hcon
 refine hcon.mono ?_
 rintro e w' ⟨rfl, d', m, os, hperm, hsort, hw'⟩
 obtain ⟨hps, _, hpl⟩ := hperm
 rw [hds] at hps
 have hp2 : d'.toList.Perm (P.map (·.1)) := by
  have e1 : d'.extract 0 n = d' := by rw [← hps]; simp
  have e2 : d.extract 0 n = d := by rw [← hds]; simp
  rw [e1, e2] at hpl
  rw [hdd] at hpl
  simpa using hpl
 obtain ⟨Q, q1, q2⟩ := qnt (fun z : RowE × En => z.1) hp2 rfl
 have hQl : Q.length = n := by rw [q1.length_eq]; simp [P]
 have hesl : (Q.map (·.2)).Perm l := by
  have := q1.map (fun z : RowE × En => z.2)
  rwa [hPs] at this
 have hQ : ∀ (i : Nat) (z : RowE × En), Q[i]? = some z → d'[i]! = z.1 ∧ z.1.1 = z.2.1 ∧ RV g w z.1.2.1 (.sl 1 (byteRows z.2.2)) := by
  intro i z hz
  have h1 := congrArg (fun l => l[i]?) q2
  simp only [List.getElem?_map, hz, Option.map_some, Array.getElem?_toList] at h1
  have hi : i < d'.size := by rw [hps, ← hQl]; exact (List.getElem?_eq_some_iff.1 hz).1
  refine ⟨?_, hPR z (q1.mem_iff.1 (List.mem_of_getElem? hz))⟩
  rw [getElem!_pos d' i hi]
  rw [Array.getElem?_eq_getElem hi] at h1
  simpa using h1.symm
 have hsorted : (Q.map (·.2)).Pairwise fun a b => cmpB a.1 b.1 ≤ 0 := by
  rw [List.pairwise_iff_getElem]
  intro i j hi hj hij
  simp only [List.length_map] at hi hj
  have zi := hQ i _ (List.getElem?_eq_getElem hi)
  have zj := hQ j _ (List.getElem?_eq_getElem hj)
  have hs := hsort i j (Nat.zero_le _) hij (by omega)
  rw [zi.1, zj.1] at hs
  have hs2 : ¬ cmpB Q[j].1.1 Q[i].1.1 < 0 := of_decide_eq_false hs
  rw [zi.2.1, zj.2.1] at hs2
  simp only [List.getElem_map]
  exact ve.1 hs2
 have hes : Q.map (·.2) = sortEn l := by
  have hn2 : ((Q.map (·.2)).map (·.1)).Nodup := (hesl.map (fun x : En => x.1)).nodup_iff.2 hn
  exact yy (hesl.trans (x9 l).symm) hn2 hsorted (ka l)
 have hwh : w'.heap = (w.heap.modify b' (onCells (putCells (fun v : Value => v) 0 (flatK encR 2 d')))) ++ os := by subst hw'; rfl
 have hother : ∀ k, k ≠ b' → k < w.heap.size → w'.heap[k]? = w.heap[k]? := by
  intro k hk hkl
  rw [hwh, Array.getElem?_append, if_pos (by simpa using hkl), Array.getElem?_modify, if_neg (Ne.symm hk)]
 have hself : w'.heap[b']? = some (.cells (putCells (fun v : Value => v) 0 (flatK encR 2 d') c) et (0, 0)) := by
  rw [hwh, Array.getElem?_append, if_pos (by simpa using hblk), Array.getElem?_modify, if_pos rfl, hh]
  rfl
 have hsize : w.heap.size ≤ w'.heap.size := by
  subst hw'
  simp [sortWorldK, grow, putRowK, putRow, mapBlock, Sort.ahead]
 have htop : w'.os = w.os ∧ w'.tape = w.tape ∧ w'.output = w.output := by subst hw'; exact ⟨rfl, rfl, rfl⟩
 have hne : ∀ k r, g k = r → (∀ i, r ≠ .obj i) → k ≠ b' := fun k r h hr he => by rw [he, hg] at h; exact hr 0 h.symm
 have hG : G g w g w' := by
  refine ⟨htop.1, htop.2.1, htop.2.2, hsize, fun k hk hgk => ⟨hother k (hne k _ hgk (by simp)) hk, hgk⟩, fun k r hk hgk => ⟨hother k (hne k _ hgk (by simp)) hk, hgk⟩,
   fun k r t hk hgk => ⟨r, some t, hgk, Nat.le_refl _, fun i u _ hu => by rw [qv (hother k (hne k _ hgk (by simp)) hk)]; exact hu⟩, fun k id hk hgk => ⟨hgk, ?_⟩⟩
  by_cases hkb : k = b'
  ·subst hkb
   rw [xi hh, xi hself]
   simp [putCells]
  ·exact Nat.le_of_eq (qt (hother k hkb hk)).symm
 refine ⟨_, g, [], rfl, hG, fun k hk => hd k (by omega), by simp [ASlot.toks], ⟨[], rfl, rfl, fun i u s hu => by simp at hu⟩, ⟨fun oid o hid hno => ?_, ho.inj, fun b oid hb => ?_⟩⟩
 ·match oid, hid with
  | 0, hid =>
   simp at hid
   subst hid
   have hle := (x9 l).length_eq
   refine .inl ⟨b', hg, _, et, hself, by simp [putCells, vg, hle]; omega, fun i s hi => ?_⟩
   rw [List.getElem?_map, Option.map_eq_some_iff] at hi
   obtain ⟨x, hx, rfl⟩ := hi
   have hil : i < n * 2 := by
    have := (List.getElem?_eq_some_iff.1 hx).1
    rw [vg, hle, hln] at this
    exact this
   have hQi : i / 2 < Q.length := by omega
   obtain ⟨z1, z2, z3⟩ := hQ (i / 2) _ (List.getElem?_eq_getElem hQi)
   have hz : (sortEn l)[i / 2]? = some Q[i / 2].2 := by rw [← hes, List.getElem?_map, List.getElem?_eq_getElem hQi]; rfl
   obtain ⟨k1, k2⟩ := qdj _ _ _ hz
   have hcv : (putCells (fun v : Value => v) 0 (flatK encR 2 d') c)[i]? = some ((encR Q[i / 2].1)[i % 2]!) := by
    have hic : i < c.size := by omega
    simp only [putCells, Array.getElem?_mapIdx, Array.getElem?_eq_getElem hic, Option.map_some, size_flatK, hps, Nat.zero_le, true_and, Nat.zero_add, hil, if_true, Nat.sub_zero]
    rw [get_flatK encR 2 d' i (by rw [hps]; exact hil), z1]
   rcases Nat.mod_two_eq_zero_or_one i with hp | hp
   ·have e1 : 2 * (i / 2) = i := by omega
    rw [e1] at k1
    rw [k1] at hx; cases hx
    rw [hp] at hcv
    have hcs : (encR Q[i / 2].1)[0]! = .string ⟨Q[i / 2].2.1.toArray⟩ := by rw [← z2]; rfl
    rw [hcs] at hcv
    exact ⟨_, hcv, rfl, .str _⟩
   ·have e1 : 2 * (i / 2) + 1 = i := by omega
    rw [e1] at k2
    rw [k2] at hx; cases hx
    rw [hp] at hcv
    exact ⟨_, hcv, Q[i / 2].1.2.2, z3.mono (hG.rowsKept hd) (fun b id hb => hG.obj b id (hd.lt_obj hb) hb)⟩
  | i + 1, hid => simp at hid
 ·obtain ⟨o, h1, h2⟩ := ho.ids b oid hb
  match oid, h1 with
  | 0, h1 => exact ⟨_, rfl, by simp⟩
  | i + 1, h1 => simp at h1
end Go.Proofs.Ytinnaedmdoengaa
namespace Go.Proofs.Ytinnaedmdoengaa
open Go.Abs
set_option linter.unusedSimpArgs false
set_option linter.unusedVariables false
attribute [go_sem] sliceSOut
def pre (p k : List UInt8) : Bool := decide (p.length ≤ k.length) && k.take p.length == p
noncomputable section
set_option maxRecDepth 100000
def s95r0 : List SOper := [
 ⟨some 4, .mov (.k (.d (.bool false))), none⟩]
def s95r1 : List SOper := [
 ⟨some 5, .mov (.t 0), none⟩,
 ⟨some 6, .lenS (.t 5), none⟩,
 ⟨some 7, .mov (.t 1), none⟩,
 ⟨some 8, .lenS (.t 7), none⟩,
 ⟨some 9, .bin .geq (.t 6) (.t 8), none⟩,
 ⟨some 10, .mov (.t 9), none⟩,
 ⟨some 11, .mov (.t 0), some (10, true)⟩,
 ⟨some 12, .mov (.t 1), some (10, true)⟩,
 ⟨some 13, .lenS (.t 12), some (10, true)⟩,
 ⟨some 14, .sliceS (.t 11) none (some (.t 13)), some (10, true)⟩,
 ⟨some 15, .mov (.t 1), some (10, true)⟩,
 ⟨some 16, .bin .eql (.t 14) (.t 15), some (10, true)⟩,
 ⟨some 17, .pick (.t 10) (.t 16) (.k (.d (.bool false))), none⟩,
 ⟨some 4, .mov (.t 17), none⟩]
def s95 : SCode := (.seq (.region s95r0 0 []) (.seq (.region s95r1 0 []) .ret))
theorem e95 : CodeIs s95.eq_1 := qc s95.eq_1
theorem q4b : RegIs s95r0.eq_1 := qa
theorem q4c : RegIs s95r1.eq_1 := qa
attribute [go_sem] q4b q4c e95
theorem F95 : FnIs Try.prog 95 Try.f95 [] news s95 [.tmp 4] 18 := xa follows Try.func95
def s44r0 : List SOper := [
 ⟨some 4, .mov (.k (.d (.bool false))), none⟩]
def s44r1 : List SOper := [
 ⟨some 5, .mov (.t 0), none⟩,
 ⟨some 6, .mov (.t 1), none⟩,
 ⟨some 7, .call (.k (.d (.func (.func 95) [] []))) [(.t 5), (.t 6)], none⟩,
 ⟨some 4, .mov (.t 7), none⟩]
def s44 : SCode := (.seq (.region s44r0 0 []) (.seq (.region s44r1 0 []) .ret))
theorem e44 : CodeIs s44.eq_1 := qc s44.eq_1
theorem q4d : RegIs s44r0.eq_1 := qa
theorem q4e : RegIs s44r1.eq_1 := qa
attribute [go_sem] q4d q4e e44
theorem F44 : FnIs Try.prog 44 Try.f44 [] news s44 [.tmp 4] 8 := xa follows Try.func44
end
theorem yc (k p : List UInt8) : ACall Try.prog 95 [.d (.str k), .d (.str p)] [] (.d (.bool (pre p k))) [] := by
 refine F95.go ?_
 by_cases h : p.length ≤ k.length
 ·have hd : decide ((k.length : Int) ≥ (p.length : Int)) = true := by simpa using h
  have hd2 : decide (p.length ≤ k.length) = true := by simpa using h
  try simp only [pre, hd, hd2, go_sem, Nat.reduceAdd, Nat.reduceMul, Nat.reduceSub, Nat.reduceEqDiff, Nat.reduceLT, Nat.reduceLeDiff, Nat.reduceBEq, reduceIte, reduceCtorEq, Int.reduceAdd, Int.reduceLT, Int.reduceLE, Int.reduceGT, Int.reduceGE, Int.reduceEq, Int.reduceNe, Int.reduceBEq, Int.reduceBNe, Int.reduceToNat, Int.reduceNeg]
  (repeat (with_reducible refine ob ?_))
  try simp only [hd, Nat.sub_zero, go_sem, Nat.reduceAdd, Nat.reduceMul, Nat.reduceSub, Nat.reduceEqDiff, Nat.reduceLT, Nat.reduceLeDiff, Nat.reduceBEq, reduceIte, reduceCtorEq, Int.reduceAdd, Int.reduceLT, Int.reduceLE, Int.reduceGT, Int.reduceGE, Int.reduceEq, Int.reduceNe, Int.reduceBEq, Int.reduceBNe, Int.reduceToNat, Int.reduceNeg]
 ·have hd : decide ((k.length : Int) ≥ (p.length : Int)) = false := by simpa using h
  have hd2 : decide (p.length ≤ k.length) = false := by simpa using h
  try simp only [pre, hd, hd2, go_sem, Nat.reduceAdd, Nat.reduceMul, Nat.reduceSub, Nat.reduceEqDiff, Nat.reduceLT, Nat.reduceLeDiff, Nat.reduceBEq, reduceIte, reduceCtorEq, Int.reduceAdd, Int.reduceLT, Int.reduceLE, Int.reduceGT, Int.reduceGE, Int.reduceEq, Int.reduceNe, Int.reduceBEq, Int.reduceBNe, Int.reduceToNat, Int.reduceNeg]
  (repeat (with_reducible refine ob ?_))
  try simp only [hd, go_sem, Nat.reduceAdd, Nat.reduceMul, Nat.reduceSub, Nat.reduceEqDiff, Nat.reduceLT, Nat.reduceLeDiff, Nat.reduceBEq, reduceIte, reduceCtorEq, Int.reduceAdd, Int.reduceLT, Int.reduceLE, Int.reduceGT, Int.reduceGE, Int.reduceEq, Int.reduceNe, Int.reduceBEq, Int.reduceBNe, Int.reduceToNat, Int.reduceNeg]
theorem qaj (k p : List UInt8) : ACall Try.prog 44 [.d (.str k), .d (.str p)] [] (.d (.bool (pre p k))) [] := by
 refine F44.go ?_
 try (refine ev ?_; try exact True.intro)
 (repeat (with_reducible refine ob ?_)); first | refine cl F95 (yc k p) ?_ | refine clF F95 (yc k p) (fun _ => by simp only [encOp, encEn, go_sem, Nat.reduceAdd, Nat.reduceMul, Nat.reduceSub, Nat.reduceEqDiff, Nat.reduceLT, Nat.reduceLeDiff, Nat.reduceBEq, reduceIte, reduceCtorEq, Int.reduceAdd, Int.reduceLT, Int.reduceLE, Int.reduceGT, Int.reduceGE, Int.reduceEq, Int.reduceNe, Int.reduceBEq, Int.reduceBNe, Int.reduceToNat, Int.reduceNeg]) ?_
 try (refine ev ?_; try exact True.intro)
noncomputable section
set_option maxRecDepth 100000
def s17ur0 : List SOper := [
 ⟨some 4, .mov (.k (.d .nilsl)), none⟩]
def s17ur1 : List SOper := [
 ⟨some 8, .mov (.t 0), none⟩,
 ⟨some 9, .eqnil false .ptr (.t 8), none⟩]
def s17ur2 : List SOper := [
 ⟨some 4, .mov (.k (.d .nilsl)), none⟩]
def s17ur3 : List SOper := [
 ⟨some 5, .mov (.k (.d .nilsl)), none⟩]
def s17ur4 : List SOper := [
 ⟨some 10, .mov (.t 0), none⟩,
 ⟨some 11, .nilCheck (.t 10), none⟩,
 ⟨some 12, .faddr 2 (.t 11), none⟩,
 ⟨some 13, .load none (.t 12), none⟩,
 ⟨some 14, .rangeM 1 (.t 13), none⟩]
def s17ur5 : List SOper := [
 ⟨some 15, .nextM (.t 14), none⟩,
 ⟨some 16, .extract 0 (.t 15), none⟩]
def s17ur6 : List SOper := [
 ⟨some 17, .entryM (.t 14), none⟩,
 ⟨some 18, .extract 0 (.t 17), none⟩,
 ⟨some 19, .extract 1 (.t 17), none⟩,
 ⟨some 6, .mov (.t 18), none⟩,
 ⟨some 7, .mov (.t 19), none⟩]
def s17ur7 : List SOper := [
 ⟨some 20, .mov (.t 6), none⟩,
 ⟨some 21, .mov (.t 1), none⟩,
 ⟨some 22, .call (.k (.d (.func (.func 44) [] []))) [(.t 20), (.t 21)], none⟩]
def s17ur8 : List SOper := [
 ⟨some 23, .mov (.t 5), none⟩,
 ⟨some 24, .mov (.t 6), none⟩,
 ⟨some 25, .mov (.t 7), none⟩,
 ⟨some 26, .call (.k (.d (.func (.func 43) [] []))) [(.t 25)], none⟩,
 ⟨some 27, .build [(.str []), .nilsl] [(0, 1, (.t 24)), (1, 1, (.t 26))], none⟩,
 ⟨some 28, .buildSlice false 2 1 [(.str []), .nilsl] [(0, 2, (.t 27))], none⟩,
 ⟨some 29, .append true 2 40 (.t 23) (.t 28), none⟩,
 ⟨some 5, .mov (.t 29), none⟩]
def s17ul9 : SCode := (.seq (.region s17ur5 0 []) (.seq (.cond (.t 16) .skip (.exit 0)) (.block 1 (.seq (.region s17ur6 0 []) (.seq (.region s17ur7 0 []) (.cond (.t 22) (.region s17ur8 0 []) .skip))))))
theorem qx6 : CodeIs s17ul9.eq_1 := qc s17ul9.eq_1
def s17ur10 : List SOper := [
 ⟨some 30, .mov (.t 5), none⟩,
 ⟨some 31, .call (.k (.d (.func (.func 45) [] []))) [(.t 30), (.k (.d (.func (.func 46) [] [])))], none⟩]
def s17ur11 : List SOper := [
 ⟨some 32, .mov (.t 5), none⟩,
 ⟨some 4, .mov (.t 32), none⟩]
def s17u : SCode := (.seq (.region s17ur0 0 []) (.seq (.seq (.region s17ur1 0 []) (.cond (.t 9) (.seq (.region s17ur2 0 []) (.pause .ret)) .skip)) (.seq (.region s17ur3 0 []) (.seq (.seq (.region s17ur4 1 []) (.block 0 (.loop s17ul9))) (.seq (.pause (.region s17ur10 0 [])) (.seq (.region s17ur11 0 []) (.pause .ret)))))))
theorem q9u : CodeIs s17u.eq_1 := qc s17u.eq_1
theorem qx7 : RegIs s17ur0.eq_1 := qa
theorem qx8 : RegIs s17ur1.eq_1 := qa
theorem qx9 : RegIs s17ur2.eq_1 := qa
theorem qya : RegIs s17ur3.eq_1 := qa
theorem qyb : RegIs s17ur4.eq_1 := qa
theorem qyc : RegIs s17ur5.eq_1 := qa
theorem qyd : RegIs s17ur6.eq_1 := qa
theorem qye : RegIs s17ur7.eq_1 := qa
theorem qyf : RegIs s17ur8.eq_1 := qa
theorem qsm : RegIs s17ur10.eq_1 := qa
theorem qsn : RegIs s17ur11.eq_1 := qa
attribute [go_sem] qx7 qx8 qx9 qya qyb qyc qyd qye qyf qx6 qsm qsn q9u
theorem q8w : FnIs Try.prog 17 Try.f17 [29] news s17u [.tmp 4] 33 := xa follows Try.func17
def s45r0 : List SOper := [
 ⟨some 5, .mov (.t 0), none⟩,
 ⟨some 6, .len (.t 5), none⟩,
 ⟨some 4, .mov (.t 6), none⟩]
def s45r1 : List SOper := [
 ⟨some 7, .mov (.t 0), none⟩,
 ⟨some 8, .mov (.t 4), none⟩,
 ⟨some 9, .mov (.t 4), none⟩,
 ⟨some 10, .conv .u64 (.t 9), none⟩,
 ⟨some 11, .call (.k (.d (.func (.func 97) [] []))) [(.t 10)], none⟩,
 ⟨some 12, .mov (.t 1), none⟩,
 ⟨some 13, .call (.k (.d (.func (.func 96) [] []))) [(.t 7), (.k (.d (.int .i64 0))), (.t 8), (.t 11), (.t 12)], none⟩]
def s45 : SCode := (.seq (.region s45r0 0 []) (.region s45r1 0 []))
theorem e45 : CodeIs s45.eq_1 := qc s45.eq_1
theorem q4f : RegIs s45r0.eq_1 := qa
theorem q4g : RegIs s45r1.eq_1 := qa
attribute [go_sem] q4f q4g e45
theorem F45 : FnIs Try.prog 45 Try.f45 [] news s45 [] 14 := xa follows Try.func45
end
theorem qiw {α β : Type} {f : α → β} : ∀ {l : List α}, (l.map f).Nodup → ∀ {x y : α}, x ∈ l → y ∈ l → f x = f y → x = y
 | [], _, x, y, hx, _, _ => by cases hx
 | a :: l, hn, x, y, hx, hy, h => by
  simp only [List.map_cons, List.nodup_cons, List.mem_map, not_exists, not_and] at hn
  rcases List.mem_cons.1 hx with rfl | hx'
  ·rcases List.mem_cons.1 hy with rfl | hy'
   ·rfl
   ·exact absurd h.symm (hn.1 y hy')
  ·rcases List.mem_cons.1 hy with rfl | hy'
   ·exact absurd h (hn.1 x hx')
   ·exact qiw hn.2 hx' hy' h
theorem jh {α β : Type} (f : α → β) : ∀ {l : List α}, (l.map f).Nodup → l.Nodup
 | [], _ => List.nodup_nil
 | a :: l, hn => by
  simp only [List.map_cons, List.nodup_cons, List.mem_map, not_exists, not_and] at hn ⊢
  exact ⟨fun h => hn.1 a h rfl, jh f hn.2⟩
theorem qjm {α : Type} (f : α → Nat) : ∀ {l : List α}, (l.map f).Nodup → ∀ {x : α}, x ∈ l → (l.find? fun y => f y == f x) = some x
 | [], _, x, hx => by cases hx
 | a :: l, hn, x, hx => by
  rw [List.find?_cons]
  by_cases h : f a = f x
  ·have := qiw hn (List.mem_cons_self ..) hx h
   subst this
   simp
  ·rw [beq_false_of_ne h]
   rcases List.mem_cons.1 hx with rfl | hx'
   ·exact absurd rfl h
   ·exact qjm f (by simp only [List.map_cons, List.nodup_cons] at hn; exact hn.2) hx'
theorem qnu {α : Type} [DecidableEq α] : ∀ {a b : List α}, a.Nodup → (∀ x ∈ a, x ∈ b) → a.length ≤ b.length
 | [], _, _, _ => Nat.zero_le _
 | x :: a, b, h, hs => by
  have hx := hs x (List.mem_cons_self ..)
  have h' := List.nodup_cons.1 h
  have := qnu (a := a) (b := b.erase x) h'.2 fun y hy => (List.mem_erase_of_ne (by rintro rfl; exact h'.1 hy)).2 (hs y (List.mem_cons_of_mem _ hy))
  rw [List.length_erase_of_mem hx] at this
  have := List.length_pos_of_mem hx
  simp only [List.length_cons]; omega
theorem qlc (l : List En) : (l.map encEn).flatten = flatEn l := rfl
theorem qix (l : List En) : (flatEn l).all D.isCell = true := by induction l <;> simp_all [flatEn, encEn, D.isCell]
attribute [go_sem] qlc qg5 qix
structure Cont.Ok (m : Cont) : Prop where
 num : (m.l.map (·.1)).Nodup
 lt : ∀ x ∈ m.l, x.1 < m.c
 key : (m.l.map (·.2.1)).Nodup
def enOf (x : KV) : En := (x.2.1, x.2.2)
def preL (p : List UInt8) (l : List KV) : List En := (l.filter fun x => pre p x.2.1).map enOf
def sList (m : Cont) (p : List UInt8) : List En := sortEn (preL p m.l)
theorem qnv {p : List UInt8} {l : List KV} (h : (l.map (·.2.1)).Nodup) : ((preL p l).map (·.1)).Nodup := by
 unfold preL
 rw [List.map_map]
 exact List.Nodup.sublist (List.Sublist.map _ List.filter_sublist) h
theorem qnw {a b : List En} (h : a.Perm b) (hn : (a.map (·.1)).Nodup) : sortEn a = sortEn b := by
 have h1 := x9 a
 have h2 := x9 b
 refine yy (h1.trans (h.trans h2.symm)) ((h1.map (fun x : En => x.1)).nodup_iff.2 hn) (ka a) (ka b)
def Slist (s : Sto) (p : List UInt8) (i : { i : List KV // (i.map (·.1)).Nodup ∧ ∀ x ∈ i, x ∈ s.m.l }) : St :=
 ⟨[(1, true, .d (.str p)), (5, true, .uni 0 2 ((preL p i.val).map encEn)), (14, true, .d (.ptr 2 0))], [stoO s 1, mapO s.m, .iter (.d (.map 1)) s.m.c (i.val.map (·.1)) s.m.c], [0], 1⟩
set_option maxRecDepth 10000 in
theorem qso (s : Sto) (p : List UInt8) (hm : s.m.Ok) (hl : s.m.l.length ≤ 1000) (hv : ∀ x ∈ s.m.l, x.2.2.length ≤ 1000000) :
  ACall Try.prog 17 [.d (.ptr 0 0), .d (.str p)] [stoO s 1, mapO s.m] (.d (.sl 2 ((sList s.m p).map encEn))) [stoO s 1, mapO s.m] := by
 refine q8w.go ?_
 try simp only [stoO, mapO, go_sem, Nat.reduceAdd, Nat.reduceMul, Nat.reduceSub, Nat.reduceEqDiff, Nat.reduceLT, Nat.reduceLeDiff, Nat.reduceBEq, reduceIte, reduceCtorEq, Int.reduceAdd, Int.reduceLT, Int.reduceLE, Int.reduceGT, Int.reduceGE, Int.reduceEq, Int.reduceNe, Int.reduceBEq, Int.reduceBNe, Int.reduceToNat, Int.reduceNeg]
 (repeat (with_reducible refine ob ?_)); refine no_ ?_
 try (refine ev ?_; try exact True.intro)
 refine qn (Slist s p) (fun i => s.m.l.length - i.val.length) ⟨[], by simp, by simp⟩ ?_ (fun i => ?_)
 ·try simp only [Slist, stoO, mapO, preL, List.filter_nil, List.map_nil, go_sem, Nat.reduceAdd, Nat.reduceMul, Nat.reduceSub, Nat.reduceEqDiff, Nat.reduceLT, Nat.reduceLeDiff, Nat.reduceBEq, reduceIte, reduceCtorEq, Int.reduceAdd, Int.reduceLT, Int.reduceLE, Int.reduceGT, Int.reduceGE, Int.reduceEq, Int.reduceNe, Int.reduceBEq, Int.reduceBNe, Int.reduceToNat, Int.reduceNeg]
 obtain ⟨i, hi1, hi2⟩ := i
 try simp only [Slist, stoO, mapO, go_sem, Nat.reduceAdd, Nat.reduceMul, Nat.reduceSub, Nat.reduceEqDiff, Nat.reduceLT, Nat.reduceLeDiff, Nat.reduceBEq, reduceIte, reduceCtorEq, Int.reduceAdd, Int.reduceLT, Int.reduceLE, Int.reduceGT, Int.reduceGE, Int.reduceEq, Int.reduceNe, Int.reduceBEq, Int.reduceBNe, Int.reduceToNat, Int.reduceNeg]
 have hleft : leftE (s.m.l.map encKV) (i.map (·.1)) = (s.m.l.filter fun x => !(i.map (·.1)).contains x.1).map encKV := by
  unfold leftE
  rw [List.filter_map]; rfl
 have hone : ∀ x ∈ s.m.l, ∀ y ∈ s.m.l, x.1 = y.1 → x = y := fun x hx y hy h => qiw hm.num hx hy h
 refine qpe (last := s.m.c) ⟨rfl, rfl, by intro e he; obtain ⟨x, hx, rfl⟩ := List.mem_map.1 he; exact hm.lt x hx, Nat.le_refl _⟩ (fun hl0 => ?_) (fun e he => ?_)
 ·
  rw [hleft, List.map_eq_nil_iff, List.filter_eq_nil_iff] at hl0
  have hall : ∀ x ∈ s.m.l, x ∈ i := by
   intro x hx
   have := hl0 x hx
   simp only [List.contains_eq_mem, decide_eq_true_eq, Bool.not_eq_true, Bool.not_eq_false', Bool.not_not] at this
   simp at this
   obtain ⟨a, b, hab⟩ := this
   have := hone x hx _ (hi2 _ hab) rfl
   rw [this]; exact hab
  have hperm : i.Perm s.m.l := by
   refine (List.perm_ext_iff_of_nodup (jh _ hi1) (jh _ hm.num)).2 fun x => ⟨hi2 x, hall x⟩
  have hpp : (preL p i).Perm (preL p s.m.l) := (hperm.filter _).map _
  have hpn : ((preL p i).map (·.1)).Nodup := by
   refine (hpp.map (fun x : En => x.1)).nodup_iff.2 ?_
   exact qnv hm.key
  have hsame : sortEn (preL p i) = sList s.m p := qnw hpp hpn
  have hlen : (preL p i).length ≤ 1000 := by
   have h1 := hpp.length_eq
   have h2 : (preL p s.m.l).length ≤ s.m.l.length := by simp only [preL, List.length_map]; exact List.length_filter_le _ _
   omega
  try simp only [overV, go_sem, Nat.reduceAdd, Nat.reduceMul, Nat.reduceSub, Nat.reduceEqDiff, Nat.reduceLT, Nat.reduceLeDiff, Nat.reduceBEq, reduceIte, reduceCtorEq, Int.reduceAdd, Int.reduceLT, Int.reduceLE, Int.reduceGT, Int.reduceGE, Int.reduceEq, Int.reduceNe, Int.reduceBEq, Int.reduceBNe, Int.reduceToNat, Int.reduceNeg]
  (repeat (with_reducible refine ob ?_)); refine no_ ?_
  try (refine ev ?_; try exact True.intro)
  refine qtn (.fr 5) 0 2 ((preL p i).map encEn) ?_
  refine pu ?_
  try (refine ev ?_; try exact True.intro)
  refine clO [3] F45 (qsl (preL p i) hpn (by omega)) ?_
  try (refine ev ?_; try exact True.intro)
  have hsl : (preL p i).length = (sortEn (preL p i)).length := (x9 _).length_eq.symm
  rw [hsl]
  refine qto 3 2 ((sortEn (preL p i)).map encEn) ?_ (hc := ?_) (hcc := ?_) (hes := ?_) (hok := D.okWR_noPtr (qb0 _))
  ·refine pu ?_
   try simp only [hsame, go_sem, Nat.reduceAdd, Nat.reduceMul, Nat.reduceSub, Nat.reduceEqDiff, Nat.reduceLT, Nat.reduceLeDiff, Nat.reduceBEq, reduceIte, reduceCtorEq, Int.reduceAdd, Int.reduceLT, Int.reduceLE, Int.reduceGT, Int.reduceGE, Int.reduceEq, Int.reduceNe, Int.reduceBEq, Int.reduceBNe, Int.reduceToNat, Int.reduceNeg]
  ·try (refine ev ?_; try exact True.intro)
  ·try (refine ev ?_; try exact True.intro)
  ·intro r hr
   obtain ⟨x, _, rfl⟩ := List.mem_map.1 hr
   rfl
 ·rw [hleft] at he
  obtain ⟨x, hx, rfl⟩ := List.mem_map.1 he
  rw [List.mem_filter] at hx
  obtain ⟨hx1, hx2⟩ := hx
  have hx3 : x.1 ∉ i.map (·.1) := by simpa using hx2
  have hnext : ((i ++ [x]).map (·.1)).Nodup ∧ ∀ y ∈ i ++ [x], y ∈ s.m.l := by
   refine ⟨by rw [List.map_append]; exact List.nodup_append.2 ⟨hi1, by simp, fun a ha b hb h => by simp at hb; subst hb; subst h; exact hx3 ha⟩, fun y hy => ?_⟩
   rcases List.mem_append.1 hy with h | h
   ·exact hi2 y h
   ·simp at h; subst h; exact hx1
  have hil : i.length < s.m.l.length := by
   have := qnu (jh _ hnext.1) hnext.2
   simp at this; omega
  have hpl : (preL p i).length ≤ i.length := by simp only [preL, List.length_map]; exact List.length_filter_le _ _
  try simp only [entV, go_sem, Nat.reduceAdd, Nat.reduceMul, Nat.reduceSub, Nat.reduceEqDiff, Nat.reduceLT, Nat.reduceLeDiff, Nat.reduceBEq, reduceIte, reduceCtorEq, Int.reduceAdd, Int.reduceLT, Int.reduceLE, Int.reduceGT, Int.reduceGE, Int.reduceEq, Int.reduceNe, Int.reduceBEq, Int.reduceBNe, Int.reduceToNat, Int.reduceNeg]
  (repeat (with_reducible refine ob ?_)); refine yv ?_
  try (refine ev ?_; try exact True.intro)
  refine qmi (e := encKV x) (mid := 1) (since := s.m.c) (seen := i.map (·.1) ++ [x.1]) (clock := s.m.c) (es := s.m.l.map encKV) ⟨rfl, rfl, by simp [encKV], ?_⟩ ?_
  ·rw [List.find?_map]
   have h1 : s.m.l.find? ((fun e : Nat × D × D => e.1 == (encKV x).1) ∘ encKV) = some x := qjm (fun y : KV => y.1) hm.num hx1
   rw [h1]; rfl
  try simp only [encKV, go_sem, Nat.reduceAdd, Nat.reduceMul, Nat.reduceSub, Nat.reduceEqDiff, Nat.reduceLT, Nat.reduceLeDiff, Nat.reduceBEq, reduceIte, reduceCtorEq, Int.reduceAdd, Int.reduceLT, Int.reduceLE, Int.reduceGT, Int.reduceGE, Int.reduceEq, Int.reduceNe, Int.reduceBEq, Int.reduceBNe, Int.reduceToNat, Int.reduceNeg]
  (repeat (with_reducible refine ob ?_)); first | refine cl F44 (qaj x.2.1 p) ?_ | refine clF F44 (qaj x.2.1 p) (fun _ => by simp only [encOp, encEn, go_sem, Nat.reduceAdd, Nat.reduceMul, Nat.reduceSub, Nat.reduceEqDiff, Nat.reduceLT, Nat.reduceLeDiff, Nat.reduceBEq, reduceIte, reduceCtorEq, Int.reduceAdd, Int.reduceLT, Int.reduceLE, Int.reduceGT, Int.reduceGE, Int.reduceEq, Int.reduceNe, Int.reduceBEq, Int.reduceBNe, Int.reduceToNat, Int.reduceNeg]) ?_
  try (refine ev ?_; try exact True.intro)
  (repeat (with_reducible refine ob ?_)); refine zb _ (fun h => ?_) (fun h => ?_)
  ·try (refine ev ?_; try exact True.intro)
   (repeat (with_reducible refine ob ?_)); first | refine cl F43 (xn x.2.2 (by have := hv x hx1; omega)) ?_ | refine clF F43 (xn x.2.2 (by have := hv x hx1; omega)) (fun _ => by simp only [encOp, encEn, go_sem, Nat.reduceAdd, Nat.reduceMul, Nat.reduceSub, Nat.reduceEqDiff, Nat.reduceLT, Nat.reduceLeDiff, Nat.reduceBEq, reduceIte, reduceCtorEq, Int.reduceAdd, Int.reduceLT, Int.reduceLE, Int.reduceGT, Int.reduceGE, Int.reduceEq, Int.reduceNe, Int.reduceBEq, Int.reduceBNe, Int.reduceToNat, Int.reduceNeg]) ?_
   try (refine ev ?_; try exact True.intro)
   refine ⟨by omega, ?_⟩
   have hpx : preL p (i ++ [x]) = preL p i ++ [enOf x] := by simp [preL, h]
   refine ⟨⟨i ++ [x], hnext⟩, ?_, by simp only [List.length_append, List.length_singleton]; omega⟩
   try simp only [Slist, stoO, mapO, hpx, List.map_append, encEn, enOf, go_sem, Nat.reduceAdd, Nat.reduceMul, Nat.reduceSub, Nat.reduceEqDiff, Nat.reduceLT, Nat.reduceLeDiff, Nat.reduceBEq, reduceIte, reduceCtorEq, Int.reduceAdd, Int.reduceLT, Int.reduceLE, Int.reduceGT, Int.reduceGE, Int.reduceEq, Int.reduceNe, Int.reduceBEq, Int.reduceBNe, Int.reduceToNat, Int.reduceNeg]
  ·have hpx : preL p (i ++ [x]) = preL p i := by simp [preL, h]
   try (refine ev ?_; try exact True.intro)
   refine ⟨⟨i ++ [x], hnext⟩, ?_, by simp only [List.length_append, List.length_singleton]; omega⟩
   try simp only [Slist, stoO, mapO, hpx, List.map_append, encEn, enOf, go_sem, Nat.reduceAdd, Nat.reduceMul, Nat.reduceSub, Nat.reduceEqDiff, Nat.reduceLT, Nat.reduceLeDiff, Nat.reduceBEq, reduceIte, reduceCtorEq, Int.reduceAdd, Int.reduceLT, Int.reduceLE, Int.reduceGT, Int.reduceGE, Int.reduceEq, Int.reduceNe, Int.reduceBEq, Int.reduceBNe, Int.reduceToNat, Int.reduceNeg]
end Go.Proofs.Ytinnaedmdoengaa
namespace Go.Proofs.Ytinnaedmdoengaa
open Go.Abs
set_option linter.unusedSimpArgs false
set_option linter.unusedVariables false
theorem jo {k : List UInt8} {x : KV} : hasKey k x = true ↔ k = x.2.1 := by simp [hasKey]
theorem qb1 {k v : List UInt8} : ∀ {l : List KV} {j : Nat}, l.findIdx? (hasKey k) = some j → ∀ k', (l.modify j fun e => (e.1, k, v)).find? (hasKey k') = if k' = k then some ((l[j]?.getD (0, [], [])).1, k, v) else l.find? (hasKey k')
 | [], j, h, k' => by simp at h
 | a :: l, j, h, k' => by
  rw [List.findIdx?_cons] at h
  by_cases ha : hasKey k a = true
  ·rw [if_pos ha] at h
   cases h
   simp only [List.modify_zero_cons, List.find?_cons, List.getElem?_cons_zero, Option.getD_some]
   by_cases hk : k' = k
   ·subst hk
    have : hasKey k' (a.1, k', v) = true := jo.2 rfl
    rw [this, if_pos rfl]
   ·have h1 : hasKey k' (a.1, k, v) = false := by simpa [hasKey] using hk
    have h2 : hasKey k' a = false := by rw [jo] at ha; simp [hasKey, ← ha, hk]
    rw [h1, h2, if_neg hk]
  ·rw [if_neg (by simpa using ha)] at h
   obtain ⟨i, hi, rfl⟩ := Option.map_eq_some_iff.1 h
   simp only [List.modify_succ_cons, List.find?_cons, List.getElem?_cons_succ]
   have ih := qb1 (v := v) hi k'
   by_cases hk : k' = k
   ·subst hk
    have : hasKey k' a = false := by simpa using ha
    rw [this]
    exact ih
   ·cases h2 : hasKey k' a with
    | true => rw [if_neg hk]
    | false => rw [ih]
theorem qg6 {k : List UInt8} {l : List KV} (h : l.findIdx? (hasKey k) = none) : l.find? (hasKey k) = none := by
 rw [List.findIdx?_eq_none_iff] at h
 exact List.find?_eq_none.2 fun x hx => by rw [h x hx]; simp
theorem qqq (k v : List UInt8) (m : Cont) (k' : List UInt8) : mGet k' (mPut k v m) = if k' = k then some v else mGet k' m := by
 unfold mGet mPut
 cases h : m.l.findIdx? (hasKey k) with
 | some j =>
  simp only [qb1 h k']
  split <;> rfl
 | none =>
  simp only [List.find?_append]
  by_cases hk : k' = k
  ·subst hk
   rw [qg6 h, if_pos rfl]
   simp [hasKey]
  ·rw [if_neg hk]
   have : [(m.c, k, v)].find? (hasKey k') = none := by simp [hasKey, hk]
   rw [this, Option.or_none]
theorem qdk {k v : List UInt8} : ∀ {l : List KV} {j : Nat}, l.findIdx? (hasKey k) = some j → (l.modify j fun e => (e.1, k, v)).map (·.2.1) = l.map (·.2.1) ∧ (l.modify j fun e => (e.1, k, v)).map (·.1) = l.map (·.1)
 | [], j, h => by simp at h
 | a :: l, j, h => by
  rw [List.findIdx?_cons] at h
  by_cases ha : hasKey k a = true
  ·rw [if_pos ha] at h
   cases h
   rw [jo] at ha
   simp only [List.modify_zero_cons, List.map_cons, ha, and_self]
  ·rw [if_neg (by simpa using ha)] at h
   obtain ⟨i, hi, rfl⟩ := Option.map_eq_some_iff.1 h
   obtain ⟨h1, h2⟩ := qdk (v := v) hi
   simp only [List.modify_succ_cons, List.map_cons, h1, h2, and_self]
theorem qdl {α : Type} {l : List α} {x : α} (h : l.Nodup) (hx : x ∉ l) : (l ++ [x]).Nodup :=
 List.nodup_append.2 ⟨h, by simp, fun a ha b hb e => by simp at hb; subst hb; subst e; exact hx ha⟩
theorem qnx {m : Cont} (h : m.Ok) (k v : List UInt8) : (mPut k v m).Ok := by
 unfold mPut
 cases hf : m.l.findIdx? (hasKey k) with
 | some j =>
  obtain ⟨h1, h2⟩ := qdk (v := v) hf
  refine ⟨by simpa only [h2] using h.num, fun x hx => ?_, by simpa only [h1] using h.key⟩
  have : x.1 ∈ (m.l.modify j fun e => (e.1, k, v)).map (·.1) := List.mem_map_of_mem hx
  rw [h2] at this
  obtain ⟨y, hy, he⟩ := List.mem_map.1 this
  rw [← he]; exact h.lt y hy
 | none =>
  rw [List.findIdx?_eq_none_iff] at hf
  refine ⟨?_, fun x hx => ?_, ?_⟩
  ·rw [List.map_append]
   refine qdl h.num fun hm => ?_
   obtain ⟨y, hy, he⟩ := List.mem_map.1 hm
   have := h.lt y hy
   simp only at he
   omega
  ·simp only
   rcases List.mem_append.1 hx with hx | hx
   ·have := h.lt x hx; omega
   ·simp at hx; subst hx; simp
  ·rw [List.map_append]
   refine qdl h.key fun hm => ?_
   obtain ⟨y, hy, he⟩ := List.mem_map.1 hm
   have := hf y hy
   simp [hasKey, he] at this
theorem yd (k : List UInt8) (m : Cont) : (mDel k m).l.Sublist m.l := by
 unfold mDel
 split
 ·exact List.eraseIdx_sublist ..
 ·exact List.Sublist.refl _
theorem qny {m : Cont} (h : m.Ok) (k : List UInt8) : (mDel k m).Ok :=
 ⟨List.Nodup.sublist ((yd k m).map _) h.num, fun x hx => by rw [qq9]; exact h.lt x ((yd k m).subset hx), List.Nodup.sublist ((yd k m).map _) h.key⟩
theorem qdm {k : List UInt8} : ∀ {l : List KV} {j : Nat}, l.findIdx? (hasKey k) = some j → (l.map (·.2.1)).Nodup → ∀ k', (l.eraseIdx j).find? (hasKey k') = if k' = k then none else l.find? (hasKey k')
 | [], j, h, _, k' => by simp at h
 | a :: l, j, h, hn, k' => by
  rw [List.findIdx?_cons] at h
  simp only [List.map_cons, List.nodup_cons] at hn
  by_cases ha : hasKey k a = true
  ·rw [if_pos ha] at h
   cases h
   rw [jo] at ha
   simp only [List.eraseIdx_cons_zero, List.find?_cons]
   by_cases hk : k' = k
   ·subst hk
    rw [if_pos rfl]
    refine List.find?_eq_none.2 fun x hx hk => ?_
    rw [jo] at hk
    exact hn.1 (List.mem_map.2 ⟨x, hx, by rw [← ha, ← hk]⟩)
   ·rw [if_neg hk]
    have h2 : hasKey k' a = false := by simp [hasKey, ← ha, hk]
    rw [h2]
  ·rw [if_neg (by simpa using ha)] at h
   obtain ⟨i, hi, rfl⟩ := Option.map_eq_some_iff.1 h
   simp only [List.eraseIdx_cons_succ, List.find?_cons]
   have ih := qdm hi hn.2 k'
   by_cases hk : k' = k
   ·subst hk
    have : hasKey k' a = false := by simpa using ha
    rw [this, if_pos rfl]
    rw [if_pos rfl] at ih
    exact ih
   ·cases h2 : hasKey k' a with
    | true => rw [if_neg hk]
    | false => rw [ih]
theorem qqr {m : Cont} (h : m.Ok) (k k' : List UInt8) : mGet k' (mDel k m) = if k' = k then none else mGet k' m := by
 unfold mGet mDel
 cases hf : m.l.findIdx? (hasKey k) with
 | some j =>
  simp only [qdm hf h.key k']
  split <;> rfl
 | none =>
  simp only
  split
  ·rename_i hk; subst hk; rw [qg6 hf]; rfl
  ·rfl
theorem qz2 (k v : List UInt8) (m : Cont) : (mPut k v m).l.length ≤ m.l.length + 1 := by
 unfold mPut
 split <;> simp
theorem qqs (k : List UInt8) (m : Cont) : (mDel k m).l.length ≤ m.l.length := (yd k m).length_le
def kvOk (x : KV) : Prop := 1 ≤ x.2.1.length ∧ x.2.1.length ≤ 40 ∧ x.2.2.length ≤ 900
theorem qqt {k v : List UInt8} {m : Cont} {x : KV} (h : x ∈ (mPut k v m).l) : x ∈ m.l ∨ (x.2.1 = k ∧ x.2.2 = v) := by
 unfold mPut at h
 split at h
 ·rename_i j hj
  simp only at h
  obtain ⟨i, hi⟩ := List.getElem?_of_mem h
  rw [List.getElem?_modify] at hi
  cases hg : m.l[i]? with
  | none => rw [hg] at hi; cases hi
  | some y =>
   rw [hg] at hi
   simp only [Option.map_eq_map, Option.map_some, Option.some.injEq] at hi
   split at hi
   ·subst hi; exact .inr ⟨rfl, rfl⟩
   ·subst hi; exact .inl (List.mem_of_getElem? hg)
 ·rcases List.mem_append.1 h with h | h
  ·exact .inl h
  ·simp at h; subst h; exact .inr ⟨rfl, rfl⟩
structure Cont.Good (m : Cont) : Prop where
 ok : m.Ok
 few : m.l.length ≤ 400
 small : ∀ x ∈ m.l, kvOk x
theorem we : ∀ (l : List OpS) {m : Cont}, m.Good → (∀ o ∈ l, sProper o = true) → (mApply m l).2 = true → (mApply m l).1.Good
 | [], m, h, _, _ => h
 | o :: l, m, h, hp, hy => by
  rw [mApply] at hy ⊢
  have ho := x8.1 (hp o (List.mem_cons_self ..))
  have hp' := fun x hx => hp x (List.mem_cons_of_mem _ hx)
  split at hy
  ·rename_i hd
   rw [if_pos hd]
   exact we l ⟨qny h.ok _, Nat.le_trans (qqs _ _) h.few, fun x hx => h.small x ((yd _ _).subset hx)⟩ hp' hy
  ·rename_i hd
   rw [if_neg hd]
   split at hy
   ·cases hy
   ·rename_i h4
    rw [if_neg h4]
    refine we l ⟨qnx h.ok _ _, by omega, fun x hx => ?_⟩ hp' hy
    rcases qqt hx with hx | ⟨h1, h2⟩
    ·exact h.small x hx
    ·exact ⟨by rw [h1]; exact ho.1, by rw [h1]; exact ho.2.1, by rw [h2]; exact ho.2.2.1⟩
theorem qiy (f r : List UInt8) (hr : r.length ≤ 2000) : (wAppend f r).length ≤ f.length + 70000 := by
 have := qbx _ r (Nat.le_refl _)
 unfold wAppend
 rw [qby _ _ (fun q hq => (jz _ r (Nat.le_refl _) q hq).2)]
 simp only; omega
structure Sto.Ok (n : Nat) (s : Sto) : Prop where
 good : s.m.Good
 file : s.file.length ≤ n * 70000
theorem qsp (n : Nat) : newS.Ok n := by
 refine ⟨⟨⟨List.nodup_nil, fun x hx => (by cases hx), List.nodup_nil⟩, ?_, fun x hx => (by cases hx)⟩, ?_⟩
 ·simp only [newS, emptyC, List.length_nil, Nat.zero_le]
 ·simp only [newS, List.length_nil, Nat.zero_le]
theorem Sto.Ok.mono {n m : Nat} {s : Sto} (h : s.Ok n) (hn : n ≤ m) : s.Ok m := ⟨h.good, Nat.le_trans h.file (Nat.mul_le_mul_right _ hn)⟩
theorem qey (s : Sto) (l : List OpS) : ((sCommit s l).2 ≠ 0 ∧ (sCommit s l).1 = s) ∨ ((sCommit s l).2 = 0 ∧ (sEncode l).2 = 0 ∧ (mApply s.m l).2 = true ∧ (sCommit s l).1 = ⟨wAppend s.file (sEncode l).1, s.synced, (mApply s.m l).1⟩) := by
 unfold sCommit
 split
 ·exact .inl ⟨by assumption, rfl⟩
 ·split
  ·exact .inl ⟨by simp, rfl⟩
  ·rename_i h1 h2
   exact .inr ⟨rfl, by simpa using h1, by simpa using h2, rfl⟩
theorem qb2 {n : Nat} {s : Sto} (h : s.Ok n) (l : List OpS) : (sCommit s l).1.Ok (n + 1) := by
 rcases qey s l with ⟨_, he⟩ | ⟨_, h1, h2, he⟩
 ·rw [he]; exact h.mono (Nat.le_succ _)
 ·rw [he]
  refine ⟨we l h.good (j0 h1).2.1 h2, ?_⟩
  have := qiy s.file _ (z7 l)
  have := h.file
  simp only; omega
theorem qdn {s : Sto} {l : List OpS} (hl : l.length ≤ 100000) (hf : s.file.length ≤ 100000000) (h : (sCommit s l).2 = 0) :
  ACall Try.prog 13 [.d (.ptr 0 0), .d (.sl 3 (l.map encOp))] [stoO s 1, mapO s.m] (.d (.int .i64 0)) [stoO (sCommit s l).1 2, mapO s.m, mapO (sCommit s l).1.m] := by
 have := qg2 s l hl hf
 rw [afterC, if_pos h, h] at this
 exact this
theorem qyg {s : Sto} {l : List OpS} (hl : l.length ≤ 100000) (hf : s.file.length ≤ 100000000) (h : (sCommit s l).2 ≠ 0) :
  ACall Try.prog 13 [.d (.ptr 0 0), .d (.sl 3 (l.map encOp))] [stoO s 1, mapO s.m] (.d (.int .i64 (sCommit s l).2)) [stoO s 1, mapO s.m, .none] := by
 have := qg2 s l hl hf
 rw [afterC, if_neg h] at this
 exact this
def lastOf (k : List UInt8) : Option (List UInt8) → List OpS → Option (List UInt8)
 | a, [] => a
 | a, o :: l => lastOf k (if o.key = k then (if o.del then none else some o.val) else a) l
theorem qdo (k : List UInt8) : ∀ (l : List OpS) {m : Cont}, m.Ok → (mApply m l).2 = true → mGet k (mApply m l).1 = lastOf k (mGet k m) l
 | [], m, _, _ => rfl
 | o :: l, m, h, hy => by
  rw [mApply] at hy ⊢
  rw [lastOf]
  split at hy
  ·rename_i hd
   rw [if_pos hd, qdo k l (qny h _) hy, qqr h]
   congr 1
   by_cases hk : k = o.key
   ·rw [if_pos hk, if_pos hk.symm, if_pos hd]
   ·rw [if_neg hk, if_neg (Ne.symm hk)]
  ·rename_i hd
   rw [if_neg hd]
   split at hy
   ·cases hy
   ·rename_i h4
    rw [if_neg h4, qdo k l (qnx h _ _) hy, qqq]
    congr 1
    by_cases hk : k = o.key
    ·rw [if_pos hk, if_pos hk.symm, if_neg hd]
    ·rw [if_neg hk, if_neg (Ne.symm hk)]
end Go.Proofs.Ytinnaedmdoengaa
namespace Go.Proofs.Ytinnaedmdoengaa
open Go.Abs
set_option linter.unusedSimpArgs false
set_option linter.unusedVariables false
theorem kb {α β : Type} (f : α → β) (l : List α) {i : Nat} (h : i < l.length) : (l.take (i + 1)).map f = (l.take i).map f ++ [f l[i]] := by
 rw [List.take_succ_eq_append_getElem h, List.map_append]; rfl
theorem qcp (w : List UInt8) : rowsBytes (byteRows w) = w := by
 induction w with
 | nil => rfl
 | cons c w ih => simp_all [rowsBytes, byteRows]
theorem qsq (w : List UInt8) : (∃ l, byteRows w = byteRows l) = True := eq_true ⟨w, rfl⟩
theorem qyh : (∃ l, ([] : List (List D)) = byteRows l) = True := eq_true ⟨[], rfl⟩
theorem qez : rowsBytes [] = [] := rfl
attribute [go_sem] qcp qsq qyh qez
noncomputable section
set_option maxRecDepth 100000
def s14r0 : List SOper := [
 ⟨some 2, .mov (.k (.d .nilsl)), none⟩]
def s14r1 : List SOper := [
 ⟨some 3, .mov (.k (.d .nilsl)), none⟩]
def s14r2 : List SOper := [
 ⟨some 4, .mov (.k (.d (.int .i64 0))), none⟩]
def s14r3 : List SOper := [
 ⟨some 5, .mov (.t 4), none⟩,
 ⟨some 6, .mov (.t 0), none⟩,
 ⟨some 7, .len (.t 6), none⟩,
 ⟨some 8, .bin .lss (.t 5) (.t 7), none⟩]
def s14r4 : List SOper := [
 ⟨some 11, .mov (.t 3), none⟩,
 ⟨some 12, .mov (.t 0), none⟩,
 ⟨some 13, .mov (.t 4), none⟩,
 ⟨some 14, .iaddr 3 (.t 12) (.t 13), none⟩,
 ⟨some 15, .faddr 0 (.t 14), none⟩,
 ⟨some 16, .load none (.t 15), none⟩,
 ⟨some 17, .mov (.t 0), none⟩,
 ⟨some 18, .mov (.t 4), none⟩,
 ⟨some 19, .iaddr 3 (.t 17) (.t 18), none⟩,
 ⟨some 20, .faddr 1 (.t 19), none⟩,
 ⟨some 21, .load none (.t 20), none⟩,
 ⟨some 22, .buildSlice false 1 0 [(.int .u8 0)] [], none⟩,
 ⟨some 23, .mov (.t 0), none⟩,
 ⟨some 24, .mov (.t 4), none⟩,
 ⟨some 25, .iaddr 3 (.t 23) (.t 24), none⟩,
 ⟨some 26, .faddr 2 (.t 25), none⟩,
 ⟨some 27, .load none (.t 26), none⟩,
 ⟨some 28, .append false 1 1 (.t 22) (.t 27), none⟩,
 ⟨some 29, .build [(.str []), (.bool false), .nilsl] [(0, 1, (.t 16)), (1, 1, (.t 21)), (2, 1, (.t 28))], none⟩,
 ⟨some 30, .buildSlice false 3 1 [(.str []), (.bool false), .nilsl] [(0, 3, (.t 29))], none⟩,
 ⟨some 31, .append false 3 48 (.t 11) (.t 30), none⟩,
 ⟨some 3, .mov (.t 31), none⟩]
def s14r5 : List SOper := [
 ⟨some 9, .mov (.t 4), none⟩,
 ⟨some 10, .bin .add (.t 9) (.k (.d (.int .i64 1))), none⟩,
 ⟨some 4, .mov (.t 10), none⟩]
def s14l6 : SCode := (.seq (.seq (.region s14r3 0 []) (.cond (.t 8) .skip (.exit 0))) (.seq (.block 1 (.region s14r4 0 [])) (.region s14r5 0 [])))
theorem q4h : CodeIs s14l6.eq_1 := qc s14l6.eq_1
def s14r7 : List SOper := [
 ⟨some 32, .mov (.t 3), none⟩,
 ⟨some 2, .mov (.t 32), none⟩]
def s14 : SCode := (.seq (.region s14r0 0 []) (.seq (.region s14r1 0 []) (.seq (.seq (.region s14r2 0 []) (.block 0 (.loop s14l6))) (.seq (.region s14r7 0 []) .ret))))
theorem e14 : CodeIs s14.eq_1 := qc s14.eq_1
theorem q4i : RegIs s14r0.eq_1 := qa
theorem q4j : RegIs s14r1.eq_1 := qa
theorem q4k : RegIs s14r2.eq_1 := qa
theorem q4l : RegIs s14r3.eq_1 := qa
theorem q4m : RegIs s14r4.eq_1 := qa
theorem q4n : RegIs s14r5.eq_1 := qa
theorem q4o : RegIs s14r7.eq_1 := qa
attribute [go_sem] q4i q4j q4k q4l q4m q4n q4h q4o e14
theorem F14 : FnIs Try.prog 14 Try.f14 [] news s14 [.tmp 2] 33 := xa follows Try.func14
def s36r0 : List SOper := [
 ⟨some 4, .mov (.k (.d .nilsl)), none⟩]
def s36r1 : List SOper := [
 ⟨some 8, .mov (.t 0), none⟩,
 ⟨some 9, .mov (.t 1), none⟩,
 ⟨some 10, .call (.k (.d (.func (.func 17) [] []))) [(.t 8), (.t 9)], none⟩,
 ⟨some 5, .mov (.t 10), none⟩]
def s36r2 : List SOper := [
 ⟨some 6, .mov (.k (.d .nilsl)), none⟩]
def s36r3 : List SOper := [
 ⟨some 7, .mov (.k (.d (.int .i64 0))), none⟩]
def s36r4 : List SOper := [
 ⟨some 11, .mov (.t 7), none⟩,
 ⟨some 12, .mov (.t 5), none⟩,
 ⟨some 13, .len (.t 12), none⟩,
 ⟨some 14, .bin .lss (.t 11) (.t 13), none⟩]
def s36r5 : List SOper := [
 ⟨some 17, .mov (.t 6), none⟩,
 ⟨some 18, .mov (.t 5), none⟩,
 ⟨some 19, .mov (.t 7), none⟩,
 ⟨some 20, .iaddr 2 (.t 18) (.t 19), none⟩,
 ⟨some 21, .load (some 2) (.t 20), none⟩,
 ⟨some 22, .buildSlice false 2 1 [(.str []), .nilsl] [(0, 2, (.t 21))], none⟩,
 ⟨some 23, .append false 2 40 (.t 17) (.t 22), none⟩,
 ⟨some 6, .mov (.t 23), none⟩]
def s36r6 : List SOper := [
 ⟨some 15, .mov (.t 7), none⟩,
 ⟨some 16, .bin .add (.t 15) (.k (.d (.int .i64 1))), none⟩,
 ⟨some 7, .mov (.t 16), none⟩]
def s36l7 : SCode := (.seq (.seq (.region s36r4 0 []) (.cond (.t 14) .skip (.exit 0))) (.seq (.block 1 (.region s36r5 0 [])) (.region s36r6 0 [])))
theorem q4p : CodeIs s36l7.eq_1 := qc s36l7.eq_1
def s36r8 : List SOper := [
 ⟨some 24, .mov (.t 6), none⟩,
 ⟨some 4, .mov (.t 24), none⟩]
def s36 : SCode := (.seq (.region s36r0 0 []) (.seq (.region s36r1 0 []) (.seq (.region s36r2 0 []) (.seq (.seq (.region s36r3 0 []) (.block 0 (.loop s36l7))) (.seq (.region s36r8 0 []) .ret)))))
theorem e36 : CodeIs s36.eq_1 := qc s36.eq_1
theorem q4q : RegIs s36r0.eq_1 := qa
theorem q4r : RegIs s36r1.eq_1 := qa
theorem q4s : RegIs s36r2.eq_1 := qa
theorem q4t : RegIs s36r3.eq_1 := qa
theorem q4u : RegIs s36r4.eq_1 := qa
theorem q4v : RegIs s36r5.eq_1 := qa
theorem q4w : RegIs s36r6.eq_1 := qa
theorem q4x : RegIs s36r8.eq_1 := qa
attribute [go_sem] q4q q4r q4s q4t q4u q4v q4w q4p q4x e36
theorem F36 : FnIs Try.prog 36 Try.f36 [] news s36 [.tmp 4] 25 := xa follows Try.func36
def s25r0 : List SOper := [
 ⟨some 2, .mov (.k (.d (.bool false))), none⟩]
def s25r1 : List SOper := [
 ⟨some 3, .mov (.k (.d (.int .i64 0))), none⟩]
def s25r2 : List SOper := [
 ⟨some 4, .mov (.k (.d (.int .i64 0))), none⟩]
def s25r3 : List SOper := [
 ⟨some 5, .mov (.t 4), none⟩,
 ⟨some 6, .mov (.t 0), none⟩,
 ⟨some 7, .len (.t 6), none⟩,
 ⟨some 8, .bin .lss (.t 5) (.t 7), none⟩]
def s25r4 : List SOper := [
 ⟨some 11, .mov (.t 0), none⟩,
 ⟨some 12, .mov (.t 4), none⟩,
 ⟨some 13, .iaddr 3 (.t 11) (.t 12), none⟩,
 ⟨some 14, .faddr 0 (.t 13), none⟩,
 ⟨some 15, .load none (.t 14), none⟩,
 ⟨some 16, .lenS (.t 15), none⟩,
 ⟨some 17, .bin .gtr (.t 16) (.k (.d (.int .i64 100))), none⟩,
 ⟨some 18, .mov (.t 17), none⟩,
 ⟨some 19, .mov (.t 0), some (18, false)⟩,
 ⟨some 20, .mov (.t 4), some (18, false)⟩,
 ⟨some 21, .iaddr 3 (.t 19) (.t 20), some (18, false)⟩,
 ⟨some 22, .faddr 2 (.t 21), some (18, false)⟩,
 ⟨some 23, .load none (.t 22), some (18, false)⟩,
 ⟨some 24, .len (.t 23), some (18, false)⟩,
 ⟨some 25, .bin .gtr (.t 24) (.k (.d (.int .i64 1000))), some (18, false)⟩,
 ⟨some 26, .pick (.t 18) (.k (.d (.bool true))) (.t 25), none⟩]
def s25r5 : List SOper := [
 ⟨some 2, .mov (.k (.d (.bool false))), none⟩]
def s25r6 : List SOper := [
 ⟨some 27, .mov (.t 3), none⟩,
 ⟨some 28, .mov (.t 0), none⟩,
 ⟨some 29, .mov (.t 4), none⟩,
 ⟨some 30, .iaddr 3 (.t 28) (.t 29), none⟩,
 ⟨some 31, .faddr 2 (.t 30), none⟩,
 ⟨some 32, .load none (.t 31), none⟩,
 ⟨some 33, .len (.t 32), none⟩,
 ⟨some 34, .bin .add (.t 27) (.t 33), none⟩,
 ⟨some 3, .mov (.t 34), none⟩]
def s25r7 : List SOper := [
 ⟨some 9, .mov (.t 4), none⟩,
 ⟨some 10, .bin .add (.t 9) (.k (.d (.int .i64 1))), none⟩,
 ⟨some 4, .mov (.t 10), none⟩]
def s25l8 : SCode := (.seq (.seq (.region s25r3 0 []) (.cond (.t 8) .skip (.exit 0))) (.seq (.block 1 (.seq (.seq (.region s25r4 0 []) (.cond (.t 26) (.seq (.region s25r5 0 []) .ret) .skip)) (.region s25r6 0 []))) (.region s25r7 0 [])))
theorem q4y : CodeIs s25l8.eq_1 := qc s25l8.eq_1
def s25r9 : List SOper := [
 ⟨some 35, .mov (.t 0), none⟩,
 ⟨some 36, .len (.t 35), none⟩,
 ⟨some 37, .bin .leq (.t 36) (.k (.d (.int .i64 30))), none⟩,
 ⟨some 38, .mov (.t 37), none⟩,
 ⟨some 39, .mov (.t 3), some (38, true)⟩,
 ⟨some 40, .bin .leq (.t 39) (.k (.d (.int .i64 3000))), some (38, true)⟩,
 ⟨some 41, .pick (.t 38) (.t 40) (.k (.d (.bool false))), none⟩,
 ⟨some 2, .mov (.t 41), none⟩]
def s25 : SCode := (.seq (.region s25r0 0 []) (.seq (.region s25r1 0 []) (.seq (.seq (.region s25r2 0 []) (.block 0 (.loop s25l8))) (.seq (.region s25r9 0 []) .ret))))
theorem e25 : CodeIs s25.eq_1 := qc s25.eq_1
theorem q4z : RegIs s25r0.eq_1 := qa
theorem q40 : RegIs s25r1.eq_1 := qa
theorem q41 : RegIs s25r2.eq_1 := qa
theorem q42 : RegIs s25r3.eq_1 := qa
theorem q43 : RegIs s25r4.eq_1 := qa
theorem q44 : RegIs s25r5.eq_1 := qa
theorem q45 : RegIs s25r6.eq_1 := qa
theorem q46 : RegIs s25r7.eq_1 := qa
theorem q47 : RegIs s25r9.eq_1 := qa
attribute [go_sem] q4z q40 q41 q42 q43 q44 q45 q46 q4y q47 e25
theorem F25 : FnIs Try.prog 25 Try.f25 [] news s25 [.tmp 2] 42 := xa follows Try.func25
def s11r0 : List SOper := [
 ⟨some 2, .mov (.k (.d (.bool false))), none⟩]
def s11r1 : List SOper := [
 ⟨some 3, .mov (.k (.d (.int .i64 0))), none⟩]
def s11r2 : List SOper := [
 ⟨some 4, .mov (.t 3), none⟩,
 ⟨some 5, .mov (.t 0), none⟩,
 ⟨some 6, .len (.t 5), none⟩,
 ⟨some 7, .bin .lss (.t 4) (.t 6), none⟩]
def s11r3 : List SOper := [
 ⟨some 10, .mov (.t 0), none⟩,
 ⟨some 11, .mov (.t 3), none⟩,
 ⟨some 12, .iaddr 2 (.t 10) (.t 11), none⟩,
 ⟨some 13, .faddr 1 (.t 12), none⟩,
 ⟨some 14, .load none (.t 13), none⟩,
 ⟨some 15, .call (.k (.d (.func (.func 25) [] []))) [(.t 14)], none⟩,
 ⟨some 16, .not (.t 15), none⟩]
def s11r4 : List SOper := [
 ⟨some 2, .mov (.k (.d (.bool false))), none⟩]
def s11r5 : List SOper := [
 ⟨some 8, .mov (.t 3), none⟩,
 ⟨some 9, .bin .add (.t 8) (.k (.d (.int .i64 1))), none⟩,
 ⟨some 3, .mov (.t 9), none⟩]
def s11l6 : SCode := (.seq (.seq (.region s11r2 0 []) (.cond (.t 7) .skip (.exit 0))) (.seq (.block 1 (.seq (.region s11r3 0 []) (.cond (.t 16) (.seq (.region s11r4 0 []) .ret) .skip))) (.region s11r5 0 [])))
theorem q48 : CodeIs s11l6.eq_1 := qc s11l6.eq_1
def s11r7 : List SOper := [
 ⟨some 17, .mov (.t 0), none⟩,
 ⟨some 18, .len (.t 17), none⟩,
 ⟨some 19, .bin .leq (.t 18) (.k (.d (.int .i64 15))), none⟩,
 ⟨some 2, .mov (.t 19), none⟩]
def s11 : SCode := (.seq (.region s11r0 0 []) (.seq (.seq (.region s11r1 0 []) (.block 0 (.loop s11l6))) (.seq (.region s11r7 0 []) .ret)))
theorem e11 : CodeIs s11.eq_1 := qc s11.eq_1
theorem q49 : RegIs s11r0.eq_1 := qa
theorem q5a : RegIs s11r1.eq_1 := qa
theorem q5b : RegIs s11r2.eq_1 := qa
theorem q5c : RegIs s11r3.eq_1 := qa
theorem q5d : RegIs s11r4.eq_1 := qa
theorem q5e : RegIs s11r5.eq_1 := qa
theorem q5f : RegIs s11r7.eq_1 := qa
attribute [go_sem] q49 q5a q5b q5c q5d q5e q48 q5f e11
theorem F11 : FnIs Try.prog 11 Try.f11 [] news s11 [.tmp 2] 20 := xa follows Try.func11
end
def SfTo (l : List OpS) (i : { i : Nat // i ≤ l.length }) : St :=
 ⟨[(0, true, .d (.sl 3 (l.map encOp))), (3, true, .own 0 3 ((l.take i.val).map encOp)), (4, true, .d (.int .i64 (i.val : Nat)))], [], [0], 1⟩
theorem qyi (l : List OpS) (hl : l.length ≤ 100000) (hv : ∀ o ∈ l, o.val.length ≤ 1000000) : ACall Try.prog 14 [.d (.sl 3 (l.map encOp))] [] (.d (.sl 3 (l.map encOp))) [] := by
 refine F14.go ?_
 try (refine ev ?_; try exact True.intro)
 refine qn (SfTo l) (fun i => l.length - i.val) ⟨0, Nat.zero_le _⟩ ?_ (fun i => ?_)
 ·try simp only [SfTo, List.take_zero, go_sem, Nat.reduceAdd, Nat.reduceMul, Nat.reduceSub, Nat.reduceEqDiff, Nat.reduceLT, Nat.reduceLeDiff, Nat.reduceBEq, reduceIte, reduceCtorEq, Int.reduceAdd, Int.reduceLT, Int.reduceLE, Int.reduceGT, Int.reduceGE, Int.reduceEq, Int.reduceNe, Int.reduceBEq, Int.reduceBNe, Int.reduceToNat, Int.reduceNeg]
 obtain ⟨i, hi⟩ := i
 try simp only [SfTo, go_sem, Nat.reduceAdd, Nat.reduceMul, Nat.reduceSub, Nat.reduceEqDiff, Nat.reduceLT, Nat.reduceLeDiff, Nat.reduceBEq, reduceIte, reduceCtorEq, Int.reduceAdd, Int.reduceLT, Int.reduceLE, Int.reduceGT, Int.reduceGE, Int.reduceEq, Int.reduceNe, Int.reduceBEq, Int.reduceBNe, Int.reduceToNat, Int.reduceNeg]
 (repeat (with_reducible refine ob ?_)); refine zb _ (fun h => ?_) (fun h => ?_)
 ·have hil : i < l.length := by simpa using h
  have hx := hv _ (List.getElem_mem hil)
  try simp only [qw encOp l hil, encOp, go_sem, Nat.reduceAdd, Nat.reduceMul, Nat.reduceSub, Nat.reduceEqDiff, Nat.reduceLT, Nat.reduceLeDiff, Nat.reduceBEq, reduceIte, reduceCtorEq, Int.reduceAdd, Int.reduceLT, Int.reduceLE, Int.reduceGT, Int.reduceGE, Int.reduceEq, Int.reduceNe, Int.reduceBEq, Int.reduceBNe, Int.reduceToNat, Int.reduceNeg]
  (repeat (with_reducible refine ob ?_))
  refine ⟨⟨i + 1, hil⟩, ?_, by dsimp only; omega⟩
  try simp only [SfTo, kb encOp l hil, encOp, ql (show i < 9223372036854775807 by omega), go_sem, Nat.reduceAdd, Nat.reduceMul, Nat.reduceSub, Nat.reduceEqDiff, Nat.reduceLT, Nat.reduceLeDiff, Nat.reduceBEq, reduceIte, reduceCtorEq, Int.reduceAdd, Int.reduceLT, Int.reduceLE, Int.reduceGT, Int.reduceGE, Int.reduceEq, Int.reduceNe, Int.reduceBEq, Int.reduceBNe, Int.reduceToNat, Int.reduceNeg]
 ·have hil : i = l.length := by
   have : l.length ≤ i := by simpa using h
   omega
  subst hil
  try simp only [List.take_length, go_sem, Nat.reduceAdd, Nat.reduceMul, Nat.reduceSub, Nat.reduceEqDiff, Nat.reduceLT, Nat.reduceLeDiff, Nat.reduceBEq, reduceIte, reduceCtorEq, Int.reduceAdd, Int.reduceLT, Int.reduceLE, Int.reduceGT, Int.reduceGE, Int.reduceEq, Int.reduceNe, Int.reduceBEq, Int.reduceBNe, Int.reduceToNat, Int.reduceNeg]
theorem qnz (m : Cont) (p : List UInt8) : (sList m p).length ≤ m.l.length := by
 rw [sList, (x9 _).length_eq]
 simp only [preL, List.length_map]
 exact List.length_filter_le _ _
def Scon (s : Sto) (l : List En) (i : { i : Nat // i ≤ l.length }) : St :=
 ⟨[(5, true, .d (.sl 2 (l.map encEn))), (6, true, .own 0 2 ((l.take i.val).map encEn)), (7, true, .d (.int .i64 (i.val : Nat)))], [stoO s 1, mapO s.m], [0], 1⟩
theorem qld (s : Sto) (p : List UInt8) (n : Nat) (hs : s.Ok n) :
  ACall Try.prog 36 [.d (.ptr 0 0), .d (.str p)] [stoO s 1, mapO s.m] (.d (.sl 2 ((sList s.m p).map encEn))) [stoO s 1, mapO s.m] := by
 have hls := qso s p hs.good.ok (by have := hs.good.few; omega) (fun x hx => by have := (hs.good.small x hx).2.2; omega)
 have hln := qnz s.m p
 have hfew := hs.good.few
 refine F36.go ?_
 try simp only [stoO, mapO, go_sem, Nat.reduceAdd, Nat.reduceMul, Nat.reduceSub, Nat.reduceEqDiff, Nat.reduceLT, Nat.reduceLeDiff, Nat.reduceBEq, reduceIte, reduceCtorEq, Int.reduceAdd, Int.reduceLT, Int.reduceLE, Int.reduceGT, Int.reduceGE, Int.reduceEq, Int.reduceNe, Int.reduceBEq, Int.reduceBNe, Int.reduceToNat, Int.reduceNeg]
 simp only [stoO, mapO] at hls
 (repeat (with_reducible refine ob ?_)); refine clO [0, 1] q8w (hls) ?_ (hfit := by first | exact ⟨qb, trivial⟩ | exact ⟨qb, qb, trivial⟩ | simp only [encOp, encEn, go_sem, Nat.reduceAdd, Nat.reduceMul, Nat.reduceSub, Nat.reduceEqDiff, Nat.reduceLT, Nat.reduceLeDiff, Nat.reduceBEq, reduceIte, reduceCtorEq, Int.reduceAdd, Int.reduceLT, Int.reduceLE, Int.reduceGT, Int.reduceGE, Int.reduceEq, Int.reduceNe, Int.reduceBEq, Int.reduceBNe, Int.reduceToNat, Int.reduceNeg])
 generalize sList s.m p = l at hln ⊢
 try (refine ev ?_; try exact True.intro)
 refine qn (Scon s l) (fun i => l.length - i.val) ⟨0, Nat.zero_le _⟩ ?_ (fun i => ?_)
 ·try simp only [Scon, List.take_zero, stoO, mapO, go_sem, Nat.reduceAdd, Nat.reduceMul, Nat.reduceSub, Nat.reduceEqDiff, Nat.reduceLT, Nat.reduceLeDiff, Nat.reduceBEq, reduceIte, reduceCtorEq, Int.reduceAdd, Int.reduceLT, Int.reduceLE, Int.reduceGT, Int.reduceGE, Int.reduceEq, Int.reduceNe, Int.reduceBEq, Int.reduceBNe, Int.reduceToNat, Int.reduceNeg]
 obtain ⟨i, hi⟩ := i
 try simp only [Scon, stoO, mapO, go_sem, Nat.reduceAdd, Nat.reduceMul, Nat.reduceSub, Nat.reduceEqDiff, Nat.reduceLT, Nat.reduceLeDiff, Nat.reduceBEq, reduceIte, reduceCtorEq, Int.reduceAdd, Int.reduceLT, Int.reduceLE, Int.reduceGT, Int.reduceGE, Int.reduceEq, Int.reduceNe, Int.reduceBEq, Int.reduceBNe, Int.reduceToNat, Int.reduceNeg]
 (repeat (with_reducible refine ob ?_)); refine zb _ (fun h => ?_) (fun h => ?_)
 ·have hil : i < l.length := by simpa using h
  try simp only [qw encEn l hil, encEn, go_sem, Nat.reduceAdd, Nat.reduceMul, Nat.reduceSub, Nat.reduceEqDiff, Nat.reduceLT, Nat.reduceLeDiff, Nat.reduceBEq, reduceIte, reduceCtorEq, Int.reduceAdd, Int.reduceLT, Int.reduceLE, Int.reduceGT, Int.reduceGE, Int.reduceEq, Int.reduceNe, Int.reduceBEq, Int.reduceBNe, Int.reduceToNat, Int.reduceNeg]
  (repeat (with_reducible refine ob ?_))
  refine ⟨⟨i + 1, hil⟩, ?_, by dsimp only; omega⟩
  try simp only [Scon, stoO, mapO, kb encEn l hil, encEn, ql (show i < 9223372036854775807 by omega), go_sem, Nat.reduceAdd, Nat.reduceMul, Nat.reduceSub, Nat.reduceEqDiff, Nat.reduceLT, Nat.reduceLeDiff, Nat.reduceBEq, reduceIte, reduceCtorEq, Int.reduceAdd, Int.reduceLT, Int.reduceLE, Int.reduceGT, Int.reduceGE, Int.reduceEq, Int.reduceNe, Int.reduceBEq, Int.reduceBNe, Int.reduceToNat, Int.reduceNeg]
 ·have hil : i = l.length := by
   have : l.length ≤ i := by simpa using h
   omega
  subst hil
  try simp only [List.take_length, go_sem, Nat.reduceAdd, Nat.reduceMul, Nat.reduceSub, Nat.reduceEqDiff, Nat.reduceLT, Nat.reduceLeDiff, Nat.reduceBEq, reduceIte, reduceCtorEq, Int.reduceAdd, Int.reduceLT, Int.reduceLE, Int.reduceGT, Int.reduceGE, Int.reduceEq, Int.reduceNe, Int.reduceBEq, Int.reduceBNe, Int.reduceToNat, Int.reduceNeg]
def vSum (l : List OpS) : Nat := (l.map fun o => o.val.length).sum
def sFew (l : List OpS) : Bool := l.all (fun o => decide (o.key.length ≤ 100) && decide (o.val.length ≤ 1000)) && decide (l.length ≤ 30) && decide (vSum l ≤ 3000)
theorem qn0 (a b : Int) : IntKind.i64.wrap (IntKind.i64.wrap a + b) = IntKind.i64.wrap (a + b) := by
 simp only [IntKind.wrap, IntKind.bits, IntKind.signed, if_true]
 simp
 omega
theorem qn1 (l : List OpS) {i : Nat} (h : i < l.length) : vSum (l.take (i + 1)) = vSum (l.take i) + l[i].val.length := by
 unfold vSum
 rw [List.take_succ_eq_append_getElem h, List.map_append, List.sum_append]; simp
theorem ye {α : Type} {f : α → Bool} {l : List α} {i : Nat} (h : (l.take i).all f = true) (hil : i < l.length) (hf : f l[i] = true) : (l.take (i + 1)).all f = true := by
 rw [List.take_succ_eq_append_getElem hil, List.all_append, h]; simp [hf]
theorem qrb {α : Type} {f : α → Bool} {l : List α} {i : Nat} (hil : i < l.length) (hf : f l[i] = false) : l.all f = false := by
 rw [List.all_eq_false]; exact ⟨l[i], List.getElem_mem hil, by simp [hf]⟩
theorem qsr (l : List OpS) : (l.all fun o => decide (o.key.length ≤ 100) && decide (o.val.length ≤ 1000)) = true → vSum l ≤ 1000 * l.length := by
 induction l with
 | nil => intro _; simp [vSum]
 | cons o l ih =>
  intro h
  simp only [List.all_cons, Bool.and_eq_true, decide_eq_true_eq] at h
  have := ih (by simpa using h.2)
  simp only [vSum, List.map_cons, List.sum_cons, List.length_cons] at this ⊢
  omega
def Sfew (l : List OpS) (i : { i : Nat // i ≤ l.length ∧ (l.take i).all (fun o => decide (o.key.length ≤ 100) && decide (o.val.length ≤ 1000)) = true }) : St :=
 ⟨[(0, true, .d (.sl 3 (l.map encOp))), (3, true, .d (.int .i64 (IntKind.i64.wrap (vSum (l.take i.val) : Nat)))), (4, true, .d (.int .i64 (i.val : Nat)))], [], [], 1⟩
theorem qjn (l : List OpS) (hl : l.length ≤ maxLen) : ACall Try.prog 25 [.d (.sl 3 (l.map encOp))] [] (.d (.bool (sFew l))) [] := by
 have hl : l.length ≤ 9223372036854775807 := hl
 refine F25.go ?_
 try (refine ev ?_; try exact True.intro)
 refine qn (Sfew l) (fun i => l.length - i.val) ⟨0, Nat.zero_le _, rfl⟩ ?_ (fun i => ?_)
 ·have w0 : IntKind.i64.wrap 0 = 0 := rfl
  try simp only [Sfew, List.take_zero, vSum, List.sum_nil, Int.ofNat_zero, w0, go_sem, Nat.reduceAdd, Nat.reduceMul, Nat.reduceSub, Nat.reduceEqDiff, Nat.reduceLT, Nat.reduceLeDiff, Nat.reduceBEq, reduceIte, reduceCtorEq, Int.reduceAdd, Int.reduceLT, Int.reduceLE, Int.reduceGT, Int.reduceGE, Int.reduceEq, Int.reduceNe, Int.reduceBEq, Int.reduceBNe, Int.reduceToNat, Int.reduceNeg]
 obtain ⟨i, hi, ha⟩ := i
 try simp only [Sfew, go_sem, Nat.reduceAdd, Nat.reduceMul, Nat.reduceSub, Nat.reduceEqDiff, Nat.reduceLT, Nat.reduceLeDiff, Nat.reduceBEq, reduceIte, reduceCtorEq, Int.reduceAdd, Int.reduceLT, Int.reduceLE, Int.reduceGT, Int.reduceGE, Int.reduceEq, Int.reduceNe, Int.reduceBEq, Int.reduceBNe, Int.reduceToNat, Int.reduceNeg]
 (repeat (with_reducible refine ob ?_)); refine zb _ (fun h => ?_) (fun h => ?_)
 ·have hil : i < l.length := by simpa using h
  try simp only [qw encOp l hil, encOp, go_sem, Nat.reduceAdd, Nat.reduceMul, Nat.reduceSub, Nat.reduceEqDiff, Nat.reduceLT, Nat.reduceLeDiff, Nat.reduceBEq, reduceIte, reduceCtorEq, Int.reduceAdd, Int.reduceLT, Int.reduceLE, Int.reduceGT, Int.reduceGE, Int.reduceEq, Int.reduceNe, Int.reduceBEq, Int.reduceBNe, Int.reduceToNat, Int.reduceNeg]
  refine ⟨by omega, fun h => ⟨h, h, by omega⟩, fun h => by rw [h]; rfl, ?_⟩
  have hd1 : decide ((l[i].key.length : Int) > 100) = !decide (l[i].key.length ≤ 100) := by rw [← decide_not]; exact decide_eq_decide.2 (by omega)
  have hd2 : decide ((l[i].val.length : Int) > 1000) = !decide (l[i].val.length ≤ 1000) := by rw [← decide_not]; exact decide_eq_decide.2 (by omega)
  have hd : (decide ((l[i].key.length : Int) > 100) || decide ((l[i].val.length : Int) > 1000)) = !(decide (l[i].key.length ≤ 100) && decide (l[i].val.length ≤ 1000)) := by rw [hd1, hd2, Bool.not_and]
  refine zb _ (fun h => ?_) (fun h => ?_)
  ·rw [hd, Bool.not_eq_true'] at h
   have : sFew l = false := by rw [sFew, qrb hil h]; rfl
   try simp only [this, go_sem, Nat.reduceAdd, Nat.reduceMul, Nat.reduceSub, Nat.reduceEqDiff, Nat.reduceLT, Nat.reduceLeDiff, Nat.reduceBEq, reduceIte, reduceCtorEq, Int.reduceAdd, Int.reduceLT, Int.reduceLE, Int.reduceGT, Int.reduceGE, Int.reduceEq, Int.reduceNe, Int.reduceBEq, Int.reduceBNe, Int.reduceToNat, Int.reduceNeg]
  ·rw [hd, Bool.not_eq_false'] at h
   try simp only [qw encOp l hil, encOp, go_sem, Nat.reduceAdd, Nat.reduceMul, Nat.reduceSub, Nat.reduceEqDiff, Nat.reduceLT, Nat.reduceLeDiff, Nat.reduceBEq, reduceIte, reduceCtorEq, Int.reduceAdd, Int.reduceLT, Int.reduceLE, Int.reduceGT, Int.reduceGE, Int.reduceEq, Int.reduceNe, Int.reduceBEq, Int.reduceBNe, Int.reduceToNat, Int.reduceNeg]
   (repeat (with_reducible refine ob ?_))
   refine ⟨⟨i + 1, hil, ye ha hil h⟩, ?_, by dsimp only; omega⟩
   try simp only [Sfew, qn1 l hil, qn0, ql (show i < 9223372036854775807 by omega), go_sem, Nat.reduceAdd, Nat.reduceMul, Nat.reduceSub, Nat.reduceEqDiff, Nat.reduceLT, Nat.reduceLeDiff, Nat.reduceBEq, reduceIte, reduceCtorEq, Int.reduceAdd, Int.reduceLT, Int.reduceLE, Int.reduceGT, Int.reduceGE, Int.reduceEq, Int.reduceNe, Int.reduceBEq, Int.reduceBNe, Int.reduceToNat, Int.reduceNeg]
 ·have hil : i = l.length := by
   have : l.length ≤ i := by simpa using h
   omega
  subst hil
  rw [List.take_length] at ha
  have hv := qsr l ha
  try simp only [List.take_length, sFew, ha, go_sem, Nat.reduceAdd, Nat.reduceMul, Nat.reduceSub, Nat.reduceEqDiff, Nat.reduceLT, Nat.reduceLeDiff, Nat.reduceBEq, reduceIte, reduceCtorEq, Int.reduceAdd, Int.reduceLT, Int.reduceLE, Int.reduceGT, Int.reduceGE, Int.reduceEq, Int.reduceNe, Int.reduceBEq, Int.reduceBNe, Int.reduceToNat, Int.reduceNeg]
  by_cases h30 : l.length ≤ 30
  ·rw [wrap_i64 (by omega) (by omega)]
   have e1 : decide ((l.length : Int) ≤ 30) = true := by simp; omega
   have e2 : decide (((vSum l : Nat) : Int) ≤ 3000) = decide (vSum l ≤ 3000) := decide_eq_decide.2 (by omega)
   simp only [e1, e2, h30, decide_true, Bool.true_and]
  ·have : decide ((l.length : Int) ≤ 30) = false := by simp; omega
   rw [this]
   simp [h30]
structure StepS where
 kind : Int
 ops : List OpS
 deriving DecidableEq, Inhabited
def encStep (x : StepS) : List D := [.int .i64 x.kind, .sl 3 (x.ops.map encOp)]
theorem yf (o : StepS) : D.noPtrL (encStep o) = true := by simp only [encStep, D.noPtrL, D.noPtr, qgo, Bool.and_self]
theorem qiz (l : List StepS) : D.noPtrR (l.map encStep) = true := qp yf l
attribute [go_sem] yf qiz
def sFews (l : List StepS) : Bool := l.all (fun x => sFew x.ops) && decide (l.length ≤ 15)
def Sfews (l : List StepS) (i : { i : Nat // i ≤ l.length ∧ (l.take i).all (fun x => sFew x.ops) = true }) : St :=
 ⟨[(0, true, .d (.sl 2 (l.map encStep))), (3, true, .d (.int .i64 (i.val : Nat)))], [], [], 1⟩
theorem q5g (l : List StepS) (hl : l.length ≤ maxLen) (hx : ∀ x ∈ l, x.ops.length ≤ maxLen) : ACall Try.prog 11 [.d (.sl 2 (l.map encStep))] [] (.d (.bool (sFews l))) [] := by
 have hl : l.length ≤ 9223372036854775807 := hl
 refine F11.go ?_
 try (refine ev ?_; try exact True.intro)
 refine qn (Sfews l) (fun i => l.length - i.val) ⟨0, Nat.zero_le _, rfl⟩ ?_ (fun i => ?_)
 ·try simp only [Sfews, go_sem, Nat.reduceAdd, Nat.reduceMul, Nat.reduceSub, Nat.reduceEqDiff, Nat.reduceLT, Nat.reduceLeDiff, Nat.reduceBEq, reduceIte, reduceCtorEq, Int.reduceAdd, Int.reduceLT, Int.reduceLE, Int.reduceGT, Int.reduceGE, Int.reduceEq, Int.reduceNe, Int.reduceBEq, Int.reduceBNe, Int.reduceToNat, Int.reduceNeg]
 obtain ⟨i, hi, ha⟩ := i
 try simp only [Sfews, go_sem, Nat.reduceAdd, Nat.reduceMul, Nat.reduceSub, Nat.reduceEqDiff, Nat.reduceLT, Nat.reduceLeDiff, Nat.reduceBEq, reduceIte, reduceCtorEq, Int.reduceAdd, Int.reduceLT, Int.reduceLE, Int.reduceGT, Int.reduceGE, Int.reduceEq, Int.reduceNe, Int.reduceBEq, Int.reduceBNe, Int.reduceToNat, Int.reduceNeg]
 (repeat (with_reducible refine ob ?_)); refine zb _ (fun h => ?_) (fun h => ?_)
 ·have hil : i < l.length := by simpa using h
  try simp only [qw encStep l hil, encStep, go_sem, Nat.reduceAdd, Nat.reduceMul, Nat.reduceSub, Nat.reduceEqDiff, Nat.reduceLT, Nat.reduceLeDiff, Nat.reduceBEq, reduceIte, reduceCtorEq, Int.reduceAdd, Int.reduceLT, Int.reduceLE, Int.reduceGT, Int.reduceGE, Int.reduceEq, Int.reduceNe, Int.reduceBEq, Int.reduceBNe, Int.reduceToNat, Int.reduceNeg]
  (repeat (with_reducible refine ob ?_))
  (repeat (with_reducible refine ob ?_)); first | refine cl F25 (qjn l[i].ops (hx _ (List.getElem_mem hil))) ?_ | refine clF F25 (qjn l[i].ops (hx _ (List.getElem_mem hil))) (fun _ => by simp only [encOp, encEn, go_sem, Nat.reduceAdd, Nat.reduceMul, Nat.reduceSub, Nat.reduceEqDiff, Nat.reduceLT, Nat.reduceLeDiff, Nat.reduceBEq, reduceIte, reduceCtorEq, Int.reduceAdd, Int.reduceLT, Int.reduceLE, Int.reduceGT, Int.reduceGE, Int.reduceEq, Int.reduceNe, Int.reduceBEq, Int.reduceBNe, Int.reduceToNat, Int.reduceNeg]) ?_
  try (refine ev ?_; try exact True.intro)
  (repeat (with_reducible refine ob ?_)); refine zb _ (fun h => ?_) (fun h => ?_)
  ·have : sFews l = false := by rw [sFews, qrb hil (by simpa using h)]; rfl
   try simp only [this, go_sem, Nat.reduceAdd, Nat.reduceMul, Nat.reduceSub, Nat.reduceEqDiff, Nat.reduceLT, Nat.reduceLeDiff, Nat.reduceBEq, reduceIte, reduceCtorEq, Int.reduceAdd, Int.reduceLT, Int.reduceLE, Int.reduceGT, Int.reduceGE, Int.reduceEq, Int.reduceNe, Int.reduceBEq, Int.reduceBNe, Int.reduceToNat, Int.reduceNeg]
  ·try (refine ev ?_; try exact True.intro)
   refine ⟨⟨i + 1, hil, ye ha hil (by simpa using h)⟩, ?_, by dsimp only; omega⟩
   try simp only [Sfews, ql (show i < 9223372036854775807 by omega), go_sem, Nat.reduceAdd, Nat.reduceMul, Nat.reduceSub, Nat.reduceEqDiff, Nat.reduceLT, Nat.reduceLeDiff, Nat.reduceBEq, reduceIte, reduceCtorEq, Int.reduceAdd, Int.reduceLT, Int.reduceLE, Int.reduceGT, Int.reduceGE, Int.reduceEq, Int.reduceNe, Int.reduceBEq, Int.reduceBNe, Int.reduceToNat, Int.reduceNeg]
 ·have hil : i = l.length := by
   have : l.length ≤ i := by simpa using h
   omega
  subst hil
  rw [List.take_length] at ha
  have : sFews l = decide ((l.length : Int) ≤ 15) := by rw [sFews, ha, Bool.true_and]; exact decide_eq_decide.2 (by omega)
  try simp only [this, go_sem, Nat.reduceAdd, Nat.reduceMul, Nat.reduceSub, Nat.reduceEqDiff, Nat.reduceLT, Nat.reduceLeDiff, Nat.reduceBEq, reduceIte, reduceCtorEq, Int.reduceAdd, Int.reduceLT, Int.reduceLE, Int.reduceGT, Int.reduceGE, Int.reduceEq, Int.reduceNe, Int.reduceBEq, Int.reduceBNe, Int.reduceToNat, Int.reduceNeg]
theorem qqu {l : List OpS} (h : sFew l = true) : l.length ≤ 30 ∧ ∀ o ∈ l, o.key.length ≤ 100 ∧ o.val.length ≤ 1000 := by
 unfold sFew at h
 simp only [Bool.and_eq_true, List.all_eq_true, decide_eq_true_eq] at h
 exact ⟨h.1.2, fun o ho => h.1.1 o ho⟩
theorem qyj {l : List StepS} (h : sFews l = true) : l.length ≤ 15 ∧ ∀ x ∈ l, sFew x.ops = true := by
 unfold sFews at h
 simp only [Bool.and_eq_true, List.all_eq_true, decide_eq_true_eq] at h
 exact ⟨h.2, h.1⟩
noncomputable section
set_option maxRecDepth 100000
def s10r0 : List SOper := [
 ⟨some 0, .mov (.k (.d (.bool false))), none⟩]
def s10r1 : List SOper := [
 ⟨some 5, .call (.k (.d (.func (.func 12) [] []))) [], none⟩,
 ⟨some 1, .mov (.t 5), none⟩]
def s10r2 : List SOper := [
 ⟨some 6, .mov (.t 1), none⟩,
 ⟨some 7, .buildSlice false 1 1 [(.int .u8 0)] [(0, 1, (.k (.d (.int .u8 1))))], none⟩,
 ⟨some 8, .build [(.str []), (.bool false), .nilsl] [(0, 1, (.k (.d (.str [97])))), (2, 1, (.t 7))], none⟩,
 ⟨some 9, .buildSlice false 1 1 [(.int .u8 0)] [(0, 1, (.k (.d (.int .u8 2))))], none⟩,
 ⟨some 10, .build [(.str []), (.bool false), .nilsl] [(0, 1, (.k (.d (.str [98])))), (2, 1, (.t 9))], none⟩,
 ⟨some 11, .buildSlice false 3 2 [(.str []), (.bool false), .nilsl] [(0, 3, (.t 8)), (3, 3, (.t 10))], none⟩,
 ⟨some 12, .call (.k (.d (.func (.func 13) [] []))) [(.t 6), (.t 11)], none⟩,
 ⟨some 2, .mov (.t 12), none⟩]
def s10r3 : List SOper := [
 ⟨some 13, .mov (.t 1), none⟩,
 ⟨some 14, .build [(.str []), (.bool false), .nilsl] [(0, 1, (.k (.d (.str [97])))), (1, 1, (.k (.d (.bool true))))], none⟩,
 ⟨some 15, .buildSlice false 3 1 [(.str []), (.bool false), .nilsl] [(0, 3, (.t 14))], none⟩,
 ⟨some 16, .call (.k (.d (.func (.func 13) [] []))) [(.t 13), (.t 15)], none⟩,
 ⟨some 3, .mov (.t 16), none⟩]
def s10r4 : List SOper := [
 ⟨some 17, .mov (.t 1), none⟩,
 ⟨some 18, .call (.k (.d (.func (.func 36) [] []))) [(.t 17), (.k (.d (.str [])))], none⟩,
 ⟨some 4, .mov (.t 18), none⟩]
def s10r5 : List SOper := [
 ⟨some 19, .mov (.t 2), none⟩,
 ⟨some 20, .bin .eql (.t 19) (.k (.d (.int .i64 0))), none⟩,
 ⟨some 21, .mov (.t 20), none⟩,
 ⟨some 22, .mov (.t 3), some (21, true)⟩,
 ⟨some 23, .bin .eql (.t 22) (.k (.d (.int .i64 0))), some (21, true)⟩,
 ⟨some 24, .pick (.t 21) (.t 23) (.k (.d (.bool false))), none⟩,
 ⟨some 25, .mov (.t 24), none⟩,
 ⟨some 26, .mov (.t 4), some (25, true)⟩,
 ⟨some 27, .len (.t 26), some (25, true)⟩,
 ⟨some 28, .bin .eql (.t 27) (.k (.d (.int .i64 1))), some (25, true)⟩,
 ⟨some 29, .pick (.t 25) (.t 28) (.k (.d (.bool false))), none⟩,
 ⟨some 30, .mov (.t 29), none⟩,
 ⟨some 31, .mov (.t 4), some (30, true)⟩,
 ⟨some 32, .iaddr 2 (.t 31) (.k (.d (.int .i64 0))), some (30, true)⟩,
 ⟨some 33, .faddr 0 (.t 32), some (30, true)⟩,
 ⟨some 34, .load none (.t 33), some (30, true)⟩,
 ⟨some 35, .bin .eql (.t 34) (.k (.d (.str [98]))), some (30, true)⟩,
 ⟨some 36, .pick (.t 30) (.t 35) (.k (.d (.bool false))), none⟩,
 ⟨some 37, .mov (.t 36), none⟩,
 ⟨some 38, .mov (.t 4), some (37, true)⟩,
 ⟨some 39, .iaddr 2 (.t 38) (.k (.d (.int .i64 0))), some (37, true)⟩,
 ⟨some 40, .faddr 1 (.t 39), some (37, true)⟩,
 ⟨some 41, .load none (.t 40), some (37, true)⟩,
 ⟨some 42, .b2s (.t 41), some (37, true)⟩,
 ⟨some 43, .bin .eql (.t 42) (.k (.d (.str [2]))), some (37, true)⟩,
 ⟨some 44, .pick (.t 37) (.t 43) (.k (.d (.bool false))), none⟩,
 ⟨some 0, .mov (.t 44), none⟩]
def s10 : SCode := (.seq (.region s10r0 0 []) (.seq (.region s10r1 2 []) (.seq (.region s10r2 1 []) (.seq (.region s10r3 1 []) (.seq (.region s10r4 0 []) (.seq (.region s10r5 0 []) .ret))))))
theorem e10 : CodeIs s10.eq_1 := qc s10.eq_1
theorem q5h : RegIs s10r0.eq_1 := qa
theorem q5i : RegIs s10r1.eq_1 := qa
theorem q5j : RegIs s10r2.eq_1 := qa
theorem q5k : RegIs s10r3.eq_1 := qa
theorem q5l : RegIs s10r4.eq_1 := qa
theorem q5m : RegIs s10r5.eq_1 := qa
attribute [go_sem] q5h q5i q5j q5k q5l q5m e10
theorem F10 : FnIs Try.prog 10 Try.f10 [] news s10 [.tmp 0] 45 := xa follows Try.func10
end
def ops1 : List OpS := [⟨[97], false, [1]⟩, ⟨[98], false, [2]⟩]
def ops2 : List OpS := [⟨[97], true, []⟩]
def st1 : Sto := (sCommit newS ops1).1
def st2 : Sto := (sCommit st1 ops2).1
theorem c1 : (sCommit newS ops1).2 = 0 := by decide +kernel
theorem c2 : (sCommit st1 ops2).2 = 0 := by decide +kernel
theorem c3 : sList st2.m [] = [([98], [2])] := by decide +kernel
theorem qss : ACall Try.prog 12 [] [] (.d (.ptr 1 0)) [mapO newS.m, stoO newS 0] := qx1
theorem qdp : ACall Try.prog 10 [] [] (.d (.bool true)) [] := by
 have s1 : st1.Ok 1 := qb2 (qsp 0) ops1
 have s2 : st2.Ok 2 := qb2 s1 ops2
 have k0 := qss
 have k1 := qdn (by decide) (by decide) c1
 have k2 := qdn (s := st1) (by decide) (by have := s1.file; omega) c2
 have k3 := qld st2 [] 2 s2
 rw [c3] at k3
 change ACall _ _ _ _ _ [stoO st1 2, mapO newS.m, mapO st1.m] at k1
 change ACall _ _ _ _ _ [stoO st2 2, mapO st1.m, mapO st2.m] at k2
 have o1 : ops1.map encOp = [[.str [97], .bool false, .sl 1 [[.int .u8 1]]], [.str [98], .bool false, .sl 1 [[.int .u8 2]]]] := rfl
 have o2 : ops2.map encOp = [[.str [97], .bool true, .sl 1 []]] := rfl
 have o3 : [(([98], [2]) : En)].map encEn = [[.str [98], .sl 1 [[.int .u8 2]]]] := rfl
 rw [o1] at k1; rw [o2] at k2; rw [o3] at k3
 clear s1 s2 o1 o2 o3
 generalize newS = s0, st1 = s1, st2 = s2 at k0 k1 k2 k3
 simp only [stoO, mapO] at k0 k1 k2 k3
 refine F10.go ?_
 try (refine ev ?_; try exact True.intro)
 refine clO [0, 1] F12 k0 ?_
 try (refine ev ?_; try exact True.intro)
 refine clO [1, 0, 2] F13 k1 ?_
 try (refine ev ?_; try exact True.intro)
 refine clO [1, 2, 3] F13 k2 ?_
 try (refine ev ?_; try exact True.intro)
 refine clO [1, 3] F36 k3 ?_
 try (refine ev ?_; try exact True.intro)
 exact ⟨⟨[2], rfl⟩, by decide⟩
end Go.Proofs.Ytinnaedmdoengaa
namespace Go.Proofs.Ytinnaedmdoengaa
open Go.Abs
set_option linter.unusedSimpArgs false
set_option linter.unusedVariables false
noncomputable section
set_option maxRecDepth 100000
def s75r0 : List SOper := [
 ⟨some 2, .mov (.k (.d .nilsl)), none⟩]
def s75r1 : List SOper := [
 ⟨some 5, .mov (.t 0), none⟩,
 ⟨some 6, .conv .u64 (.t 5), none⟩,
 ⟨some 7, .bin .mul (.t 6) (.k (.d (.int .u64 2))), none⟩,
 ⟨some 3, .mov (.t 7), none⟩]
def s75r2 : List SOper := [
 ⟨some 8, .mov (.t 0), none⟩,
 ⟨some 9, .bin .lss (.t 8) (.k (.d (.int .i64 0))), none⟩]
def s75r3 : List SOper := [
 ⟨some 10, .mov (.t 0), none⟩,
 ⟨some 11, .bin .add (.t 10) (.k (.d (.int .i64 1))), none⟩,
 ⟨some 12, .neg (.t 11), none⟩,
 ⟨some 13, .conv .u64 (.t 12), none⟩,
 ⟨some 14, .bin .mul (.t 13) (.k (.d (.int .u64 2))), none⟩,
 ⟨some 15, .bin .add (.t 14) (.k (.d (.int .u64 1))), none⟩,
 ⟨some 3, .mov (.t 15), none⟩]
def s75r4 : List SOper := [
 ⟨some 4, .mov (.k (.d .nilsl)), none⟩]
def s75r5 : List SOper := [
 ⟨some 16, .mov (.t 3), none⟩,
 ⟨some 17, .bin .geq (.t 16) (.k (.d (.int .u64 128))), none⟩]
def s75r6 : List SOper := [
 ⟨some 18, .mov (.t 4), none⟩,
 ⟨some 19, .mov (.t 3), none⟩,
 ⟨some 20, .bin .rem (.t 19) (.k (.d (.int .u64 128))), none⟩,
 ⟨some 21, .conv .u8 (.t 20), none⟩,
 ⟨some 22, .bin .add (.t 21) (.k (.d (.int .u8 128))), none⟩,
 ⟨some 23, .buildSlice false 1 1 [(.int .u8 0)] [(0, 1, (.t 22))], none⟩,
 ⟨some 24, .append false 1 1 (.t 18) (.t 23), none⟩,
 ⟨some 4, .mov (.t 24), none⟩]
def s75r7 : List SOper := [
 ⟨some 25, .mov (.t 3), none⟩,
 ⟨some 26, .bin .quo (.t 25) (.k (.d (.int .u64 128))), none⟩,
 ⟨some 3, .mov (.t 26), none⟩]
def s75l8 : SCode := (.seq (.seq (.region s75r5 0 []) (.cond (.t 17) .skip (.exit 0))) (.block 1 (.seq (.region s75r6 0 []) (.region s75r7 0 []))))
theorem q5n : CodeIs s75l8.eq_1 := qc s75l8.eq_1
def s75r9 : List SOper := [
 ⟨some 27, .mov (.t 4), none⟩,
 ⟨some 28, .mov (.t 3), none⟩,
 ⟨some 29, .conv .u8 (.t 28), none⟩,
 ⟨some 30, .buildSlice false 1 1 [(.int .u8 0)] [(0, 1, (.t 29))], none⟩,
 ⟨some 31, .append false 1 1 (.t 27) (.t 30), none⟩,
 ⟨some 2, .mov (.t 31), none⟩]
def s75 : SCode := (.seq (.region s75r0 0 []) (.seq (.region s75r1 0 []) (.seq (.seq (.region s75r2 0 []) (.cond (.t 9) (.region s75r3 0 []) .skip)) (.seq (.region s75r4 0 []) (.seq (.block 0 (.loop s75l8)) (.seq (.region s75r9 0 []) .ret))))))
theorem e75 : CodeIs s75.eq_1 := qc s75.eq_1
theorem q5o : RegIs s75r0.eq_1 := qa
theorem q5p : RegIs s75r1.eq_1 := qa
theorem q5q : RegIs s75r2.eq_1 := qa
theorem q5r : RegIs s75r3.eq_1 := qa
theorem q5s : RegIs s75r4.eq_1 := qa
theorem q5t : RegIs s75r5.eq_1 := qa
theorem q5u : RegIs s75r6.eq_1 := qa
theorem q5v : RegIs s75r7.eq_1 := qa
theorem q5w : RegIs s75r9.eq_1 := qa
attribute [go_sem] q5o q5p q5q q5r q5s q5t q5u q5v q5n q5w e75
theorem F75 : FnIs Try.prog 75 Try.f75 [] news s75 [.tmp 2] 32 := xa follows Try.func75
def s79r0 : List SOper := [
 ⟨some 2, .mov (.k (.d .nilsl)), none⟩]
def s79r1 : List SOper := [
 ⟨some 3, .mov (.t 0), none⟩,
 ⟨some 4, .len (.t 3), none⟩,
 ⟨some 5, .call (.k (.d (.func (.func 75) [] []))) [(.t 4)], none⟩,
 ⟨some 6, .mov (.t 0), none⟩,
 ⟨some 7, .append false 1 1 (.t 5) (.t 6), none⟩,
 ⟨some 2, .mov (.t 7), none⟩]
def s79 : SCode := (.seq (.region s79r0 0 []) (.seq (.region s79r1 0 []) .ret))
theorem e79 : CodeIs s79.eq_1 := qc s79.eq_1
theorem q5x : RegIs s79r0.eq_1 := qa
theorem q5y : RegIs s79r1.eq_1 := qa
attribute [go_sem] q5x q5y e79
theorem F79 : FnIs Try.prog 79 Try.f79 [] news s79 [.tmp 2] 8 := xa follows Try.func79
def s77r0 : List SOper := [
 ⟨some 2, .mov (.k (.d .nilsl)), none⟩]
def s77r1 : List SOper := [
 ⟨some 3, .mov (.t 0), none⟩,
 ⟨some 4, .s2b (.t 3), none⟩,
 ⟨some 5, .call (.k (.d (.func (.func 79) [] []))) [(.t 4)], none⟩,
 ⟨some 2, .mov (.t 5), none⟩]
def s77 : SCode := (.seq (.region s77r0 0 []) (.seq (.region s77r1 0 []) .ret))
theorem e77 : CodeIs s77.eq_1 := qc s77.eq_1
theorem q5z : RegIs s77r0.eq_1 := qa
theorem q50 : RegIs s77r1.eq_1 := qa
attribute [go_sem] q5z q50 e77
theorem F77 : FnIs Try.prog 77 Try.f77 [] news s77 [.tmp 2] 6 := xa follows Try.func77
def s78r0 : List SOper := [
 ⟨some 2, .mov (.k (.d .nilsl)), none⟩]
def s78r1 : List SOper := [
 ⟨some 3, .mov (.t 0), none⟩]
def s78r2 : List SOper := [
 ⟨some 4, .buildSlice false 1 1 [(.int .u8 0)] [(0, 1, (.k (.d (.int .u8 1))))], none⟩,
 ⟨some 2, .mov (.t 4), none⟩]
def s78r3 : List SOper := [
 ⟨some 5, .buildSlice false 1 1 [(.int .u8 0)] [(0, 1, (.k (.d (.int .u8 0))))], none⟩,
 ⟨some 2, .mov (.t 5), none⟩]
def s78 : SCode := (.seq (.region s78r0 0 []) (.seq (.seq (.region s78r1 0 []) (.cond (.t 3) (.seq (.region s78r2 0 []) .ret) .skip)) (.seq (.region s78r3 0 []) .ret)))
theorem e78 : CodeIs s78.eq_1 := qc s78.eq_1
theorem q51 : RegIs s78r0.eq_1 := qa
theorem q52 : RegIs s78r1.eq_1 := qa
theorem q53 : RegIs s78r2.eq_1 := qa
theorem q54 : RegIs s78r3.eq_1 := qa
attribute [go_sem] q51 q52 q53 q54 e78
theorem F78 : FnIs Try.prog 78 Try.f78 [] news s78 [.tmp 2] 6 := xa follows Try.func78
def s76r0 : List SOper := [
 ⟨some 1, .box 1 (.t 0), none⟩,
 ⟨some 2, .mov (.k (.d (.bool false))), none⟩]
def s76r1 : List SOper := [
 ⟨some 3, .faddr 0 (.t 1), none⟩,
 ⟨some 4, .load none (.t 3), none⟩,
 ⟨some 5, .lenS (.t 4), none⟩,
 ⟨some 6, .bin .geq (.t 5) (.k (.d (.int .i64 1))), none⟩,
 ⟨some 7, .mov (.t 6), none⟩,
 ⟨some 8, .faddr 0 (.t 1), some (7, true)⟩,
 ⟨some 9, .load none (.t 8), some (7, true)⟩,
 ⟨some 10, .lenS (.t 9), some (7, true)⟩,
 ⟨some 11, .bin .leq (.t 10) (.k (.d (.int .i64 40))), some (7, true)⟩,
 ⟨some 12, .pick (.t 7) (.t 11) (.k (.d (.bool false))), none⟩,
 ⟨some 13, .mov (.t 12), none⟩,
 ⟨some 14, .faddr 2 (.t 1), some (13, true)⟩,
 ⟨some 15, .load none (.t 14), some (13, true)⟩,
 ⟨some 16, .len (.t 15), some (13, true)⟩,
 ⟨some 17, .bin .leq (.t 16) (.k (.d (.int .i64 900))), some (13, true)⟩,
 ⟨some 18, .pick (.t 13) (.t 17) (.k (.d (.bool false))), none⟩,
 ⟨some 19, .mov (.t 18), none⟩,
 ⟨some 20, .faddr 1 (.t 1), some (19, true)⟩,
 ⟨some 21, .load none (.t 20), some (19, true)⟩,
 ⟨some 22, .not (.t 21), some (19, true)⟩,
 ⟨some 23, .mov (.t 22), some (19, true)⟩,
 ⟨some 24, .faddr 2 (.t 1), some (23, false)⟩,
 ⟨some 25, .load none (.t 24), some (23, false)⟩,
 ⟨some 26, .len (.t 25), some (23, false)⟩,
 ⟨some 27, .bin .eql (.t 26) (.k (.d (.int .i64 0))), some (23, false)⟩,
 ⟨some 28, .pick (.t 23) (.k (.d (.bool true))) (.t 27), some (19, true)⟩,
 ⟨some 29, .pick (.t 19) (.t 28) (.k (.d (.bool false))), none⟩,
 ⟨some 2, .mov (.t 29), none⟩]
def s76 : SCode := (.seq (.region s76r0 1 []) (.seq (.region s76r1 0 []) .ret))
theorem e76 : CodeIs s76.eq_1 := qc s76.eq_1
theorem q55 : RegIs s76r0.eq_1 := qa
theorem q56 : RegIs s76r1.eq_1 := qa
attribute [go_sem] q55 q56 e76
theorem F76 : FnIs Try.prog 76 Try.f76 [] news s76 [.tmp 2] 30 := xa follows Try.func76
def s31r0 : List SOper := [
 ⟨some 2, .mov (.k (.d .nilsl)), none⟩,
 ⟨some 3, .mov (.k (.d (.int .i64 0))), none⟩]
def s31r1 : List SOper := [
 ⟨some 6, .mov (.t 0), none⟩,
 ⟨some 7, .len (.t 6), none⟩,
 ⟨some 8, .bin .eql (.t 7) (.k (.d (.int .i64 0))), none⟩]
def s31r2 : List SOper := [
 ⟨some 2, .mov (.k (.d .nilsl)), none⟩,
 ⟨some 3, .mov (.k (.d (.int .i64 1))), none⟩]
def s31r3 : List SOper := [
 ⟨some 9, .mov (.t 0), none⟩,
 ⟨some 10, .len (.t 9), none⟩,
 ⟨some 11, .call (.k (.d (.func (.func 75) [] []))) [(.t 10)], none⟩,
 ⟨some 4, .mov (.t 11), none⟩]
def s31r4 : List SOper := [
 ⟨some 5, .mov (.k (.d (.int .i64 0))), none⟩]
def s31r5 : List SOper := [
 ⟨some 12, .mov (.t 5), none⟩,
 ⟨some 13, .mov (.t 0), none⟩,
 ⟨some 14, .len (.t 13), none⟩,
 ⟨some 15, .bin .lss (.t 12) (.t 14), none⟩]
def s31r6 : List SOper := [
 ⟨some 18, .mov (.t 0), none⟩,
 ⟨some 19, .mov (.t 5), none⟩,
 ⟨some 20, .iaddr 3 (.t 18) (.t 19), none⟩,
 ⟨some 21, .load (some 3) (.t 20), none⟩,
 ⟨some 22, .call (.k (.d (.func (.func 76) [] []))) [(.t 21)], none⟩,
 ⟨some 23, .not (.t 22), none⟩]
def s31r7 : List SOper := [
 ⟨some 2, .mov (.k (.d .nilsl)), none⟩,
 ⟨some 3, .mov (.k (.d (.int .i64 1))), none⟩]
def s31r8 : List SOper := [
 ⟨some 24, .mov (.t 4), none⟩,
 ⟨some 25, .mov (.t 0), none⟩,
 ⟨some 26, .mov (.t 5), none⟩,
 ⟨some 27, .iaddr 3 (.t 25) (.t 26), none⟩,
 ⟨some 28, .faddr 0 (.t 27), none⟩,
 ⟨some 29, .load none (.t 28), none⟩,
 ⟨some 30, .call (.k (.d (.func (.func 77) [] []))) [(.t 29)], none⟩,
 ⟨some 31, .append false 1 1 (.t 24) (.t 30), none⟩,
 ⟨some 32, .mov (.t 0), none⟩,
 ⟨some 33, .mov (.t 5), none⟩,
 ⟨some 34, .iaddr 3 (.t 32) (.t 33), none⟩,
 ⟨some 35, .faddr 1 (.t 34), none⟩,
 ⟨some 36, .load none (.t 35), none⟩,
 ⟨some 37, .call (.k (.d (.func (.func 78) [] []))) [(.t 36)], none⟩,
 ⟨some 38, .append false 1 1 (.t 31) (.t 37), none⟩,
 ⟨some 4, .mov (.t 38), none⟩]
def s31r9 : List SOper := [
 ⟨some 39, .mov (.t 4), none⟩,
 ⟨some 40, .mov (.t 0), none⟩,
 ⟨some 41, .mov (.t 5), none⟩,
 ⟨some 42, .iaddr 3 (.t 40) (.t 41), none⟩,
 ⟨some 43, .faddr 2 (.t 42), none⟩,
 ⟨some 44, .load none (.t 43), none⟩,
 ⟨some 45, .call (.k (.d (.func (.func 79) [] []))) [(.t 44)], none⟩,
 ⟨some 46, .append false 1 1 (.t 39) (.t 45), none⟩,
 ⟨some 4, .mov (.t 46), none⟩]
def s31r10 : List SOper := [
 ⟨some 16, .mov (.t 5), none⟩,
 ⟨some 17, .bin .add (.t 16) (.k (.d (.int .i64 1))), none⟩,
 ⟨some 5, .mov (.t 17), none⟩]
def s31l11 : SCode := (.seq (.seq (.region s31r5 0 []) (.cond (.t 15) .skip (.exit 0))) (.seq (.block 1 (.seq (.seq (.region s31r6 0 []) (.cond (.t 23) (.seq (.region s31r7 0 []) .ret) .skip)) (.seq (.region s31r8 0 [(6, 12)]) (.region s31r9 0 [])))) (.region s31r10 0 [])))
theorem qyk : CodeIs s31l11.eq_1 := qc s31l11.eq_1
def s31r12 : List SOper := [
 ⟨some 47, .mov (.t 0), none⟩,
 ⟨some 48, .len (.t 47), none⟩,
 ⟨some 49, .bin .gtr (.t 48) (.k (.d (.int .i64 20))), none⟩,
 ⟨some 50, .mov (.t 49), none⟩,
 ⟨some 51, .mov (.t 4), some (50, false)⟩,
 ⟨some 52, .len (.t 51), some (50, false)⟩,
 ⟨some 53, .bin .gtr (.t 52) (.k (.d (.int .i64 2000))), some (50, false)⟩,
 ⟨some 54, .pick (.t 50) (.k (.d (.bool true))) (.t 53), none⟩]
def s31r13 : List SOper := [
 ⟨some 2, .mov (.k (.d .nilsl)), none⟩,
 ⟨some 3, .mov (.k (.d (.int .i64 6))), none⟩]
def s31r14 : List SOper := [
 ⟨some 55, .mov (.t 4), none⟩,
 ⟨some 2, .mov (.t 55), none⟩,
 ⟨some 3, .mov (.k (.d (.int .i64 0))), none⟩]
def s31 : SCode := (.seq (.region s31r0 0 []) (.seq (.seq (.region s31r1 0 []) (.cond (.t 8) (.seq (.region s31r2 0 []) .ret) .skip)) (.seq (.region s31r3 0 []) (.seq (.seq (.region s31r4 0 []) (.block 0 (.loop s31l11))) (.seq (.seq (.region s31r12 0 []) (.cond (.t 54) (.seq (.region s31r13 0 []) .ret) .skip)) (.seq (.region s31r14 0 []) .ret))))))
theorem e31 : CodeIs s31.eq_1 := qc s31.eq_1
theorem q57 : RegIs s31r0.eq_1 := qa
theorem q58 : RegIs s31r1.eq_1 := qa
theorem q59 : RegIs s31r2.eq_1 := qa
theorem q6a : RegIs s31r3.eq_1 := qa
theorem q6b : RegIs s31r4.eq_1 := qa
theorem q6c : RegIs s31r5.eq_1 := qa
theorem q6d : RegIs s31r6.eq_1 := qa
theorem q6e : RegIs s31r7.eq_1 := qa
theorem q6f : RegIs s31r8.eq_1 := qa
theorem q6g : RegIs s31r9.eq_1 := qa
theorem qyl : RegIs s31r10.eq_1 := qa
theorem qym : RegIs s31r12.eq_1 := qa
theorem qyn : RegIs s31r13.eq_1 := qa
theorem qyo : RegIs s31r14.eq_1 := qa
attribute [go_sem] q57 q58 q59 q6a q6b q6c q6d q6e q6f q6g qyl qyk qym qyn qyo e31
theorem F31 : FnIs Try.prog 31 Try.f31 [] news s31 [.tmp 2, .tmp 3] 56 := xa follows Try.func31
end
def SrefInt (n : Int) (i : { x : List UInt8 × Nat // x.1 ++ vbytes x.2 = wInt n ∧ x.2 < 18446744073709551616 }) : St :=
 ⟨[(3, true, .d (.int .u64 (i.val.2 : Nat))), (4, true, .own 0 1 (byteRows i.val.1))], [], [0], 1⟩
theorem qg7 (n : Int) (hn : I64 n) : ACall Try.prog 75 [.d (.int .i64 n)] [] (.own 0 1 (byteRows (wInt n))) [] := by
 have hz := qqa hn
 obtain ⟨hn1, hn2⟩ := hn
 have hrest : ∀ Q : SExit → St → Prop, True := fun _ => trivial
 refine F75.go ?_
 try (refine ev ?_; try exact True.intro)
 have b128 : ∀ u : Nat, u < 18446744073709551616 → IntKind.u8.wrap (IntKind.u8.wrap ((u : Int).tmod 128) + 128) = ((UInt8.ofNat (u % 128 + 128)).toNat : Int) := by
  intro u hu
  rw [Int.tmod_eq_emod_of_nonneg (by omega), qbr, qbr, show ((u : Int) % 128 % 256 + 128) % 256 = ((u % 128 + 128 : Nat) : Int) by omega]
  simp [UInt8.toNat_ofNat]; omega
 have q128 : ∀ u : Nat, u < 18446744073709551616 → IntKind.u64.wrap ((u : Int).tdiv 128) = ((u / 128 : Nat) : Int) := by
  intro u hu
  rw [Int.tdiv_eq_ediv_of_nonneg (by omega), show ((u : Int) / 128) = ((u / 128 : Nat) : Int) by omega, f2 _ (by omega)]
 refine zb _ (fun h => ?_) (fun h => ?_)
 ·have e : IntKind.u64.wrap (IntKind.u64.wrap (IntKind.u64.wrap (IntKind.i64.wrap (0 - IntKind.i64.wrap (n + 1))) * 2) + 1) = ((zz n : Nat) : Int) := by
   simp at h
   rw [xd (n := n + 1) (by unfold I64; omega), xd (by unfold I64; omega)]
   simp only [wc]
   unfold zz; rw [if_neg (by omega)]; omega
  try simp only [e, go_sem, Nat.reduceAdd, Nat.reduceMul, Nat.reduceSub, Nat.reduceEqDiff, Nat.reduceLT, Nat.reduceLeDiff, Nat.reduceBEq, reduceIte, reduceCtorEq, Int.reduceAdd, Int.reduceLT, Int.reduceLE, Int.reduceGT, Int.reduceGE, Int.reduceEq, Int.reduceNe, Int.reduceBEq, Int.reduceBNe, Int.reduceToNat, Int.reduceNeg]
  refine qn (SrefInt n) (fun i => i.val.2) ⟨([], zz n), by simp [wInt], hz⟩ ?_ (fun i => ?_)
  ·try simp only [SrefInt, qj, go_sem, Nat.reduceAdd, Nat.reduceMul, Nat.reduceSub, Nat.reduceEqDiff, Nat.reduceLT, Nat.reduceLeDiff, Nat.reduceBEq, reduceIte, reduceCtorEq, Int.reduceAdd, Int.reduceLT, Int.reduceLE, Int.reduceGT, Int.reduceGE, Int.reduceEq, Int.reduceNe, Int.reduceBEq, Int.reduceBNe, Int.reduceToNat, Int.reduceNeg]
  obtain ⟨⟨p, u⟩, hi, hu⟩ := i
  simp only at hi hu
  have hl : p.length ≤ 10 := by
   have h1 := congrArg List.length hi
   have h2 := zh (n := n) ⟨hn1, hn2⟩
   simp at h1; omega
  try simp only [SrefInt, go_sem, Nat.reduceAdd, Nat.reduceMul, Nat.reduceSub, Nat.reduceEqDiff, Nat.reduceLT, Nat.reduceLeDiff, Nat.reduceBEq, reduceIte, reduceCtorEq, Int.reduceAdd, Int.reduceLT, Int.reduceLE, Int.reduceGT, Int.reduceGE, Int.reduceEq, Int.reduceNe, Int.reduceBEq, Int.reduceBNe, Int.reduceToNat, Int.reduceNeg]
  refine zb _ (fun hc => ?_) (fun hc => ?_)
  ·have hc2 : ¬ u < 128 := by simp at hc; omega
   try simp only [b128 u hu, q128 u hu, xw, qm, go_sem, Nat.reduceAdd, Nat.reduceMul, Nat.reduceSub, Nat.reduceEqDiff, Nat.reduceLT, Nat.reduceLeDiff, Nat.reduceBEq, reduceIte, reduceCtorEq, Int.reduceAdd, Int.reduceLT, Int.reduceLE, Int.reduceGT, Int.reduceGE, Int.reduceEq, Int.reduceNe, Int.reduceBEq, Int.reduceBNe, Int.reduceToNat, Int.reduceNeg]
   (repeat (with_reducible refine ob ?_))
   refine ⟨⟨(p ++ [UInt8.ofNat (u % 128 + 128)], u / 128), ?_, by omega⟩, ?_, by simp only; omega⟩
   ·simp only at hi ⊢; rw [zy hc2] at hi; rw [← hi]; simp
   ·try simp only [SrefInt, go_sem, Nat.reduceAdd, Nat.reduceMul, Nat.reduceSub, Nat.reduceEqDiff, Nat.reduceLT, Nat.reduceLeDiff, Nat.reduceBEq, reduceIte, reduceCtorEq, Int.reduceAdd, Int.reduceLT, Int.reduceLE, Int.reduceGT, Int.reduceGE, Int.reduceEq, Int.reduceNe, Int.reduceBEq, Int.reduceBNe, Int.reduceToNat, Int.reduceNeg]
  ·have hc2 : u < 128 := by simp at hc; omega
   try simp only [qeq, xw, qm, go_sem, Nat.reduceAdd, Nat.reduceMul, Nat.reduceSub, Nat.reduceEqDiff, Nat.reduceLT, Nat.reduceLeDiff, Nat.reduceBEq, reduceIte, reduceCtorEq, Int.reduceAdd, Int.reduceLT, Int.reduceLE, Int.reduceGT, Int.reduceGE, Int.reduceEq, Int.reduceNe, Int.reduceBEq, Int.reduceBNe, Int.reduceToNat, Int.reduceNeg]
   (repeat (with_reducible refine ob ?_))
   simp only [z6 hc2] at hi
   try simp only [hi, go_sem, Nat.reduceAdd, Nat.reduceMul, Nat.reduceSub, Nat.reduceEqDiff, Nat.reduceLT, Nat.reduceLeDiff, Nat.reduceBEq, reduceIte, reduceCtorEq, Int.reduceAdd, Int.reduceLT, Int.reduceLE, Int.reduceGT, Int.reduceGE, Int.reduceEq, Int.reduceNe, Int.reduceBEq, Int.reduceBNe, Int.reduceToNat, Int.reduceNeg]
 ·have e : IntKind.u64.wrap (IntKind.u64.wrap n * 2) = ((zz n : Nat) : Int) := by
   simp at h
   simp only [wc]
   unfold zz; rw [if_pos (by omega)]; omega
  try simp only [e, go_sem, Nat.reduceAdd, Nat.reduceMul, Nat.reduceSub, Nat.reduceEqDiff, Nat.reduceLT, Nat.reduceLeDiff, Nat.reduceBEq, reduceIte, reduceCtorEq, Int.reduceAdd, Int.reduceLT, Int.reduceLE, Int.reduceGT, Int.reduceGE, Int.reduceEq, Int.reduceNe, Int.reduceBEq, Int.reduceBNe, Int.reduceToNat, Int.reduceNeg]
  refine qn (SrefInt n) (fun i => i.val.2) ⟨([], zz n), by simp [wInt], hz⟩ ?_ (fun i => ?_)
  ·try simp only [SrefInt, qj, go_sem, Nat.reduceAdd, Nat.reduceMul, Nat.reduceSub, Nat.reduceEqDiff, Nat.reduceLT, Nat.reduceLeDiff, Nat.reduceBEq, reduceIte, reduceCtorEq, Int.reduceAdd, Int.reduceLT, Int.reduceLE, Int.reduceGT, Int.reduceGE, Int.reduceEq, Int.reduceNe, Int.reduceBEq, Int.reduceBNe, Int.reduceToNat, Int.reduceNeg]
  obtain ⟨⟨p, u⟩, hi, hu⟩ := i
  simp only at hi hu
  have hl : p.length ≤ 10 := by
   have h1 := congrArg List.length hi
   have h2 := zh (n := n) ⟨hn1, hn2⟩
   simp at h1; omega
  try simp only [SrefInt, go_sem, Nat.reduceAdd, Nat.reduceMul, Nat.reduceSub, Nat.reduceEqDiff, Nat.reduceLT, Nat.reduceLeDiff, Nat.reduceBEq, reduceIte, reduceCtorEq, Int.reduceAdd, Int.reduceLT, Int.reduceLE, Int.reduceGT, Int.reduceGE, Int.reduceEq, Int.reduceNe, Int.reduceBEq, Int.reduceBNe, Int.reduceToNat, Int.reduceNeg]
  refine zb _ (fun hc => ?_) (fun hc => ?_)
  ·have hc2 : ¬ u < 128 := by simp at hc; omega
   try simp only [b128 u hu, q128 u hu, xw, qm, go_sem, Nat.reduceAdd, Nat.reduceMul, Nat.reduceSub, Nat.reduceEqDiff, Nat.reduceLT, Nat.reduceLeDiff, Nat.reduceBEq, reduceIte, reduceCtorEq, Int.reduceAdd, Int.reduceLT, Int.reduceLE, Int.reduceGT, Int.reduceGE, Int.reduceEq, Int.reduceNe, Int.reduceBEq, Int.reduceBNe, Int.reduceToNat, Int.reduceNeg]
   (repeat (with_reducible refine ob ?_))
   refine ⟨⟨(p ++ [UInt8.ofNat (u % 128 + 128)], u / 128), ?_, by omega⟩, ?_, by simp only; omega⟩
   ·simp only at hi ⊢; rw [zy hc2] at hi; rw [← hi]; simp
   ·try simp only [SrefInt, go_sem, Nat.reduceAdd, Nat.reduceMul, Nat.reduceSub, Nat.reduceEqDiff, Nat.reduceLT, Nat.reduceLeDiff, Nat.reduceBEq, reduceIte, reduceCtorEq, Int.reduceAdd, Int.reduceLT, Int.reduceLE, Int.reduceGT, Int.reduceGE, Int.reduceEq, Int.reduceNe, Int.reduceBEq, Int.reduceBNe, Int.reduceToNat, Int.reduceNeg]
  ·have hc2 : u < 128 := by simp at hc; omega
   try simp only [qeq, xw, qm, go_sem, Nat.reduceAdd, Nat.reduceMul, Nat.reduceSub, Nat.reduceEqDiff, Nat.reduceLT, Nat.reduceLeDiff, Nat.reduceBEq, reduceIte, reduceCtorEq, Int.reduceAdd, Int.reduceLT, Int.reduceLE, Int.reduceGT, Int.reduceGE, Int.reduceEq, Int.reduceNe, Int.reduceBEq, Int.reduceBNe, Int.reduceToNat, Int.reduceNeg]
   (repeat (with_reducible refine ob ?_))
   simp only [z6 hc2] at hi
   try simp only [hi, go_sem, Nat.reduceAdd, Nat.reduceMul, Nat.reduceSub, Nat.reduceEqDiff, Nat.reduceLT, Nat.reduceLeDiff, Nat.reduceBEq, reduceIte, reduceCtorEq, Int.reduceAdd, Int.reduceLT, Int.reduceLE, Int.reduceGT, Int.reduceGE, Int.reduceEq, Int.reduceNe, Int.reduceBEq, Int.reduceBNe, Int.reduceToNat, Int.reduceNeg]
theorem qb3 (s : List UInt8) (hs : s.length ≤ 100000000) : ACall Try.prog 79 [.d (.sl 1 (byteRows s))] [] (.own 0 1 (byteRows (wText s))) [] := by
 have hw := zh (qz (n := s.length) (by omega))
 refine F79.go ?_
 try (refine ev ?_; try exact True.intro)
 refine clA F75 (qg7 s.length (qz (by omega))) ?_
 try simp only [qm, wText, go_sem, Nat.reduceAdd, Nat.reduceMul, Nat.reduceSub, Nat.reduceEqDiff, Nat.reduceLT, Nat.reduceLeDiff, Nat.reduceBEq, reduceIte, reduceCtorEq, Int.reduceAdd, Int.reduceLT, Int.reduceLE, Int.reduceGT, Int.reduceGE, Int.reduceEq, Int.reduceNe, Int.reduceBEq, Int.reduceBNe, Int.reduceToNat, Int.reduceNeg]
 omega
theorem qle (s : List UInt8) (hs : s.length ≤ 100000000) : ACall Try.prog 77 [.d (.str s)] [] (.own 0 1 (byteRows (wText s))) [] := by
 refine F77.go ?_
 try (refine ev ?_; try exact True.intro)
 refine clA F79 (qb3 s hs) ?_
 try (refine ev ?_; try exact True.intro)
theorem qdq (v : Bool) : ACall Try.prog 78 [.d (.bool v)] [] (.full 1 (byteRows [if v then 1 else 0])) [] := by
 refine F78.go ?_
 try (refine ev ?_; try exact True.intro)
 have e1 : [[D.int .u8 1]] = byteRows [1] := rfl
 have e0 : [[D.int .u8 0]] = byteRows [0] := rfl
 cases v with
 | true =>
  (repeat (with_reducible refine ob ?_)); refine yv ?_
  try simp only [e1, go_sem, Nat.reduceAdd, Nat.reduceMul, Nat.reduceSub, Nat.reduceEqDiff, Nat.reduceLT, Nat.reduceLeDiff, Nat.reduceBEq, reduceIte, reduceCtorEq, Int.reduceAdd, Int.reduceLT, Int.reduceLE, Int.reduceGT, Int.reduceGE, Int.reduceEq, Int.reduceNe, Int.reduceBEq, Int.reduceBNe, Int.reduceToNat, Int.reduceNeg]
 | false =>
  (repeat (with_reducible refine ob ?_)); refine no_ ?_
  try simp only [e0, go_sem, Nat.reduceAdd, Nat.reduceMul, Nat.reduceSub, Nat.reduceEqDiff, Nat.reduceLT, Nat.reduceLeDiff, Nat.reduceBEq, reduceIte, reduceCtorEq, Int.reduceAdd, Int.reduceLT, Int.reduceLE, Int.reduceGT, Int.reduceGE, Int.reduceEq, Int.reduceNe, Int.reduceBEq, Int.reduceBNe, Int.reduceToNat, Int.reduceNeg]
def rProper (o : OpS) : Bool := decide ((o.key.length : Int) ≥ 1) && decide ((o.key.length : Int) ≤ 40) && decide ((o.val.length : Int) ≤ 900) && (!o.del || (o.val.length : Int) == 0)
theorem qlf (o : OpS) : rProper o = sProper o := by
 unfold rProper sProper
 congr 1
 cases o.del
 ·rfl
 ·rw [Bool.eq_iff_iff]; simp
theorem qlg (o : OpS) : ACall Try.prog 76 [.d (.agg (encOp o))] [] (.d (.bool (sProper o))) [] := by
 rw [← qlf]
 refine F76.go ?_
 try simp only [encOp, rProper, go_sem, Nat.reduceAdd, Nat.reduceMul, Nat.reduceSub, Nat.reduceEqDiff, Nat.reduceLT, Nat.reduceLeDiff, Nat.reduceBEq, reduceIte, reduceCtorEq, Int.reduceAdd, Int.reduceLT, Int.reduceLE, Int.reduceGT, Int.reduceGE, Int.reduceEq, Int.reduceNe, Int.reduceBEq, Int.reduceBNe, Int.reduceToNat, Int.reduceNeg]
 intro h
 exact ⟨h, fun h2 => by rw [h]; simpa using h2⟩
def SrEnc (l : List OpS) (i : { i : Nat // i ≤ l.length ∧ ∀ o ∈ l.take i, sProper o = true }) : St :=
 ⟨[(0, true, .d (.sl 3 (l.map encOp))), (4, true, .own 0 1 (byteRows (wInt l.length ++ (l.take i.val).flatMap wOp))), (5, true, .d (.int .i64 (i.val : Nat)))], [], [0], 1⟩
set_option maxRecDepth 10000 in
theorem ji (l : List OpS) (hl : l.length ≤ 100000) : ACall Try.prog 31 [.d (.sl 3 (l.map encOp))] [] (.tup [.d (.sl 1 (byteRows (sEncode l).1)), .d (.int .i64 (sEncode l).2)]) [] := by
 refine F31.goT ?_
 try (refine ev ?_; try exact True.intro)
 (repeat (with_reducible refine ob ?_)); refine zb _ (fun h => ?_) (fun h => ?_)
 ·have hb : sEncode l = ([], 1) := by
   unfold sEncode
   rw [if_pos]
   simp at h ⊢
   exact .inl h
  try simp only [hb, qj, go_sem, Nat.reduceAdd, Nat.reduceMul, Nat.reduceSub, Nat.reduceEqDiff, Nat.reduceLT, Nat.reduceLeDiff, Nat.reduceBEq, reduceIte, reduceCtorEq, Int.reduceAdd, Int.reduceLT, Int.reduceLE, Int.reduceGT, Int.reduceGE, Int.reduceEq, Int.reduceNe, Int.reduceBEq, Int.reduceBNe, Int.reduceToNat, Int.reduceNeg]
 have hw := zh (qz (n := l.length) (by omega))
 try (refine ev ?_; try exact True.intro)
 refine clA F75 (qg7 l.length (qz (by omega))) ?_
 try (refine ev ?_; try exact True.intro)
 refine qn (SrEnc l) (fun i => l.length - i.val) ⟨0, Nat.zero_le _, by simp⟩ ?_ (fun i => ?_)
 ·try simp only [SrEnc, List.take_zero, List.flatMap_nil, List.append_nil, go_sem, Nat.reduceAdd, Nat.reduceMul, Nat.reduceSub, Nat.reduceEqDiff, Nat.reduceLT, Nat.reduceLeDiff, Nat.reduceBEq, reduceIte, reduceCtorEq, Int.reduceAdd, Int.reduceLT, Int.reduceLE, Int.reduceGT, Int.reduceGE, Int.reduceEq, Int.reduceNe, Int.reduceBEq, Int.reduceBNe, Int.reduceToNat, Int.reduceNeg]
 obtain ⟨i, hi, hp⟩ := i
 try simp only [SrEnc, go_sem, Nat.reduceAdd, Nat.reduceMul, Nat.reduceSub, Nat.reduceEqDiff, Nat.reduceLT, Nat.reduceLeDiff, Nat.reduceBEq, reduceIte, reduceCtorEq, Int.reduceAdd, Int.reduceLT, Int.reduceLE, Int.reduceGT, Int.reduceGE, Int.reduceEq, Int.reduceNe, Int.reduceBEq, Int.reduceBNe, Int.reduceToNat, Int.reduceNeg]
 refine zb _ (fun hc => ?_) (fun hc => ?_)
 ·have hil : i < l.length := by simpa using hc
  have hwl := qas hp
  have hwt : (l.take i).length ≤ i := by rw [List.length_take]; omega
  try simp only [qw encOp l hil, encOp, go_sem, Nat.reduceAdd, Nat.reduceMul, Nat.reduceSub, Nat.reduceEqDiff, Nat.reduceLT, Nat.reduceLeDiff, Nat.reduceBEq, reduceIte, reduceCtorEq, Int.reduceAdd, Int.reduceLT, Int.reduceLE, Int.reduceGT, Int.reduceGE, Int.reduceEq, Int.reduceNe, Int.reduceBEq, Int.reduceBNe, Int.reduceToNat, Int.reduceNeg]
  (repeat (with_reducible refine ob ?_))
  have hpo := qlg l[i]
  simp only [encOp] at hpo
  (repeat (with_reducible refine ob ?_)); first | refine cl F76 (hpo) ?_ | refine clF F76 (hpo) (fun _ => by simp only [encOp, encEn, encStep, go_sem, Nat.reduceAdd, Nat.reduceMul, Nat.reduceSub, Nat.reduceEqDiff, Nat.reduceLT, Nat.reduceLeDiff, Nat.reduceBEq, reduceIte, reduceCtorEq, Int.reduceAdd, Int.reduceLT, Int.reduceLE, Int.reduceGT, Int.reduceGE, Int.reduceEq, Int.reduceNe, Int.reduceBEq, Int.reduceBNe, Int.reduceToNat, Int.reduceNeg]) ?_
  try (refine ev ?_; try exact True.intro)
  refine zb _ (fun hc => ?_) (fun hc => ?_)
  ·have hb : sEncode l = ([], 1) := by
    unfold sEncode
    rw [if_pos]
    simp only [Bool.or_eq_true, List.any_eq_true]
    exact .inr ⟨l[i], List.getElem_mem hil, hc⟩
   try simp only [hb, qj, go_sem, Nat.reduceAdd, Nat.reduceMul, Nat.reduceSub, Nat.reduceEqDiff, Nat.reduceLT, Nat.reduceLeDiff, Nat.reduceBEq, reduceIte, reduceCtorEq, Int.reduceAdd, Int.reduceLT, Int.reduceLE, Int.reduceGT, Int.reduceGE, Int.reduceEq, Int.reduceNe, Int.reduceBEq, Int.reduceBNe, Int.reduceToNat, Int.reduceNeg]
  have hpi : sProper l[i] = true := by simpa using hc
  obtain ⟨q1, q2, q3, _⟩ := x8.1 hpi
  try simp only [qw encOp l hil, encOp, go_sem, Nat.reduceAdd, Nat.reduceMul, Nat.reduceSub, Nat.reduceEqDiff, Nat.reduceLT, Nat.reduceLeDiff, Nat.reduceBEq, reduceIte, reduceCtorEq, Int.reduceAdd, Int.reduceLT, Int.reduceLE, Int.reduceGT, Int.reduceGE, Int.reduceEq, Int.reduceNe, Int.reduceBEq, Int.reduceBNe, Int.reduceToNat, Int.reduceNeg]
  (repeat (with_reducible refine ob ?_))
  have hw2 := qm9 hpi
  have hk := kz l[i].key (by omega)
  have hv := kz l[i].val (by omega)
  refine clA F77 (qle l[i].key (by omega)) ?_
  try simp only [qm, go_sem, Nat.reduceAdd, Nat.reduceMul, Nat.reduceSub, Nat.reduceEqDiff, Nat.reduceLT, Nat.reduceLeDiff, Nat.reduceBEq, reduceIte, reduceCtorEq, Int.reduceAdd, Int.reduceLT, Int.reduceLE, Int.reduceGT, Int.reduceGE, Int.reduceEq, Int.reduceNe, Int.reduceBEq, Int.reduceBNe, Int.reduceToNat, Int.reduceNeg]
  (repeat (with_reducible refine ob ?_))
  try simp only [qw encOp l hil, encOp, go_sem, Nat.reduceAdd, Nat.reduceMul, Nat.reduceSub, Nat.reduceEqDiff, Nat.reduceLT, Nat.reduceLeDiff, Nat.reduceBEq, reduceIte, reduceCtorEq, Int.reduceAdd, Int.reduceLT, Int.reduceLE, Int.reduceGT, Int.reduceGE, Int.reduceEq, Int.reduceNe, Int.reduceBEq, Int.reduceBNe, Int.reduceToNat, Int.reduceNeg]
  (repeat (with_reducible refine ob ?_))
  (repeat (with_reducible refine ob ?_)); first | refine cl F78 (qdq l[i].del) ?_ | refine clF F78 (qdq l[i].del) (fun _ => by simp only [encOp, encEn, encStep, go_sem, Nat.reduceAdd, Nat.reduceMul, Nat.reduceSub, Nat.reduceEqDiff, Nat.reduceLT, Nat.reduceLeDiff, Nat.reduceBEq, reduceIte, reduceCtorEq, Int.reduceAdd, Int.reduceLT, Int.reduceLE, Int.reduceGT, Int.reduceGE, Int.reduceEq, Int.reduceNe, Int.reduceBEq, Int.reduceBNe, Int.reduceToNat, Int.reduceNeg]) ?_
  try simp only [qm, go_sem, Nat.reduceAdd, Nat.reduceMul, Nat.reduceSub, Nat.reduceEqDiff, Nat.reduceLT, Nat.reduceLeDiff, Nat.reduceBEq, reduceIte, reduceCtorEq, Int.reduceAdd, Int.reduceLT, Int.reduceLE, Int.reduceGT, Int.reduceGE, Int.reduceEq, Int.reduceNe, Int.reduceBEq, Int.reduceBNe, Int.reduceToNat, Int.reduceNeg]
  (repeat (with_reducible refine ob ?_))
  try simp only [qw encOp l hil, encOp, go_sem, Nat.reduceAdd, Nat.reduceMul, Nat.reduceSub, Nat.reduceEqDiff, Nat.reduceLT, Nat.reduceLeDiff, Nat.reduceBEq, reduceIte, reduceCtorEq, Int.reduceAdd, Int.reduceLT, Int.reduceLE, Int.reduceGT, Int.reduceGE, Int.reduceEq, Int.reduceNe, Int.reduceBEq, Int.reduceBNe, Int.reduceToNat, Int.reduceNeg]
  (repeat (with_reducible refine ob ?_))
  refine clA F79 (qb3 l[i].val (by omega)) ?_
  try simp only [qm, go_sem, Nat.reduceAdd, Nat.reduceMul, Nat.reduceSub, Nat.reduceEqDiff, Nat.reduceLT, Nat.reduceLeDiff, Nat.reduceBEq, reduceIte, reduceCtorEq, Int.reduceAdd, Int.reduceLT, Int.reduceLE, Int.reduceGT, Int.reduceGE, Int.reduceEq, Int.reduceNe, Int.reduceBEq, Int.reduceBNe, Int.reduceToNat, Int.reduceNeg]
  (repeat (with_reducible refine ob ?_))
  have h1 : wInt l.length ++ (l.take (i + 1)).flatMap wOp = wInt l.length ++ List.flatMap wOp (List.take i l) ++ wText l[i].key ++ [if l[i].del = true then 1 else 0] ++ wText l[i].val := by
   rw [qgq wOp l hil]; simp [wOp]
  refine ⟨⟨i + 1, hil, fun o ho => ?_⟩, ?_, by dsimp only; omega⟩
  ·rw [List.take_succ_eq_append_getElem hil] at ho
   rcases List.mem_append.1 ho with ho | ho
   ·exact hp o ho
   ·simp at ho; subst ho; exact hpi
  try simp only [SrEnc, h1, ql (show i < 9223372036854775807 by omega), go_sem, Nat.reduceAdd, Nat.reduceMul, Nat.reduceSub, Nat.reduceEqDiff, Nat.reduceLT, Nat.reduceLeDiff, Nat.reduceBEq, reduceIte, reduceCtorEq, Int.reduceAdd, Int.reduceLT, Int.reduceLE, Int.reduceGT, Int.reduceGE, Int.reduceEq, Int.reduceNe, Int.reduceBEq, Int.reduceBNe, Int.reduceToNat, Int.reduceNeg]
 ·have hil : i = l.length := by simp at hc; omega
  subst hil
  rw [List.take_length] at hp
  have hwl := qas hp
  have hne : ¬ (decide (l.length = 0) || l.any (fun o => !sProper o)) = true := by
   simp only [Bool.or_eq_true, decide_eq_true_eq, not_or, List.any_eq_true, not_exists, not_and]
   exact ⟨by simp at h; simpa using h, fun o ho => by simp [hp o ho]⟩
  have hx : wInt l.length ++ l.flatMap wOp = wOps l := rfl
  try simp only [List.take_length, hx, go_sem, Nat.reduceAdd, Nat.reduceMul, Nat.reduceSub, Nat.reduceEqDiff, Nat.reduceLT, Nat.reduceLeDiff, Nat.reduceBEq, reduceIte, reduceCtorEq, Int.reduceAdd, Int.reduceLT, Int.reduceLE, Int.reduceGT, Int.reduceGE, Int.reduceEq, Int.reduceNe, Int.reduceBEq, Int.reduceBNe, Int.reduceToNat, Int.reduceNeg]
  refine ⟨fun h => by rw [h]; rfl, ?_⟩
  refine zb _ (fun hc => ?_) (fun hc => ?_)
  ·have hb : sEncode l = ([], 6) := by
    unfold sEncode
    rw [if_neg hne, if_pos]
    simp only [Bool.or_eq_true, decide_eq_true_eq] at hc ⊢
    omega
   try simp only [hb, qj, go_sem, Nat.reduceAdd, Nat.reduceMul, Nat.reduceSub, Nat.reduceEqDiff, Nat.reduceLT, Nat.reduceLeDiff, Nat.reduceBEq, reduceIte, reduceCtorEq, Int.reduceAdd, Int.reduceLT, Int.reduceLE, Int.reduceGT, Int.reduceGE, Int.reduceEq, Int.reduceNe, Int.reduceBEq, Int.reduceBNe, Int.reduceToNat, Int.reduceNeg]
  ·have hb : sEncode l = (wOps l, 0) := by
    unfold sEncode
    rw [if_neg hne, if_neg]
    simp only [Bool.or_eq_true, Bool.or_eq_false_iff, decide_eq_true_eq, decide_eq_false_iff_not] at hc ⊢
    omega
   try simp only [hb, go_sem, Nat.reduceAdd, Nat.reduceMul, Nat.reduceSub, Nat.reduceEqDiff, Nat.reduceLT, Nat.reduceLeDiff, Nat.reduceBEq, reduceIte, reduceCtorEq, Int.reduceAdd, Int.reduceLT, Int.reduceLE, Int.reduceGT, Int.reduceGE, Int.reduceEq, Int.reduceNe, Int.reduceBEq, Int.reduceBNe, Int.reduceToNat, Int.reduceNeg]
end Go.Proofs.Ytinnaedmdoengaa
namespace Go.Proofs.Ytinnaedmdoengaa
open Go.Abs
set_option linter.unusedSimpArgs false
set_option linter.unusedVariables false
theorem qyp {r : Rd} (h : r.Ok) : (rIntP r).2.Ok ∧ (rIntP r).2.b = r.b := w8 h (qat h)
theorem kc {r : Rd} (h : r.Ok) (lo hi : Int) : (rBoundedP lo hi r).2.Ok ∧ (rBoundedP lo hi r).2.b = r.b := w8 h (zc h lo hi)
theorem yz {r : Rd} (h : r.Ok) : (rBoolP r).2.Ok ∧ (rBoolP r).2.b = r.b := w8 h (qde h)
theorem ke {r : Rd} (h : r.Ok) (most : Int) : (rBytesP most r).2.Ok ∧ (rBytesP most r).2.b = r.b := w8 h (qbv h most)
theorem k9 (r : Rd) (lo hi : Int) : (rBoundedP lo hi r).1 = 0 ∨ (lo ≤ (rBoundedP lo hi r).1 ∧ (rBoundedP lo hi r).1 ≤ hi) := by
 unfold rBoundedP rPart
 split
 ·exact .inl rfl
 ·split
  ·exact .inl rfl
  ·rename_i h
   exact .inr (qbu (by simpa using h))
def rOp (r : Rd) : OpS × Rd :=
 (⟨(rBytesP 40 r).1, (rBoolP (rBytesP 40 r).2).1, (rBytesP 900 (rBoolP (rBytesP 40 r).2).2).1⟩, (rBytesP 900 (rBoolP (rBytesP 40 r).2).2).2)
def rOpsA : Nat → Rd → List OpS × Rd
 | 0, r => ([], r)
 | n + 1, r => ((rOpsA n r).1 ++ [(rOp (rOpsA n r).2).1], (rOp (rOpsA n r).2).2)
theorem qst {r : Rd} (h : r.Ok) : (rOp r).2.Ok ∧ (rOp r).2.b = r.b := by
 have h1 := ke h 40
 have h2 := yz h1.1
 have h3 := ke h2.1 900
 exact ⟨h3.1, h3.2.trans (h2.2.trans h1.2)⟩
theorem va {r : Rd} (h : r.Ok) : ∀ n, (rOpsA n r).2.Ok ∧ (rOpsA n r).2.b = r.b ∧ (rOpsA n r).1.length = n
 | 0 => ⟨h, rfl, rfl⟩
 | n + 1 => by
  have ih := va h n
  have := qst ih.1
  exact ⟨this.1, this.2.trans ih.2.1, by simp only [rOpsA, List.length_append, ih.2.2, List.length_singleton]⟩
def decRd (b : List UInt8) : List OpS × Rd := rOpsA (rBoundedP 1 20 ⟨b, 0, false⟩).1.toNat (rBoundedP 1 20 ⟨b, 0, false⟩).2
def sDecode (b : List UInt8) : List OpS × Int := if rEnd (decRd b).2 ≠ 0 then ([], 4) else if (sEncode (decRd b).1).2 ≠ 0 then ([], 4) else ((decRd b).1, 0)
noncomputable section
set_option maxRecDepth 100000
def s32r0 : List SOper := [
 ⟨some 2, .mov (.k (.d .nilsl)), none⟩,
 ⟨some 3, .mov (.k (.d (.int .i64 0))), none⟩]
def s32r1 : List SOper := [
 ⟨some 10, .mov (.t 0), none⟩,
 ⟨some 11, .call (.k (.d (.func (.func 61) [] []))) [(.t 10)], none⟩,
 ⟨some 4, .mov (.t 11), none⟩]
def s32r2 : List SOper := [
 ⟨some 12, .mov (.t 4), none⟩,
 ⟨some 13, .call (.k (.d (.func (.func 80) [] []))) [(.t 12), (.k (.d (.int .i64 1))), (.k (.d (.int .i64 20)))], none⟩,
 ⟨some 5, .mov (.t 13), none⟩]
def s32r3 : List SOper := [
 ⟨some 6, .mov (.k (.d .nilsl)), none⟩]
def s32r4 : List SOper := [
 ⟨some 14, .mov (.t 5), none⟩,
 ⟨some 15, .mov (.k (.d (.int .i64 0))), none⟩]
def s32r5 : List SOper := [
 ⟨some 16, .bin .lss (.t 15) (.t 14), none⟩]
def s32r6 : List SOper := [
 ⟨some 17, .mov (.t 4), none⟩,
 ⟨some 18, .call (.k (.d (.func (.func 81) [] []))) [(.t 17), (.k (.d (.int .i64 40)))], none⟩,
 ⟨some 19, .build [(.str []), (.bool false), .nilsl] [(0, 1, (.t 18))], none⟩,
 ⟨some 7, .alloc 1 [(.d (.str [])), (.d (.bool false)), (.d .nilsl)], none⟩,
 ⟨none, .store (some 3) (.t 7) (.t 19), none⟩]
def s32r7 : List SOper := [
 ⟨some 20, .mov (.t 4), none⟩,
 ⟨some 21, .call (.k (.d (.func (.func 82) [] []))) [(.t 20)], none⟩,
 ⟨some 22, .faddr 1 (.t 7), none⟩,
 ⟨none, .store none (.t 22) (.t 21), none⟩]
def s32r8 : List SOper := [
 ⟨some 23, .mov (.t 4), none⟩,
 ⟨some 24, .call (.k (.d (.func (.func 83) [] []))) [(.t 23), (.k (.d (.int .i64 900)))], none⟩,
 ⟨some 25, .faddr 2 (.t 7), none⟩,
 ⟨none, .store none (.t 25) (.t 24), none⟩]
def s32r9 : List SOper := [
 ⟨some 26, .mov (.t 6), none⟩,
 ⟨some 27, .load (some 3) (.t 7), none⟩,
 ⟨some 28, .buildSlice false 3 1 [(.str []), (.bool false), .nilsl] [(0, 3, (.t 27))], none⟩,
 ⟨some 29, .append false 3 48 (.t 26) (.t 28), none⟩,
 ⟨some 6, .mov (.t 29), none⟩]
def s32r10 : List SOper := [
 ⟨some 30, .bin .add (.t 15) (.k (.d (.int .i64 1))), none⟩,
 ⟨some 15, .mov (.t 30), none⟩]
def s32l11 : SCode := (.seq (.region s32r5 0 []) (.seq (.cond (.t 16) .skip (.exit 0)) (.seq (.block 1 (.seq (.region s32r6 1 []) (.seq (.region s32r7 0 []) (.seq (.region s32r8 0 []) (.region s32r9 0 []))))) (.region s32r10 0 []))))
theorem qyq : CodeIs s32l11.eq_1 := qc s32l11.eq_1
def s32r12 : List SOper := [
 ⟨some 31, .mov (.t 4), none⟩,
 ⟨some 32, .call (.k (.d (.func (.func 84) [] []))) [(.t 31)], none⟩,
 ⟨some 33, .bin .neq (.t 32) (.k (.d (.int .i64 0))), none⟩]
def s32r13 : List SOper := [
 ⟨some 2, .mov (.k (.d .nilsl)), none⟩,
 ⟨some 3, .mov (.k (.d (.int .i64 4))), none⟩]
def s32r14 : List SOper := [
 ⟨some 35, .mov (.t 6), none⟩,
 ⟨some 36, .call (.k (.d (.func (.func 30) [] []))) [(.t 35)], none⟩,
 ⟨some 34, .mov (.t 36), none⟩,
 ⟨some 37, .extract 0 (.t 34), none⟩,
 ⟨some 38, .extract 1 (.t 34), none⟩,
 ⟨some 8, .mov (.t 37), none⟩,
 ⟨some 9, .mov (.t 38), none⟩]
def s32r15 : List SOper := [
 ⟨some 39, .mov (.t 9), none⟩,
 ⟨some 40, .bin .neq (.t 39) (.k (.d (.int .i64 0))), none⟩]
def s32r16 : List SOper := [
 ⟨some 2, .mov (.k (.d .nilsl)), none⟩,
 ⟨some 3, .mov (.k (.d (.int .i64 4))), none⟩]
def s32r17 : List SOper := [
 ⟨some 41, .mov (.t 6), none⟩,
 ⟨some 2, .mov (.t 41), none⟩,
 ⟨some 3, .mov (.k (.d (.int .i64 0))), none⟩]
def s32 : SCode := (.seq (.region s32r0 0 []) (.seq (.region s32r1 1 []) (.seq (.region s32r2 0 []) (.seq (.region s32r3 0 []) (.seq (.seq (.region s32r4 0 []) (.block 0 (.loop s32l11))) (.seq (.seq (.region s32r12 0 []) (.cond (.t 33) (.seq (.region s32r13 0 []) .ret) .skip)) (.seq (.seq (.region s32r14 0 []) (.seq (.region s32r15 0 []) (.cond (.t 40) (.seq (.region s32r16 0 []) .ret) .skip))) (.seq (.region s32r17 0 []) .ret))))))))
theorem e32 : CodeIs s32.eq_1 := qc s32.eq_1
theorem q6h : RegIs s32r0.eq_1 := qa
theorem q6i : RegIs s32r1.eq_1 := qa
theorem q6j : RegIs s32r2.eq_1 := qa
theorem q6k : RegIs s32r3.eq_1 := qa
theorem q6l : RegIs s32r4.eq_1 := qa
theorem q6m : RegIs s32r5.eq_1 := qa
theorem q6n : RegIs s32r6.eq_1 := qa
theorem q6o : RegIs s32r7.eq_1 := qa
theorem q6p : RegIs s32r8.eq_1 := qa
theorem q6q : RegIs s32r9.eq_1 := qa
theorem qyr : RegIs s32r10.eq_1 := qa
theorem qys : RegIs s32r12.eq_1 := qa
theorem qyt : RegIs s32r13.eq_1 := qa
theorem qyu : RegIs s32r14.eq_1 := qa
theorem qyv : RegIs s32r15.eq_1 := qa
theorem qyw : RegIs s32r16.eq_1 := qa
theorem qyx : RegIs s32r17.eq_1 := qa
attribute [go_sem] q6h q6i q6j q6k q6l q6m q6n q6o q6p q6q qyr qyq qys qyt qyu qyv qyw qyx e32
theorem F32 : FnIs Try.prog 32 Try.f32 [] news s32 [.tmp 2, .tmp 3] 42 := xa follows Try.func32
end
def Sdec (n : Nat) (r : Rd) (i : { i : Nat // i ≤ n }) : St :=
 ⟨[(4, true, .d (.ptr 0 0)), (6, true, .own 0 3 ((rOpsA i.val r).1.map encOp)), (14, true, .d (.int .i64 (n : Nat))), (15, true, .d (.int .i64 (i.val : Nat)))], [rdO (rOpsA i.val r).2], [0], 1⟩
set_option maxRecDepth 10000 in
theorem vh (b : List UInt8) (hb : b.length ≤ 1000000000) : ACall Try.prog 32 [.d (.sl 1 (byteRows b))] [] (.tup [.d (.sl 3 ((sDecode b).1.map encOp)), .d (.int .i64 (sDecode b).2)]) [] := by
 have hnew := qqe b hb
 have hr0 : (⟨b, 0, false⟩ : Rd).Ok := ⟨hb, Nat.zero_le _⟩
 have hbd := qgw ⟨b, 0, false⟩ 1 20 hr0
 have hin := k9 ⟨b, 0, false⟩ 1 20
 have hinv := (kc hr0 1 20).1
 unfold sDecode decRd
 generalize rBoundedP 1 20 ⟨b, 0, false⟩ = x at hbd hin hinv ⊢
 obtain ⟨n, r⟩ := x
 simp only at hin hinv
 have hn0 : n = ((n.toNat : Nat) : Int) := by omega
 generalize n.toNat = m at hn0
 subst hn0
 simp only [rdO] at hnew hbd
 refine F32.goT ?_
 try (refine ev ?_; try exact True.intro)
 (repeat (with_reducible refine ob ?_)); refine clO [0] F61 (hnew) ?_ (hfit := by first | exact ⟨qb, trivial⟩ | exact ⟨qb, qb, trivial⟩ | simp only [encOp, encEn, encStep, go_sem, Nat.reduceAdd, Nat.reduceMul, Nat.reduceSub, Nat.reduceEqDiff, Nat.reduceLT, Nat.reduceLeDiff, Nat.reduceBEq, reduceIte, reduceCtorEq, Int.reduceAdd, Int.reduceLT, Int.reduceLE, Int.reduceGT, Int.reduceGE, Int.reduceEq, Int.reduceNe, Int.reduceBEq, Int.reduceBNe, Int.reduceToNat, Int.reduceNeg])
 try (refine ev ?_; try exact True.intro)
 (repeat (with_reducible refine ob ?_)); refine clO [0] F80 (hbd) ?_ (hfit := by first | exact ⟨qb, trivial⟩ | exact ⟨qb, qb, trivial⟩ | simp only [encOp, encEn, encStep, go_sem, Nat.reduceAdd, Nat.reduceMul, Nat.reduceSub, Nat.reduceEqDiff, Nat.reduceLT, Nat.reduceLeDiff, Nat.reduceBEq, reduceIte, reduceCtorEq, Int.reduceAdd, Int.reduceLT, Int.reduceLE, Int.reduceGT, Int.reduceGE, Int.reduceEq, Int.reduceNe, Int.reduceBEq, Int.reduceBNe, Int.reduceToNat, Int.reduceNeg])
 try (refine ev ?_; try exact True.intro)
 refine qn (Sdec m r) (fun i => m - i.val) ⟨0, Nat.zero_le _⟩ ?_ (fun i => ?_)
 ·try simp only [Sdec, rdO, rOpsA, List.map_nil, Int.ofNat_zero, go_sem, Nat.reduceAdd, Nat.reduceMul, Nat.reduceSub, Nat.reduceEqDiff, Nat.reduceLT, Nat.reduceLeDiff, Nat.reduceBEq, reduceIte, reduceCtorEq, Int.reduceAdd, Int.reduceLT, Int.reduceLE, Int.reduceGT, Int.reduceGE, Int.reduceEq, Int.reduceNe, Int.reduceBEq, Int.reduceBNe, Int.reduceToNat, Int.reduceNeg]
 obtain ⟨i, hi⟩ := i
 have hri := va hinv i
 try simp only [Sdec, rdO, go_sem, Nat.reduceAdd, Nat.reduceMul, Nat.reduceSub, Nat.reduceEqDiff, Nat.reduceLT, Nat.reduceLeDiff, Nat.reduceBEq, reduceIte, reduceCtorEq, Int.reduceAdd, Int.reduceLT, Int.reduceLE, Int.reduceGT, Int.reduceGE, Int.reduceEq, Int.reduceNe, Int.reduceBEq, Int.reduceBNe, Int.reduceToNat, Int.reduceNeg]
 (repeat (with_reducible refine ob ?_)); refine zb _ (fun h => ?_) (fun h => ?_)
 ·have hil : i < m := by simp at h; omega
  have hT := qnn (rOpsA i r).2 40 hri.1 (by decide)
  have hiT := ke hri.1 40
  have hB := qnm _ hiT.1
  have hiB := yz hiT.1
  have hV := qdf _ 900 hiB.1 (by decide)
  simp only [rdO] at hT hB hV
  try (refine ev ?_; try exact True.intro)
  (repeat (with_reducible refine ob ?_)); refine clO [0] F81 (hT) ?_ (hfit := by first | exact ⟨qb, trivial⟩ | exact ⟨qb, qb, trivial⟩ | simp only [encOp, encEn, encStep, go_sem, Nat.reduceAdd, Nat.reduceMul, Nat.reduceSub, Nat.reduceEqDiff, Nat.reduceLT, Nat.reduceLeDiff, Nat.reduceBEq, reduceIte, reduceCtorEq, Int.reduceAdd, Int.reduceLT, Int.reduceLE, Int.reduceGT, Int.reduceGE, Int.reduceEq, Int.reduceNe, Int.reduceBEq, Int.reduceBNe, Int.reduceToNat, Int.reduceNeg])
  try (refine ev ?_; try exact True.intro)
  (repeat (with_reducible refine ob ?_)); refine clO [0] F82 (hB) ?_ (hfit := by first | exact ⟨qb, trivial⟩ | exact ⟨qb, qb, trivial⟩ | simp only [encOp, encEn, encStep, go_sem, Nat.reduceAdd, Nat.reduceMul, Nat.reduceSub, Nat.reduceEqDiff, Nat.reduceLT, Nat.reduceLeDiff, Nat.reduceBEq, reduceIte, reduceCtorEq, Int.reduceAdd, Int.reduceLT, Int.reduceLE, Int.reduceGT, Int.reduceGE, Int.reduceEq, Int.reduceNe, Int.reduceBEq, Int.reduceBNe, Int.reduceToNat, Int.reduceNeg])
  try (refine ev ?_; try exact True.intro)
  (repeat (with_reducible refine ob ?_)); refine clO [0] F83 (hV) ?_ (hfit := by first | exact ⟨qb, trivial⟩ | exact ⟨qb, qb, trivial⟩ | simp only [encOp, encEn, encStep, go_sem, Nat.reduceAdd, Nat.reduceMul, Nat.reduceSub, Nat.reduceEqDiff, Nat.reduceLT, Nat.reduceLeDiff, Nat.reduceBEq, reduceIte, reduceCtorEq, Int.reduceAdd, Int.reduceLT, Int.reduceLE, Int.reduceGT, Int.reduceGE, Int.reduceEq, Int.reduceNe, Int.reduceBEq, Int.reduceBNe, Int.reduceToNat, Int.reduceNeg])
  try (refine ev ?_; try exact True.intro)
  (repeat (with_reducible refine ob ?_))
  refine ⟨⟨i + 1, hil⟩, ?_, by dsimp only; omega⟩
  try simp only [Sdec, rdO, rOpsA, rOp, List.map_append, List.map_cons, List.map_nil, encOp, ql (show i < 9223372036854775807 by omega), go_sem, Nat.reduceAdd, Nat.reduceMul, Nat.reduceSub, Nat.reduceEqDiff, Nat.reduceLT, Nat.reduceLeDiff, Nat.reduceBEq, reduceIte, reduceCtorEq, Int.reduceAdd, Int.reduceLT, Int.reduceLE, Int.reduceGT, Int.reduceGE, Int.reduceEq, Int.reduceNe, Int.reduceBEq, Int.reduceBNe, Int.reduceToNat, Int.reduceNeg]
 ·have hil : i = m := by simp at h; omega
  subst hil
  have hE := qse (rOpsA i r).2 hri.1
  simp only [rdO] at hE
  try (refine ev ?_; try exact True.intro)
  (repeat (with_reducible refine ob ?_)); refine clO [0] F84 (hE) ?_ (hfit := by first | exact ⟨qb, trivial⟩ | exact ⟨qb, qb, trivial⟩ | simp only [encOp, encEn, encStep, go_sem, Nat.reduceAdd, Nat.reduceMul, Nat.reduceSub, Nat.reduceEqDiff, Nat.reduceLT, Nat.reduceLeDiff, Nat.reduceBEq, reduceIte, reduceCtorEq, Int.reduceAdd, Int.reduceLT, Int.reduceLE, Int.reduceGT, Int.reduceGE, Int.reduceEq, Int.reduceNe, Int.reduceBEq, Int.reduceBNe, Int.reduceToNat, Int.reduceNeg])
  try (refine ev ?_; try exact True.intro)
  refine zb _ (fun h => ?_) (fun h => ?_)
  ·rw [if_pos (show rEnd (rOpsA i r).2 ≠ 0 by simpa using h)]
   try (refine ev ?_; try exact True.intro)
  ·rw [if_neg (show ¬ rEnd (rOpsA i r).2 ≠ 0 by simpa using h)]
   try (refine ev ?_; try exact True.intro)
   (repeat (with_reducible refine ob ?_)); first | refine cl F30 (xx (rOpsA i r).1 (by omega)) ?_ | refine clF F30 (xx (rOpsA i r).1 (by omega)) (fun _ => by simp only [encOp, encEn, encStep, go_sem, Nat.reduceAdd, Nat.reduceMul, Nat.reduceSub, Nat.reduceEqDiff, Nat.reduceLT, Nat.reduceLeDiff, Nat.reduceBEq, reduceIte, reduceCtorEq, Int.reduceAdd, Int.reduceLT, Int.reduceLE, Int.reduceGT, Int.reduceGE, Int.reduceEq, Int.reduceNe, Int.reduceBEq, Int.reduceBNe, Int.reduceToNat, Int.reduceNeg]) ?_
   try (refine ev ?_; try exact True.intro)
   refine zb _ (fun h => ?_) (fun h => ?_)
   ·rw [if_pos (show (sEncode (rOpsA i r).1).2 ≠ 0 by simpa using h)]
    try (refine ev ?_; try exact True.intro)
   ·rw [if_neg (show ¬ (sEncode (rOpsA i r).1).2 ≠ 0 by simpa using h)]
    try (refine ev ?_; try exact True.intro)
end Go.Proofs.Ytinnaedmdoengaa
namespace Go.Proofs.Ytinnaedmdoengaa
open Go.Abs
set_option linter.unusedSimpArgs false
set_option linter.unusedVariables false
def dG : Nat → Nat → Nat → List UInt8 → Option (Int × List UInt8)
 | 0, _, _, _ => none
 | _ + 1, _, _, [] => none
 | k + 1, j, u, c :: l =>
  if c.toNat < 128 then (if ((c.toNat == 0 && decide (0 < j)) || (decide (j = 9) && decide (c.toNat > 1))) = true then none else some (unz (u + c.toNat * 128 ^ j), l))
  else dG k (j + 1) (u + c.toNat % 128 * 128 ^ j) l
def dInt (l : List UInt8) : Option (Int × List UInt8) := dG 10 0 0 l
def Got {α : Type} (o : Option (α × List UInt8)) (b : List UInt8) (x : α × Rd) : Prop := match o with
 | some (v, l) => x = (v, ⟨b, b.length - l.length, false⟩)
 | none => x.2.failed = true
def Reads {α : Type} (z : α) (f : Rd → α × Rd) (d : List UInt8 → Option (α × List UInt8)) : Prop :=
 ∀ r : Rd, r.Ok → f r = if r.failed = true then (z, r) else match d (r.b.drop r.pos) with
  | some (v, l) => (v, ⟨r.b, r.b.length - l.length, false⟩)
  | none => (z, ⟨r.b, r.pos, true⟩)
def Tails {α : Type} (d : List UInt8 → Option (α × List UInt8)) : Prop := ∀ l0 v l, d l0 = some (v, l) → ∃ p, l0 = p ++ l
theorem jp {b : List UInt8} {p : Nat} {q l : List UInt8} (hp : p ≤ b.length) (h : b.drop p = q ++ l) : b.drop (b.length - l.length) = l ∧ l.length ≤ b.length := by
 have h1 := congrArg List.length h
 simp only [List.length_drop, List.length_append] at h1
 have h2 : b.drop (p + q.length) = l := by rw [← List.drop_drop, h, List.drop_left]
 have e : b.length - l.length = p + q.length := by omega
 rw [e]; exact ⟨h2, by omega⟩
theorem qn2 : ∀ (k j u : Nat) {l0 : List UInt8} {v : Int} {l : List UInt8}, dG k j u l0 = some (v, l) → ∃ p, l0 = p ++ l
 | 0, _, _, _, _, _, h => by simp [dG] at h
 | k + 1, j, u, [], _, _, h => by simp [dG] at h
 | k + 1, j, u, c :: l0, v, l, h => by
  rw [dG] at h
  split at h
  ·split at h
   ·cases h
   ·cases h; exact ⟨[c], rfl⟩
  ·obtain ⟨p, rfl⟩ := qn2 k (j + 1) _ h
   exact ⟨c :: p, rfl⟩
theorem qn3 : Tails dInt := fun _ _ _ h => qn2 10 0 0 h
theorem qdr {r : Rd} (hr : r.Ok) (hf : r.failed = false) {c : UInt8} {l : List UInt8} (h : r.b.drop r.pos = c :: l) : rNext 1 r = ([c], ⟨r.b, r.pos + 1, false⟩) ∧ r.b.drop (r.pos + 1) = l := by
 have hl := congrArg List.length h
 simp only [List.length_drop, List.length_cons] at hl
 have h2 : r.b.drop (r.pos + 1) = l := by rw [← List.drop_drop, h]; rfl
 refine ⟨?_, h2⟩
 unfold rNext
 rw [if_neg (by simp [hf]; omega), h, hf]; rfl
theorem qg8 {r : Rd} (hf : r.failed = false) (h : r.b.drop r.pos = []) : rNext 1 r = ([], ⟨r.b, r.pos, true⟩) := by
 have hl := congrArg List.length h
 simp only [List.length_drop, List.length_nil] at hl
 unfold rNext
 rw [if_pos (by simp [hf]; omega)]
theorem vb {j : Nat} (h : j ≤ 8) : 128 ^ (j + 1) ≤ 9223372036854775808 := by
 have h1 : 128 ^ (j + 1) ≤ 128 ^ 9 := Nat.pow_le_pow_right (by decide) (by omega)
 have h2 : (128 : Nat) ^ 9 = 9223372036854775808 := by decide
 omega
theorem qn4 : ∀ (k j u : Nat) {r : Rd}, j + k = 10 → u < 128 ^ j → r.Ok → r.failed = false →
  Got (dG k j u (r.b.drop r.pos)) r.b (rIntG k j u r)
 | 0, j, u, r, _, _, _, _ => by simp only [Got, dG, rIntG]
 | k + 1, j, u, r, hj, hu, hr, hf => by
  cases hd : r.b.drop r.pos with
  | nil =>
   simp only [dG]
   rw [rIntG, qg8 hf hd, if_pos rfl]
   exact (rfl : true = true)
  | cons c l =>
   obtain ⟨h1, h2⟩ := qdr hr hf hd
   have hlt := k7 c
   have hlen := congrArg List.length hd
   simp only [List.length_drop, List.length_cons] at hlen
   rw [rIntG, h1, dG]
   simp only [Bool.false_eq_true, if_false, List.headD_cons]
   by_cases hc : c.toNat < 128
   ·simp only [hc, if_true]
    by_cases hb : ((c.toNat == 0 && decide (0 < j)) || (decide (j = 9) && decide (c.toNat > 1))) = true
    ·rw [if_pos hb]
     exact hb
    ·rw [if_neg hb]
     simp only [Bool.not_eq_true] at hb
     have hm : c.toNat % 128 = c.toNat := Nat.mod_eq_of_lt hc
     have hs : u + c.toNat * 128 ^ j < 18446744073709551616 := by
      rcases Nat.lt_or_ge j 9 with h9 | h9
      ·have hp := vb (j := j) (by omega)
       rw [Nat.pow_succ] at hp
       have : c.toNat * 128 ^ j ≤ 127 * 128 ^ j := Nat.mul_le_mul_right _ (by omega)
       omega
      ·have : j = 9 := by omega
       subst this
       simp at hb
       have e : (128 : Nat) ^ 9 = 9223372036854775808 := by decide
       rw [e] at hu ⊢
       omega
     rw [hm, Nat.mod_eq_of_lt hs]
     simp only [Got, Prod.mk.injEq, Rd.mk.injEq]
     exact ⟨trivial, trivial, by omega, hb⟩
   ·simp only [hc, if_false]
    cases k with
    | zero => simp only [Got, dG, rIntG]
    | succ k =>
     have hp := vb (j := j) (by omega)
     have hu2 : u + c.toNat % 128 * 128 ^ j < 128 ^ (j + 1) := by
      have h3 : c.toNat % 128 * 128 ^ j ≤ 127 * 128 ^ j := Nat.mul_le_mul_right _ (by omega)
      rw [Nat.pow_succ]
      omega
     rw [Nat.mod_eq_of_lt (show u + c.toNat % 128 * 128 ^ j < 18446744073709551616 by omega)]
     have ih := qn4 (k + 1) (j + 1) (u + c.toNat % 128 * 128 ^ j) (r := ⟨r.b, r.pos + 1, false⟩) (by omega) hu2 ⟨hr.len, by have := hr.pos; simp only; omega⟩ rfl
     rw [show (⟨r.b, r.pos + 1, false⟩ : Rd).b.drop (⟨r.b, r.pos + 1, false⟩ : Rd).pos = l from h2] at ih
     exact ih
theorem qrc {r : Rd} (hr : r.Ok) (hf : r.failed = false) : Got (dInt (r.b.drop r.pos)) r.b (rInt r) := qn4 10 0 0 rfl (by decide) hr hf
theorem vi {α : Type} {z : α} {f : Rd → α × Rd} {d : List UInt8 → Option (α × List UInt8)} (hi : ∀ r : Rd, r.Ok → (f r).2.b = r.b)
  (h : ∀ r : Rd, r.Ok → r.failed = false → Got (d (r.b.drop r.pos)) r.b (f r)) : Reads z (rPart z f) d := by
 intro r hr
 unfold rPart
 by_cases hf : r.failed = true
 ·rw [if_pos hf, if_pos hf]
 ·rw [if_neg hf, if_neg hf]
  have := h r hr (by simpa using hf)
  cases hd : d (r.b.drop r.pos) with
  | none =>
   rw [hd] at this
   simp only [Got] at this
   rw [if_pos this, hi r hr, this]
  | some x =>
   obtain ⟨v, l⟩ := x
   rw [hd] at this
   simp only [Got] at this
   rw [this, if_neg (by simp)]
theorem qn5 : Reads 0 rIntP dInt := vi (fun r hr => (qat hr).2) (fun r hr hf => qrc hr hf)
def dBounded (lo hi : Int) (l0 : List UInt8) : Option (Int × List UInt8) := match dInt l0 with
 | some (n, l) => if n < lo ∨ n > hi then none else some (n, l)
 | none => none
theorem zk (lo hi : Int) : Tails (dBounded lo hi) := by
 intro l0 v l h
 unfold dBounded at h
 split at h
 ·rename_i hd
  split at h
  ·cases h
  ·cases h; exact qn3 _ _ _ hd
 ·cases h
theorem qds (lo hi : Int) {r : Rd} (hr : r.Ok) (hf : r.failed = false) : Got (dBounded lo hi (r.b.drop r.pos)) r.b (rBounded lo hi r) := by
 have h := qrc hr hf
 unfold dBounded
 cases hd : dInt (r.b.drop r.pos) with
 | none =>
  rw [hd] at h
  simp only [Got] at h ⊢
  simp only [rBounded, Rd.fail, h, Bool.true_or]
 | some x =>
  obtain ⟨n, l⟩ := x
  rw [hd] at h
  simp only [Got] at h ⊢
  by_cases hn : n < lo ∨ n > hi
  ·rw [if_pos hn]
   simp only [rBounded, Rd.fail, h, Bool.false_or]
   simpa using hn
  ·rw [if_neg hn]
   simp only [rBounded, Rd.fail, h, Bool.false_or]
   have : (decide (n < lo) || decide (n > hi)) = false := by simpa using hn
   rw [this]
theorem wg (lo hi : Int) : Reads 0 (rBoundedP lo hi) (dBounded lo hi) := vi (fun r hr => (zc hr lo hi).2) (fun r hr hf => qds lo hi hr hf)
def dBytes (most : Int) (l0 : List UInt8) : Option (List UInt8 × List UInt8) := match dBounded 0 most l0 with
 | some (n, l) => if l.length < n.toNat then none else some (l.take n.toNat, l.drop n.toNat)
 | none => none
theorem qi0 (most : Int) : Tails (dBytes most) := by
 intro l0 v l h
 unfold dBytes at h
 split at h
 ·rename_i n l1 hd
  split at h
  ·cases h
  ·cases h
   obtain ⟨p, rfl⟩ := zk _ _ _ _ _ hd
   exact ⟨p ++ l1.take n.toNat, by rw [List.append_assoc, List.take_append_drop]⟩
 ·cases h
theorem qn6 (most : Int) {r : Rd} (hr : r.Ok) (hf : r.failed = false) : Got (dBytes most (r.b.drop r.pos)) r.b (rBytes0 most r) := by
 have h := qds 0 most hr hf
 unfold dBytes
 cases hd : dBounded 0 most (r.b.drop r.pos) with
 | none =>
  rw [hd] at h
  simp only [Got] at h ⊢
  unfold rBytes0
  rw [if_pos h]; exact h
 | some x =>
  obtain ⟨n, l⟩ := x
  rw [hd] at h
  simp only [Got] at h ⊢
  obtain ⟨p, hp⟩ := zk _ _ _ _ _ hd
  obtain ⟨t1, t2⟩ := jp hr.pos hp
  have e : r.b.length - (r.b.length - l.length) = l.length := by omega
  by_cases hn : l.length < n.toNat
  ·rw [if_pos hn]
   simp only [rBytes0, h, Bool.false_eq_true, if_false, rNext, Bool.false_or]
   rw [e, if_pos (by simpa using hn)]
  ·rw [if_neg hn]
   simp only [rBytes0, h, Bool.false_eq_true, if_false, rNext, Bool.false_or]
   rw [e, if_neg (by simpa using hn), t1]
   have : r.b.length - l.length + n.toNat = r.b.length - (l.drop n.toNat).length := by rw [List.length_drop]; omega
   rw [this]
theorem xz (most : Int) : Reads [] (rBytesP most) (dBytes most) := vi (fun r hr => (qbv hr most).2) (fun r hr hf => qn6 most hr hf)
def dBool : List UInt8 → Option (Bool × List UInt8)
 | [] => none
 | c :: l => if c.toNat > 1 then none else some (c.toNat == 1, l)
theorem qlh : Tails dBool := by
 intro l0 v l h
 cases l0 with
 | nil => cases h
 | cons c l1 =>
  rw [dBool] at h
  split at h
  ·cases h
  ·cases h; exact ⟨[c], rfl⟩
theorem qqv {r : Rd} (hr : r.Ok) (hf : r.failed = false) : Got (dBool (r.b.drop r.pos)) r.b (rBool0 r) := by
 cases hd : r.b.drop r.pos with
 | nil => simp only [Got, dBool, rBool0, qg8 hf hd, Rd.fail, Bool.true_or]
 | cons c l =>
  obtain ⟨h1, h2⟩ := qdr hr hf hd
  have hlen := congrArg List.length hd
  simp only [List.length_drop, List.length_cons] at hlen
  simp only [Got, dBool]
  by_cases hc : c.toNat > 1
  ·rw [if_pos hc]
   simp only [rBool0, h1, Rd.fail, Bool.false_or, List.headD_cons, decide_eq_true hc]
  ·rw [if_neg hc]
   simp only [rBool0, h1, Rd.fail, Bool.false_or, List.headD_cons, decide_eq_false hc, Bool.not_false, Bool.true_and]
   have : r.b.length - l.length = r.pos + 1 := by omega
   rw [this]
theorem yg : Reads false rBoolP dBool := vi (fun r hr => (qde hr).2) (fun r hr hf => qqv hr hf)
end Go.Proofs.Ytinnaedmdoengaa
namespace Go.Proofs.Ytinnaedmdoengaa
open Go.Abs
set_option linter.unusedSimpArgs false
set_option linter.unusedVariables false
noncomputable section
set_option maxRecDepth 100000
def s119r0 : List SOper := [
 ⟨some 2, .mov (.k (.d (.int .i64 0))), none⟩]
def s119r1 : List SOper := [
 ⟨some 3, .mov (.k (.d (.int .u64 0))), none⟩,
 ⟨some 4, .mov (.k (.d (.int .u64 1))), none⟩]
def s119r2 : List SOper := [
 ⟨some 7, .mov (.t 0), none⟩,
 ⟨some 8, .nilCheck (.t 7), none⟩,
 ⟨some 9, .faddr 1 (.t 8), none⟩,
 ⟨some 10, .load none (.t 9), none⟩,
 ⟨some 5, .mov (.t 10), none⟩]
def s119r3 : List SOper := [
 ⟨some 11, .mov (.t 5), none⟩,
 ⟨some 12, .mov (.t 0), none⟩,
 ⟨some 13, .nilCheck (.t 12), none⟩,
 ⟨some 14, .faddr 0 (.t 13), none⟩,
 ⟨some 15, .load none (.t 14), none⟩,
 ⟨some 16, .len (.t 15), none⟩,
 ⟨some 17, .bin .lss (.t 11) (.t 16), none⟩,
 ⟨some 18, .mov (.t 17), none⟩,
 ⟨some 19, .mov (.t 5), some (18, true)⟩,
 ⟨some 20, .mov (.t 0), some (18, true)⟩,
 ⟨some 21, .nilCheck (.t 20), some (18, true)⟩,
 ⟨some 22, .faddr 1 (.t 21), some (18, true)⟩,
 ⟨some 23, .load none (.t 22), some (18, true)⟩,
 ⟨some 24, .bin .add (.t 23) (.k (.d (.int .i64 10))), some (18, true)⟩,
 ⟨some 25, .bin .lss (.t 19) (.t 24), some (18, true)⟩,
 ⟨some 26, .pick (.t 18) (.t 25) (.k (.d (.bool false))), none⟩,
 ⟨some 27, .mov (.t 26), none⟩,
 ⟨some 28, .mov (.t 0), some (27, true)⟩,
 ⟨some 29, .nilCheck (.t 28), some (27, true)⟩,
 ⟨some 30, .faddr 2 (.t 29), some (27, true)⟩,
 ⟨some 31, .load none (.t 30), some (27, true)⟩,
 ⟨some 32, .not (.t 31), some (27, true)⟩,
 ⟨some 33, .pick (.t 27) (.t 32) (.k (.d (.bool false))), none⟩]
def s119r4 : List SOper := [
 ⟨some 36, .mov (.t 0), none⟩,
 ⟨some 37, .nilCheck (.t 36), none⟩,
 ⟨some 38, .faddr 0 (.t 37), none⟩,
 ⟨some 39, .load none (.t 38), none⟩,
 ⟨some 40, .mov (.t 5), none⟩,
 ⟨some 41, .iaddr 1 (.t 39) (.t 40), none⟩,
 ⟨some 42, .load none (.t 41), none⟩,
 ⟨some 43, .bin .rem (.t 42) (.k (.d (.int .u8 128))), none⟩,
 ⟨some 44, .conv .u64 (.t 43), none⟩,
 ⟨some 6, .mov (.t 44), none⟩]
def s119r5 : List SOper := [
 ⟨some 45, .mov (.t 5), none⟩,
 ⟨some 46, .mov (.t 0), none⟩,
 ⟨some 47, .nilCheck (.t 46), none⟩,
 ⟨some 48, .faddr 1 (.t 47), none⟩,
 ⟨some 49, .load none (.t 48), none⟩,
 ⟨some 50, .bin .add (.t 49) (.k (.d (.int .i64 9))), none⟩,
 ⟨some 51, .bin .eql (.t 45) (.t 50), none⟩,
 ⟨some 52, .mov (.t 51), none⟩,
 ⟨some 53, .mov (.t 6), some (52, true)⟩,
 ⟨some 54, .bin .gtr (.t 53) (.k (.d (.int .u64 1))), some (52, true)⟩,
 ⟨some 55, .pick (.t 52) (.t 54) (.k (.d (.bool false))), none⟩]
def s119r6 : List SOper := [
 ⟨some 56, .mov (.t 3), none⟩,
 ⟨some 57, .mov (.t 6), none⟩,
 ⟨some 58, .mov (.t 4), none⟩,
 ⟨some 59, .bin .mul (.t 57) (.t 58), none⟩,
 ⟨some 60, .bin .add (.t 56) (.t 59), none⟩,
 ⟨some 3, .mov (.t 60), none⟩]
def s119r7 : List SOper := [
 ⟨some 61, .mov (.t 4), none⟩,
 ⟨some 62, .bin .mul (.t 61) (.k (.d (.int .u64 128))), none⟩,
 ⟨some 4, .mov (.t 62), none⟩]
def s119r8 : List SOper := [
 ⟨some 63, .mov (.t 0), none⟩,
 ⟨some 64, .nilCheck (.t 63), none⟩,
 ⟨some 65, .faddr 0 (.t 64), none⟩,
 ⟨some 66, .load none (.t 65), none⟩,
 ⟨some 67, .mov (.t 5), none⟩,
 ⟨some 68, .iaddr 1 (.t 66) (.t 67), none⟩,
 ⟨some 69, .load none (.t 68), none⟩,
 ⟨some 70, .bin .geq (.t 69) (.k (.d (.int .u8 128))), none⟩]
def s119r9 : List SOper := [
 ⟨some 71, .mov (.t 6), none⟩,
 ⟨some 72, .bin .eql (.t 71) (.k (.d (.int .u64 0))), none⟩,
 ⟨some 73, .mov (.t 72), none⟩,
 ⟨some 74, .mov (.t 5), some (73, true)⟩,
 ⟨some 75, .mov (.t 0), some (73, true)⟩,
 ⟨some 76, .nilCheck (.t 75), some (73, true)⟩,
 ⟨some 77, .faddr 1 (.t 76), some (73, true)⟩,
 ⟨some 78, .load none (.t 77), some (73, true)⟩,
 ⟨some 79, .bin .gtr (.t 74) (.t 78), some (73, true)⟩,
 ⟨some 80, .pick (.t 73) (.t 79) (.k (.d (.bool false))), none⟩]
def s119r10 : List SOper := [
 ⟨some 81, .mov (.t 0), none⟩,
 ⟨some 82, .mov (.t 5), none⟩,
 ⟨some 83, .bin .add (.t 82) (.k (.d (.int .i64 1))), none⟩,
 ⟨some 84, .nilCheck (.t 81), none⟩,
 ⟨some 85, .faddr 1 (.t 84), none⟩,
 ⟨none, .store none (.t 85) (.t 83), none⟩]
def s119r11 : List SOper := [
 ⟨some 86, .mov (.t 3), none⟩,
 ⟨some 87, .bin .rem (.t 86) (.k (.d (.int .u64 2))), none⟩,
 ⟨some 88, .bin .eql (.t 87) (.k (.d (.int .u64 1))), none⟩]
def s119r12 : List SOper := [
 ⟨some 89, .mov (.t 3), none⟩,
 ⟨some 90, .bin .quo (.t 89) (.k (.d (.int .u64 2))), none⟩,
 ⟨some 91, .conv .i64 (.t 90), none⟩,
 ⟨some 92, .neg (.t 91), none⟩,
 ⟨some 93, .bin .sub (.t 92) (.k (.d (.int .i64 1))), none⟩,
 ⟨some 2, .mov (.t 93), none⟩]
def s119r13 : List SOper := [
 ⟨some 94, .mov (.t 3), none⟩,
 ⟨some 95, .bin .quo (.t 94) (.k (.d (.int .u64 2))), none⟩,
 ⟨some 96, .conv .i64 (.t 95), none⟩,
 ⟨some 2, .mov (.t 96), none⟩]
def s119r14 : List SOper := [
 ⟨some 34, .mov (.t 5), none⟩,
 ⟨some 35, .bin .add (.t 34) (.k (.d (.int .i64 1))), none⟩,
 ⟨some 5, .mov (.t 35), none⟩]
def s119l15 : SCode := (.seq (.seq (.region s119r3 0 []) (.cond (.t 33) .skip (.exit 0))) (.seq (.block 1 (.seq (.region s119r4 0 []) (.seq (.seq (.region s119r5 0 []) (.cond (.t 55) (.exit 0) .skip)) (.seq (.region s119r6 0 []) (.seq (.region s119r7 0 []) (.seq (.seq (.region s119r8 0 []) (.cond (.t 70) (.exit 1) .skip)) (.seq (.seq (.region s119r9 0 []) (.cond (.t 80) (.exit 0) .skip)) (.seq (.region s119r10 0 []) (.seq (.seq (.region s119r11 0 []) (.cond (.t 88) (.seq (.region s119r12 0 []) .ret) .skip)) (.seq (.region s119r13 0 []) .ret)))))))))) (.region s119r14 0 [])))
theorem qsu : CodeIs s119l15.eq_1 := qc s119l15.eq_1
def s119r16 : List SOper := [
 ⟨some 97, .mov (.t 0), none⟩,
 ⟨some 98, .nilCheck (.t 97), none⟩,
 ⟨some 99, .faddr 2 (.t 98), none⟩,
 ⟨none, .store none (.t 99) (.k (.d (.bool true))), none⟩]
def s119r17 : List SOper := [
 ⟨some 2, .mov (.k (.d (.int .i64 0))), none⟩]
def s119 : SCode := (.seq (.region s119r0 0 []) (.seq (.region s119r1 0 []) (.seq (.seq (.region s119r2 0 []) (.block 0 (.loop s119l15))) (.seq (.region s119r16 0 []) (.seq (.region s119r17 0 []) .ret)))))
theorem q9v : CodeIs s119.eq_1 := qc s119.eq_1
theorem qyy : RegIs s119r0.eq_1 := qa
theorem qyz : RegIs s119r1.eq_1 := qa
theorem qy0 : RegIs s119r2.eq_1 := qa
theorem qy1 : RegIs s119r3.eq_1 := qa
theorem qy2 : RegIs s119r4.eq_1 := qa
theorem qy3 : RegIs s119r5.eq_1 := qa
theorem qy4 : RegIs s119r6.eq_1 := qa
theorem qy5 : RegIs s119r7.eq_1 := qa
theorem qy6 : RegIs s119r8.eq_1 := qa
theorem qy7 : RegIs s119r9.eq_1 := qa
theorem qsv : RegIs s119r10.eq_1 := qa
theorem qsw : RegIs s119r11.eq_1 := qa
theorem qsx : RegIs s119r12.eq_1 := qa
theorem qsy : RegIs s119r13.eq_1 := qa
theorem qsz : RegIs s119r14.eq_1 := qa
theorem qs0 : RegIs s119r16.eq_1 := qa
theorem qs1 : RegIs s119r17.eq_1 := qa
attribute [go_sem] qyy qyz qy0 qy1 qy2 qy3 qy4 qy5 qy6 qy7 qsv qsw qsx qsy qsz qsu qs0 qs1 q9v
theorem qz3 : FnIs Try.prog 119 Try.f119 [] news s119 [.tmp 2] 100 := xa follows Try.func119
end
def SrrInt (b : List UInt8) (pos : Nat) (f : Bool) (i u : Nat) : St :=
 ⟨[(0, true, .d (.ptr 0 0)), (3, true, .d (.int .u64 (u : Nat))), (4, true, .d (.int .u64 (128 ^ (i - pos) % 18446744073709551616 : Nat))), (5, true, .d (.int .i64 (i : Nat)))], [rdO ⟨b, pos, f⟩], [], 1⟩
theorem qqw {u d j : Nat} (hu : u < 128 ^ j) (hd : d < 128) (hj : j ≤ 9) (h9 : j = 9 → d ≤ 1) :
  IntKind.u64.wrap ((u : Int) + IntKind.u64.wrap ((d : Int) * ((128 ^ j % 18446744073709551616 : Nat) : Int))) = ((u + d * 128 ^ j : Nat) : Int) ∧ u + d * 128 ^ j < 18446744073709551616 ∧ u + d * 128 ^ j < 128 ^ (j + 1) := by
 have hp : 128 ^ j ≤ 128 ^ 9 := Nat.pow_le_pow_right (by decide) hj
 have hp9 : (128 : Nat) ^ 9 = 9223372036854775808 := by decide
 rw [Nat.mod_eq_of_lt (by omega)]
 have hs : d * 128 ^ j ≤ 9223372036854775808 := by
  rcases Nat.lt_or_ge j 9 with h | h
  ·have := vb (j := j) (by omega)
   rw [Nat.pow_succ] at this
   have : d * 128 ^ j ≤ 127 * 128 ^ j := Nat.mul_le_mul_right _ (by omega)
   omega
  ·have : j = 9 := by omega
   subst this
   have := h9 rfl
   rw [hp9]; omega
 have h3 : d * 128 ^ j ≤ 127 * 128 ^ j := Nat.mul_le_mul_right _ (by omega)
 refine ⟨?_, by omega, by rw [Nat.pow_succ]; omega⟩
 rw [show ((d : Int) * ((128 ^ j : Nat) : Int)) = ((d * 128 ^ j : Nat) : Int) by rw [Int.natCast_mul], f2 _ (by omega), show ((u : Int) + ((d * 128 ^ j : Nat) : Int)) = ((u + d * 128 ^ j : Nat) : Int) by omega, f2 _ (by omega)]
theorem qli (j : Nat) : IntKind.u64.wrap (((128 ^ j % 18446744073709551616 : Nat) : Int) * 128) = ((128 ^ (j + 1) % 18446744073709551616 : Nat) : Int) := by
 rw [wc, Nat.pow_succ]
 generalize 128 ^ j = x
 omega
set_option maxRecDepth 10000 in
theorem qqx (r : Rd) (hr : r.Ok) : ACall Try.prog 119 [.d (.ptr 0 0)] [rdO r] (.d (.int .i64 (rIntP r).1)) [rdO (rIntP r).2] := by
 have hrd := qn5 r hr
 obtain ⟨hln, hpos⟩ := hr
 obtain ⟨b, pos, f⟩ := r
 simp only at hln hpos hrd
 refine qz3.go ?_
 cases f
 ·simp only [Bool.false_eq_true, if_false] at hrd
  have w9 : IntKind.i64.wrap ((pos : Int) + 9) = ((pos + 9 : Nat) : Int) := by rw [xd (by unfold I64; omega)]; omega
  have w10 : IntKind.i64.wrap ((pos : Int) + 10) = ((pos + 10 : Nat) : Int) := by rw [xd (by unfold I64; omega)]; omega
  try simp only [rdO, go_sem, Nat.reduceAdd, Nat.reduceMul, Nat.reduceSub, Nat.reduceEqDiff, Nat.reduceLT, Nat.reduceLeDiff, Nat.reduceBEq, reduceIte, reduceCtorEq, Int.reduceAdd, Int.reduceLT, Int.reduceLE, Int.reduceGT, Int.reduceGE, Int.reduceEq, Int.reduceNe, Int.reduceBEq, Int.reduceBNe, Int.reduceToNat, Int.reduceNeg]
  refine qn (fun x : { x : Nat × Nat // pos ≤ x.1 ∧ x.1 ≤ pos + 10 ∧ x.1 ≤ b.length ∧ x.2 < 128 ^ (x.1 - pos) ∧ dG (10 - (x.1 - pos)) (x.1 - pos) x.2 (b.drop x.1) = dInt (b.drop pos) } => SrrInt b pos false x.val.1 x.val.2) (fun x => pos + 10 - x.val.1)
   ⟨(pos, 0), Nat.le_refl _, by simp, hpos, by simp, by simp only [Nat.sub_self]; rfl⟩ ?_ (fun x => ?_)
  ·have e1 : 128 ^ (pos - pos) % 18446744073709551616 = 1 := by rw [Nat.sub_self]
   try simp only [SrrInt, e1, rdO, Int.ofNat_zero, go_sem, Nat.reduceAdd, Nat.reduceMul, Nat.reduceSub, Nat.reduceEqDiff, Nat.reduceLT, Nat.reduceLeDiff, Nat.reduceBEq, reduceIte, reduceCtorEq, Int.reduceAdd, Int.reduceLT, Int.reduceLE, Int.reduceGT, Int.reduceGE, Int.reduceEq, Int.reduceNe, Int.reduceBEq, Int.reduceBNe, Int.reduceToNat, Int.reduceNeg]
  obtain ⟨⟨i, u⟩, h1, h2, h3, h4, h5⟩ := x
  simp only at h1 h2 h3 h4 h5
  have hnone : dInt (b.drop pos) = none → rIntP ⟨b, pos, false⟩ = (0, ⟨b, pos, true⟩) := fun h => by rw [hrd, h]
  try simp only [SrrInt, rdO, w10, go_sem, Nat.reduceAdd, Nat.reduceMul, Nat.reduceSub, Nat.reduceEqDiff, Nat.reduceLT, Nat.reduceLeDiff, Nat.reduceBEq, reduceIte, reduceCtorEq, Int.reduceAdd, Int.reduceLT, Int.reduceLE, Int.reduceGT, Int.reduceGE, Int.reduceEq, Int.reduceNe, Int.reduceBEq, Int.reduceBNe, Int.reduceToNat, Int.reduceNeg]
  refine zb _ (fun hc => ?_) (fun hc => ?_)
  ·simp only [Bool.and_eq_true, decide_eq_true_eq] at hc
   have hil : i < b.length := by omega
   have hi10 : i < pos + 10 := by omega
   rw [List.drop_eq_getElem_cons hil, show 10 - (i - pos) = (10 - (i + 1 - pos)) + 1 by omega, dG] at h5
   have hlt := k7 b[i]
   have hd : IntKind.u64.wrap (((b[i].toNat : Nat) : Int).tmod 128) = ((b[i].toNat % 128 : Nat) : Int) := by
    rw [Int.tmod_eq_emod_of_nonneg (by omega), show ((b[i].toNat : Nat) : Int) % 128 = ((b[i].toNat % 128 : Nat) : Int) by omega, f2 _ (by omega)]
   try simp only [xf b hil, hd, w9, go_sem, Nat.reduceAdd, Nat.reduceMul, Nat.reduceSub, Nat.reduceEqDiff, Nat.reduceLT, Nat.reduceLeDiff, Nat.reduceBEq, reduceIte, reduceCtorEq, Int.reduceAdd, Int.reduceLT, Int.reduceLE, Int.reduceGT, Int.reduceGE, Int.reduceEq, Int.reduceNe, Int.reduceBEq, Int.reduceBNe, Int.reduceToNat, Int.reduceNeg]
   refine ⟨by omega, ?_⟩
   refine zb _ (fun hb => ?_) (fun hb => ?_)
   ·have hx : dInt (b.drop pos) = none := by
     simp at hb
     rw [← h5]
     by_cases hc : b[i].toNat < 128
     ·rw [if_pos hc, if_pos]
      simp; omega
     ·rw [if_neg hc, show 10 - (i + 1 - pos) = 0 by omega]; rfl
    try simp only [hnone hx, go_sem, Nat.reduceAdd, Nat.reduceMul, Nat.reduceSub, Nat.reduceEqDiff, Nat.reduceLT, Nat.reduceLeDiff, Nat.reduceBEq, reduceIte, reduceCtorEq, Int.reduceAdd, Int.reduceLT, Int.reduceLE, Int.reduceGT, Int.reduceGE, Int.reduceEq, Int.reduceNe, Int.reduceBEq, Int.reduceBNe, Int.reduceToNat, Int.reduceNeg]
   ·have hb2 : i - pos = 9 → b[i].toNat % 128 ≤ 1 := by
     intro h9
     simp at hb
     have := hb (by omega)
     omega
    obtain ⟨s1, s2, s3⟩ := qqw h4 (Nat.mod_lt b[i].toNat (show 128 > 0 by decide)) (show i - pos ≤ 9 by omega) hb2
    have s4 := qli (i - pos)
    try simp only [s1, s4, xf b hil, go_sem, Nat.reduceAdd, Nat.reduceMul, Nat.reduceSub, Nat.reduceEqDiff, Nat.reduceLT, Nat.reduceLeDiff, Nat.reduceBEq, reduceIte, reduceCtorEq, Int.reduceAdd, Int.reduceLT, Int.reduceLE, Int.reduceGT, Int.reduceGE, Int.reduceEq, Int.reduceNe, Int.reduceBEq, Int.reduceBNe, Int.reduceToNat, Int.reduceNeg]
    (repeat (with_reducible refine ob ?_))
    refine zb _ (fun hc => ?_) (fun hc => ?_)
    ·have hc2 : ¬ b[i].toNat < 128 := by simp at hc; omega
     rw [if_neg hc2] at h5
     try (refine ev ?_; try exact True.intro)
     have hj : i + 1 - pos = i - pos + 1 := by omega
     refine ⟨⟨(i + 1, u + b[i].toNat % 128 * 128 ^ (i - pos)), by simp only; omega, by simp only; omega, by simp only; omega, by simp only [hj]; exact s3, by simp only [hj] at h5 ⊢; exact h5⟩, ?_, by simp only; omega⟩
     try simp only [SrrInt, rdO, hj, ql (show i < 9223372036854775807 by omega), go_sem, Nat.reduceAdd, Nat.reduceMul, Nat.reduceSub, Nat.reduceEqDiff, Nat.reduceLT, Nat.reduceLeDiff, Nat.reduceBEq, reduceIte, reduceCtorEq, Int.reduceAdd, Int.reduceLT, Int.reduceLE, Int.reduceGT, Int.reduceGE, Int.reduceEq, Int.reduceNe, Int.reduceBEq, Int.reduceBNe, Int.reduceToNat, Int.reduceNeg]
    ·have hc2 : b[i].toNat < 128 := by simp at hc; omega
     rw [if_pos hc2] at h5
     have hm : b[i].toNat % 128 = b[i].toNat := Nat.mod_eq_of_lt hc2
     rw [hm] at s1 s2 s3 hb2 hb
     try simp only [hm, go_sem, Nat.reduceAdd, Nat.reduceMul, Nat.reduceSub, Nat.reduceEqDiff, Nat.reduceLT, Nat.reduceLeDiff, Nat.reduceBEq, reduceIte, reduceCtorEq, Int.reduceAdd, Int.reduceLT, Int.reduceLE, Int.reduceGT, Int.reduceGE, Int.reduceEq, Int.reduceNe, Int.reduceBEq, Int.reduceBNe, Int.reduceToNat, Int.reduceNeg]
     refine zb _ (fun hz => ?_) (fun hz => ?_)
     ·have hx : dInt (b.drop pos) = none := by
       rw [← h5, if_pos]
       simp at hz ⊢; omega
      try simp only [hnone hx, go_sem, Nat.reduceAdd, Nat.reduceMul, Nat.reduceSub, Nat.reduceEqDiff, Nat.reduceLT, Nat.reduceLeDiff, Nat.reduceBEq, reduceIte, reduceCtorEq, Int.reduceAdd, Int.reduceLT, Int.reduceLE, Int.reduceGT, Int.reduceGE, Int.reduceEq, Int.reduceNe, Int.reduceBEq, Int.reduceBNe, Int.reduceToNat, Int.reduceNeg]
     ·have hx : rIntP ⟨b, pos, false⟩ = (unz (u + b[i].toNat * 128 ^ (i - pos)), ⟨b, i + 1, false⟩) := by
       rw [hrd, ← h5, if_neg (by simp at hz hb ⊢; omega)]
       simp only [List.length_drop]
       rw [show b.length - (b.length - (i + 1)) = i + 1 by omega]
      generalize hU : u + b[i].toNat * 128 ^ (i - pos) = u' at s2 hx ⊢
      have hU2 : (u : Int) + ((b[i].toNat * 128 ^ (i - pos) : Nat) : Int) = ((u' : Nat) : Int) := by rw [← hU, Int.natCast_add]
      have q2 : (u' : Int).tmod 2 = ((u' % 2 : Nat) : Int) := by rw [Int.tmod_eq_emod_of_nonneg (by omega)]; omega
      have q3 : IntKind.u64.wrap ((u' : Int).tdiv 2) = ((u' / 2 : Nat) : Int) := by rw [Int.tdiv_eq_ediv_of_nonneg (by omega), show ((u' : Int) / 2) = ((u' / 2 : Nat) : Int) by omega, f2 _ (by omega)]
      have q4 : IntKind.i64.wrap ((u' / 2 : Nat) : Int) = ((u' / 2 : Nat) : Int) := xd (by unfold I64; omega)
      try simp only [hU2, hx, ql (show i < 9223372036854775807 by omega), go_sem, Nat.reduceAdd, Nat.reduceMul, Nat.reduceSub, Nat.reduceEqDiff, Nat.reduceLT, Nat.reduceLeDiff, Nat.reduceBEq, reduceIte, reduceCtorEq, Int.reduceAdd, Int.reduceLT, Int.reduceLE, Int.reduceGT, Int.reduceGE, Int.reduceEq, Int.reduceNe, Int.reduceBEq, Int.reduceBNe, Int.reduceToNat, Int.reduceNeg]
      try simp only [q2, hx, go_sem, Nat.reduceAdd, Nat.reduceMul, Nat.reduceSub, Nat.reduceEqDiff, Nat.reduceLT, Nat.reduceLeDiff, Nat.reduceBEq, reduceIte, reduceCtorEq, Int.reduceAdd, Int.reduceLT, Int.reduceLE, Int.reduceGT, Int.reduceGE, Int.reduceEq, Int.reduceNe, Int.reduceBEq, Int.reduceBNe, Int.reduceToNat, Int.reduceNeg]
      rcases Nat.mod_two_eq_zero_or_one u' with hp | hp
      ·have q5 : unz u' = ((u' / 2 : Nat) : Int) := by unfold unz; rw [if_pos hp]
       have q6 : ((((u' % 2 : Nat) : Int)) == 1) = false := by rw [hp]; rfl
       try simp only [q6, go_sem, Nat.reduceAdd, Nat.reduceMul, Nat.reduceSub, Nat.reduceEqDiff, Nat.reduceLT, Nat.reduceLeDiff, Nat.reduceBEq, reduceIte, reduceCtorEq, Int.reduceAdd, Int.reduceLT, Int.reduceLE, Int.reduceGT, Int.reduceGE, Int.reduceEq, Int.reduceNe, Int.reduceBEq, Int.reduceBNe, Int.reduceToNat, Int.reduceNeg]
       (repeat (with_reducible refine ob ?_)); refine no_ ?_
       try simp only [hU2, q3, q4, q5, go_sem, Nat.reduceAdd, Nat.reduceMul, Nat.reduceSub, Nat.reduceEqDiff, Nat.reduceLT, Nat.reduceLeDiff, Nat.reduceBEq, reduceIte, reduceCtorEq, Int.reduceAdd, Int.reduceLT, Int.reduceLE, Int.reduceGT, Int.reduceGE, Int.reduceEq, Int.reduceNe, Int.reduceBEq, Int.reduceBNe, Int.reduceToNat, Int.reduceNeg]
      ·have q5 : unz u' = IntKind.i64.wrap (IntKind.i64.wrap (0 - ((u' / 2 : Nat) : Int)) - 1) := by
        unfold unz; rw [if_neg (by omega), xd (n := 0 - ((u' / 2 : Nat) : Int)) (by unfold I64; omega), xd (by unfold I64; omega)]; omega
       have q6 : ((((u' % 2 : Nat) : Int)) == 1) = true := by rw [hp]; rfl
       try simp only [q6, go_sem, Nat.reduceAdd, Nat.reduceMul, Nat.reduceSub, Nat.reduceEqDiff, Nat.reduceLT, Nat.reduceLeDiff, Nat.reduceBEq, reduceIte, reduceCtorEq, Int.reduceAdd, Int.reduceLT, Int.reduceLE, Int.reduceGT, Int.reduceGE, Int.reduceEq, Int.reduceNe, Int.reduceBEq, Int.reduceBNe, Int.reduceToNat, Int.reduceNeg]
       (repeat (with_reducible refine ob ?_)); refine yv ?_
       try simp only [hU2, q3, q4, q5, go_sem, Nat.reduceAdd, Nat.reduceMul, Nat.reduceSub, Nat.reduceEqDiff, Nat.reduceLT, Nat.reduceLeDiff, Nat.reduceBEq, reduceIte, reduceCtorEq, Int.reduceAdd, Int.reduceLT, Int.reduceLE, Int.reduceGT, Int.reduceGE, Int.reduceEq, Int.reduceNe, Int.reduceBEq, Int.reduceBNe, Int.reduceToNat, Int.reduceNeg]
  ·have hx : dInt (b.drop pos) = none := by
    rw [← h5]
    simp only [Bool.and_eq_false_iff, decide_eq_false_iff_not] at hc
    rcases Nat.lt_or_ge i (pos + 10) with hi | hi
    ·rw [List.drop_of_length_le (by omega), show 10 - (i - pos) = (9 - (i - pos)) + 1 by omega]; rfl
    ·rw [show 10 - (i - pos) = 0 by omega]; rfl
   try simp only [hnone hx, go_sem, Nat.reduceAdd, Nat.reduceMul, Nat.reduceSub, Nat.reduceEqDiff, Nat.reduceLT, Nat.reduceLeDiff, Nat.reduceBEq, reduceIte, reduceCtorEq, Int.reduceAdd, Int.reduceLT, Int.reduceLE, Int.reduceGT, Int.reduceGE, Int.reduceEq, Int.reduceNe, Int.reduceBEq, Int.reduceBNe, Int.reduceToNat, Int.reduceNeg]
 ·simp only [if_true] at hrd
  try simp only [rdO, hrd, go_sem, Nat.reduceAdd, Nat.reduceMul, Nat.reduceSub, Nat.reduceEqDiff, Nat.reduceLT, Nat.reduceLeDiff, Nat.reduceBEq, reduceIte, reduceCtorEq, Int.reduceAdd, Int.reduceLT, Int.reduceLE, Int.reduceGT, Int.reduceGE, Int.reduceEq, Int.reduceNe, Int.reduceBEq, Int.reduceBNe, Int.reduceToNat, Int.reduceNeg]
  refine qn (fun x : Unit => SrrInt b pos true pos 0) (fun x => 0) () ?_ (fun x => ?_)
  ·have e1 : 128 ^ (pos - pos) % 18446744073709551616 = 1 := by rw [Nat.sub_self]
   try simp only [SrrInt, e1, rdO, Int.ofNat_zero, go_sem, Nat.reduceAdd, Nat.reduceMul, Nat.reduceSub, Nat.reduceEqDiff, Nat.reduceLT, Nat.reduceLeDiff, Nat.reduceBEq, reduceIte, reduceCtorEq, Int.reduceAdd, Int.reduceLT, Int.reduceLE, Int.reduceGT, Int.reduceGE, Int.reduceEq, Int.reduceNe, Int.reduceBEq, Int.reduceBNe, Int.reduceToNat, Int.reduceNeg]
  try simp only [SrrInt, rdO, go_sem, Nat.reduceAdd, Nat.reduceMul, Nat.reduceSub, Nat.reduceEqDiff, Nat.reduceLT, Nat.reduceLeDiff, Nat.reduceBEq, reduceIte, reduceCtorEq, Int.reduceAdd, Int.reduceLT, Int.reduceLE, Int.reduceGT, Int.reduceGE, Int.reduceEq, Int.reduceNe, Int.reduceBEq, Int.reduceBNe, Int.reduceToNat, Int.reduceNeg]
  (repeat (with_reducible refine ob ?_)); refine no_ ?_
  try (refine ev ?_; try exact True.intro)
end Go.Proofs.Ytinnaedmdoengaa
namespace Go.Proofs.Ytinnaedmdoengaa
open Go.Abs
set_option linter.unusedSimpArgs false
set_option linter.unusedVariables false
noncomputable section
set_option maxRecDepth 100000
def s120r0 : List SOper := [
 ⟨some 4, .mov (.t 0), none⟩,
 ⟨some 5, .mov (.t 0), none⟩,
 ⟨some 6, .mov (.t 1), none⟩,
 ⟨some 7, .nilCheck (.t 4), none⟩,
 ⟨some 8, .faddr 1 (.t 7), none⟩,
 ⟨none, .store none (.t 8) (.t 6), none⟩,
 ⟨some 9, .nilCheck (.t 5), none⟩,
 ⟨some 10, .faddr 2 (.t 9), none⟩,
 ⟨none, .store none (.t 10) (.k (.d (.bool true))), none⟩]
def s120 : SCode := (.region s120r0 0 [])
theorem q9w : CodeIs s120.eq_1 := qc s120.eq_1
theorem qy8 : RegIs s120r0.eq_1 := qa
attribute [go_sem] qy8 q9w
theorem qy9 : FnIs Try.prog 120 Try.f120 [] news s120 [] 11 := xa follows Try.func120
def s85r0 : List SOper := [
 ⟨some 6, .mov (.k (.d (.int .i64 0))), none⟩]
def s85r1 : List SOper := [
 ⟨some 9, .mov (.t 0), none⟩,
 ⟨some 10, .nilCheck (.t 9), none⟩,
 ⟨some 11, .faddr 1 (.t 10), none⟩,
 ⟨some 12, .load none (.t 11), none⟩,
 ⟨some 7, .mov (.t 12), none⟩]
def s85r2 : List SOper := [
 ⟨some 13, .mov (.t 0), none⟩,
 ⟨some 14, .call (.k (.d (.func (.func 119) [] []))) [(.t 13)], none⟩,
 ⟨some 8, .mov (.t 14), none⟩]
def s85r3 : List SOper := [
 ⟨some 15, .mov (.t 0), none⟩,
 ⟨some 16, .nilCheck (.t 15), none⟩,
 ⟨some 17, .faddr 2 (.t 16), none⟩,
 ⟨some 18, .load none (.t 17), none⟩]
def s85r4 : List SOper := [
 ⟨some 6, .mov (.k (.d (.int .i64 0))), none⟩]
def s85r5 : List SOper := [
 ⟨some 19, .mov (.t 8), none⟩,
 ⟨some 20, .mov (.t 1), none⟩,
 ⟨some 21, .bin .lss (.t 19) (.t 20), none⟩,
 ⟨some 22, .mov (.t 21), none⟩,
 ⟨some 23, .mov (.t 8), some (22, false)⟩,
 ⟨some 24, .mov (.t 2), some (22, false)⟩,
 ⟨some 25, .bin .gtr (.t 23) (.t 24), some (22, false)⟩,
 ⟨some 26, .pick (.t 22) (.k (.d (.bool true))) (.t 25), none⟩]
def s85r6 : List SOper := [
 ⟨some 27, .mov (.t 0), none⟩,
 ⟨some 28, .mov (.t 7), none⟩,
 ⟨some 29, .call (.k (.d (.func (.func 120) [] []))) [(.t 27), (.t 28)], none⟩]
def s85r7 : List SOper := [
 ⟨some 6, .mov (.k (.d (.int .i64 0))), none⟩]
def s85r8 : List SOper := [
 ⟨some 30, .mov (.t 8), none⟩,
 ⟨some 6, .mov (.t 30), none⟩]
def s85 : SCode := (.seq (.region s85r0 0 []) (.seq (.region s85r1 0 []) (.seq (.region s85r2 0 []) (.seq (.seq (.region s85r3 0 []) (.cond (.t 18) (.seq (.region s85r4 0 []) .ret) .skip)) (.seq (.seq (.region s85r5 0 []) (.cond (.t 26) (.seq (.region s85r6 0 []) (.seq (.region s85r7 0 []) .ret)) .skip)) (.seq (.region s85r8 0 []) .ret))))))
theorem e85 : CodeIs s85.eq_1 := qc s85.eq_1
theorem q6r : RegIs s85r0.eq_1 := qa
theorem q6s : RegIs s85r1.eq_1 := qa
theorem q6t : RegIs s85r2.eq_1 := qa
theorem q6u : RegIs s85r3.eq_1 := qa
theorem q6v : RegIs s85r4.eq_1 := qa
theorem q6w : RegIs s85r5.eq_1 := qa
theorem q6x : RegIs s85r6.eq_1 := qa
theorem q6y : RegIs s85r7.eq_1 := qa
theorem q6z : RegIs s85r8.eq_1 := qa
attribute [go_sem] q6r q6s q6t q6u q6v q6w q6x q6y q6z e85
theorem F85 : FnIs Try.prog 85 Try.f85 [] news s85 [.tmp 6] 31 := xa follows Try.func85
def s87r0 : List SOper := [
 ⟨some 2, .mov (.k (.d (.bool false))), none⟩]
def s87r1 : List SOper := [
 ⟨some 3, .mov (.t 0), none⟩,
 ⟨some 4, .nilCheck (.t 3), none⟩,
 ⟨some 5, .faddr 2 (.t 4), none⟩,
 ⟨some 6, .load none (.t 5), none⟩,
 ⟨some 7, .mov (.t 6), none⟩,
 ⟨some 8, .mov (.t 0), some (7, false)⟩,
 ⟨some 9, .nilCheck (.t 8), some (7, false)⟩,
 ⟨some 10, .faddr 1 (.t 9), some (7, false)⟩,
 ⟨some 11, .load none (.t 10), some (7, false)⟩,
 ⟨some 12, .mov (.t 0), some (7, false)⟩,
 ⟨some 13, .nilCheck (.t 12), some (7, false)⟩,
 ⟨some 14, .faddr 0 (.t 13), some (7, false)⟩,
 ⟨some 15, .load none (.t 14), some (7, false)⟩,
 ⟨some 16, .len (.t 15), some (7, false)⟩,
 ⟨some 17, .bin .geq (.t 11) (.t 16), some (7, false)⟩,
 ⟨some 18, .pick (.t 7) (.k (.d (.bool true))) (.t 17), none⟩,
 ⟨some 19, .mov (.t 18), none⟩,
 ⟨some 20, .mov (.t 0), some (19, false)⟩,
 ⟨some 21, .nilCheck (.t 20), some (19, false)⟩,
 ⟨some 22, .faddr 0 (.t 21), some (19, false)⟩,
 ⟨some 23, .load none (.t 22), some (19, false)⟩,
 ⟨some 24, .mov (.t 0), some (19, false)⟩,
 ⟨some 25, .nilCheck (.t 24), some (19, false)⟩,
 ⟨some 26, .faddr 1 (.t 25), some (19, false)⟩,
 ⟨some 27, .load none (.t 26), some (19, false)⟩,
 ⟨some 28, .iaddr 1 (.t 23) (.t 27), some (19, false)⟩,
 ⟨some 29, .load none (.t 28), some (19, false)⟩,
 ⟨some 30, .bin .gtr (.t 29) (.k (.d (.int .u8 1))), some (19, false)⟩,
 ⟨some 31, .pick (.t 19) (.k (.d (.bool true))) (.t 30), none⟩]
def s87r2 : List SOper := [
 ⟨some 32, .mov (.t 0), none⟩,
 ⟨some 33, .nilCheck (.t 32), none⟩,
 ⟨some 34, .faddr 2 (.t 33), none⟩,
 ⟨none, .store none (.t 34) (.k (.d (.bool true))), none⟩]
def s87r3 : List SOper := [
 ⟨some 2, .mov (.k (.d (.bool false))), none⟩]
def s87r4 : List SOper := [
 ⟨some 35, .mov (.t 0), none⟩,
 ⟨some 36, .nilCheck (.t 35), none⟩,
 ⟨some 37, .faddr 1 (.t 36), none⟩,
 ⟨some 38, .load none (.t 37), none⟩,
 ⟨some 39, .bin .add (.t 38) (.k (.d (.int .i64 1))), none⟩,
 ⟨some 40, .nilCheck (.t 35), none⟩,
 ⟨some 41, .faddr 1 (.t 40), none⟩,
 ⟨none, .store none (.t 41) (.t 39), none⟩]
def s87r5 : List SOper := [
 ⟨some 42, .mov (.t 0), none⟩,
 ⟨some 43, .nilCheck (.t 42), none⟩,
 ⟨some 44, .faddr 0 (.t 43), none⟩,
 ⟨some 45, .load none (.t 44), none⟩,
 ⟨some 46, .mov (.t 0), none⟩,
 ⟨some 47, .nilCheck (.t 46), none⟩,
 ⟨some 48, .faddr 1 (.t 47), none⟩,
 ⟨some 49, .load none (.t 48), none⟩,
 ⟨some 50, .bin .sub (.t 49) (.k (.d (.int .i64 1))), none⟩,
 ⟨some 51, .iaddr 1 (.t 45) (.t 50), none⟩,
 ⟨some 52, .load none (.t 51), none⟩,
 ⟨some 53, .bin .eql (.t 52) (.k (.d (.int .u8 1))), none⟩,
 ⟨some 2, .mov (.t 53), none⟩]
def s87 : SCode := (.seq (.region s87r0 0 []) (.seq (.seq (.region s87r1 0 []) (.cond (.t 31) (.seq (.region s87r2 0 []) (.seq (.region s87r3 0 []) .ret)) .skip)) (.seq (.region s87r4 0 []) (.seq (.region s87r5 0 []) .ret))))
theorem e87 : CodeIs s87.eq_1 := qc s87.eq_1
theorem q60 : RegIs s87r0.eq_1 := qa
theorem q61 : RegIs s87r1.eq_1 := qa
theorem q62 : RegIs s87r2.eq_1 := qa
theorem q63 : RegIs s87r3.eq_1 := qa
theorem q64 : RegIs s87r4.eq_1 := qa
theorem q65 : RegIs s87r5.eq_1 := qa
attribute [go_sem] q60 q61 q62 q63 q64 q65 e87
theorem F87 : FnIs Try.prog 87 Try.f87 [] news s87 [.tmp 2] 54 := xa follows Try.func87
def s88r0 : List SOper := [
 ⟨some 4, .mov (.k (.d .nilsl)), none⟩]
def s88r1 : List SOper := [
 ⟨some 7, .mov (.t 0), none⟩,
 ⟨some 8, .nilCheck (.t 7), none⟩,
 ⟨some 9, .faddr 1 (.t 8), none⟩,
 ⟨some 10, .load none (.t 9), none⟩,
 ⟨some 5, .mov (.t 10), none⟩]
def s88r2 : List SOper := [
 ⟨some 11, .mov (.t 0), none⟩,
 ⟨some 12, .mov (.t 1), none⟩,
 ⟨some 13, .call (.k (.d (.func (.func 85) [] []))) [(.t 11), (.k (.d (.int .i64 0))), (.t 12)], none⟩,
 ⟨some 6, .mov (.t 13), none⟩]
def s88r3 : List SOper := [
 ⟨some 14, .mov (.t 0), none⟩,
 ⟨some 15, .nilCheck (.t 14), none⟩,
 ⟨some 16, .faddr 2 (.t 15), none⟩,
 ⟨some 17, .load none (.t 16), none⟩,
 ⟨some 18, .mov (.t 17), none⟩,
 ⟨some 19, .mov (.t 6), some (18, false)⟩,
 ⟨some 20, .mov (.t 0), some (18, false)⟩,
 ⟨some 21, .nilCheck (.t 20), some (18, false)⟩,
 ⟨some 22, .faddr 0 (.t 21), some (18, false)⟩,
 ⟨some 23, .load none (.t 22), some (18, false)⟩,
 ⟨some 24, .len (.t 23), some (18, false)⟩,
 ⟨some 25, .mov (.t 0), some (18, false)⟩,
 ⟨some 26, .nilCheck (.t 25), some (18, false)⟩,
 ⟨some 27, .faddr 1 (.t 26), some (18, false)⟩,
 ⟨some 28, .load none (.t 27), some (18, false)⟩,
 ⟨some 29, .bin .sub (.t 24) (.t 28), some (18, false)⟩,
 ⟨some 30, .bin .gtr (.t 19) (.t 29), some (18, false)⟩,
 ⟨some 31, .pick (.t 18) (.k (.d (.bool true))) (.t 30), none⟩]
def s88r4 : List SOper := [
 ⟨some 32, .mov (.t 0), none⟩,
 ⟨some 33, .mov (.t 5), none⟩,
 ⟨some 34, .call (.k (.d (.func (.func 120) [] []))) [(.t 32), (.t 33)], none⟩]
def s88r5 : List SOper := [
 ⟨some 4, .mov (.k (.d .nilsl)), none⟩]
def s88r6 : List SOper := [
 ⟨some 35, .mov (.t 0), none⟩,
 ⟨some 36, .nilCheck (.t 35), none⟩,
 ⟨some 37, .faddr 1 (.t 36), none⟩,
 ⟨some 38, .load none (.t 37), none⟩,
 ⟨some 39, .mov (.t 6), none⟩,
 ⟨some 40, .bin .add (.t 38) (.t 39), none⟩,
 ⟨some 41, .nilCheck (.t 35), none⟩,
 ⟨some 42, .faddr 1 (.t 41), none⟩,
 ⟨none, .store none (.t 42) (.t 40), none⟩]
def s88r7 : List SOper := [
 ⟨some 43, .buildSlice false 1 0 [(.int .u8 0)] [], none⟩,
 ⟨some 44, .mov (.t 0), none⟩,
 ⟨some 45, .nilCheck (.t 44), none⟩,
 ⟨some 46, .faddr 0 (.t 45), none⟩,
 ⟨some 47, .load none (.t 46), none⟩,
 ⟨some 48, .mov (.t 0), none⟩,
 ⟨some 49, .nilCheck (.t 48), none⟩,
 ⟨some 50, .faddr 1 (.t 49), none⟩,
 ⟨some 51, .load none (.t 50), none⟩,
 ⟨some 52, .mov (.t 6), none⟩,
 ⟨some 53, .bin .sub (.t 51) (.t 52), none⟩,
 ⟨some 54, .mov (.t 0), none⟩,
 ⟨some 55, .nilCheck (.t 54), none⟩,
 ⟨some 56, .faddr 1 (.t 55), none⟩,
 ⟨some 57, .load none (.t 56), none⟩,
 ⟨some 58, .slice 1 (.t 47) (some (.t 53)) (some (.t 57)) none, none⟩,
 ⟨some 59, .append false 1 1 (.t 43) (.t 58), none⟩,
 ⟨some 4, .mov (.t 59), none⟩]
def s88 : SCode := (.seq (.region s88r0 0 []) (.seq (.region s88r1 0 []) (.seq (.region s88r2 0 []) (.seq (.seq (.region s88r3 0 []) (.cond (.t 31) (.seq (.region s88r4 0 []) (.seq (.region s88r5 0 []) .ret)) .skip)) (.seq (.region s88r6 0 []) (.seq (.region s88r7 0 []) .ret))))))
theorem e88 : CodeIs s88.eq_1 := qc s88.eq_1
theorem q66 : RegIs s88r0.eq_1 := qa
theorem q67 : RegIs s88r1.eq_1 := qa
theorem q68 : RegIs s88r2.eq_1 := qa
theorem q69 : RegIs s88r3.eq_1 := qa
theorem q7a : RegIs s88r4.eq_1 := qa
theorem q7b : RegIs s88r5.eq_1 := qa
theorem q7c : RegIs s88r6.eq_1 := qa
theorem q7d : RegIs s88r7.eq_1 := qa
attribute [go_sem] q66 q67 q68 q69 q7a q7b q7c q7d e88
theorem F88 : FnIs Try.prog 88 Try.f88 [] news s88 [.tmp 4] 60 := xa follows Try.func88
def s86r0 : List SOper := [
 ⟨some 4, .mov (.k (.d (.str []))), none⟩]
def s86r1 : List SOper := [
 ⟨some 5, .mov (.t 0), none⟩,
 ⟨some 6, .mov (.t 1), none⟩,
 ⟨some 7, .call (.k (.d (.func (.func 88) [] []))) [(.t 5), (.t 6)], none⟩,
 ⟨some 8, .b2s (.t 7), none⟩,
 ⟨some 4, .mov (.t 8), none⟩]
def s86 : SCode := (.seq (.region s86r0 0 []) (.seq (.region s86r1 0 []) .ret))
theorem e86 : CodeIs s86.eq_1 := qc s86.eq_1
theorem q7e : RegIs s86r0.eq_1 := qa
theorem q7f : RegIs s86r1.eq_1 := qa
attribute [go_sem] q7e q7f e86
theorem F86 : FnIs Try.prog 86 Try.f86 [] news s86 [.tmp 4] 9 := xa follows Try.func86
def s89r0 : List SOper := [
 ⟨some 2, .mov (.k (.d (.int .i64 0))), none⟩]
def s89r1 : List SOper := [
 ⟨some 3, .mov (.t 0), none⟩,
 ⟨some 4, .nilCheck (.t 3), none⟩,
 ⟨some 5, .faddr 2 (.t 4), none⟩,
 ⟨some 6, .load none (.t 5), none⟩,
 ⟨some 7, .mov (.t 6), none⟩,
 ⟨some 8, .mov (.t 0), some (7, false)⟩,
 ⟨some 9, .nilCheck (.t 8), some (7, false)⟩,
 ⟨some 10, .faddr 1 (.t 9), some (7, false)⟩,
 ⟨some 11, .load none (.t 10), some (7, false)⟩,
 ⟨some 12, .mov (.t 0), some (7, false)⟩,
 ⟨some 13, .nilCheck (.t 12), some (7, false)⟩,
 ⟨some 14, .faddr 0 (.t 13), some (7, false)⟩,
 ⟨some 15, .load none (.t 14), some (7, false)⟩,
 ⟨some 16, .len (.t 15), some (7, false)⟩,
 ⟨some 17, .bin .neq (.t 11) (.t 16), some (7, false)⟩,
 ⟨some 18, .pick (.t 7) (.k (.d (.bool true))) (.t 17), none⟩]
def s89r2 : List SOper := [
 ⟨some 2, .mov (.k (.d (.int .i64 4))), none⟩]
def s89r3 : List SOper := [
 ⟨some 2, .mov (.k (.d (.int .i64 0))), none⟩]
def s89 : SCode := (.seq (.region s89r0 0 []) (.seq (.seq (.region s89r1 0 []) (.cond (.t 18) (.seq (.region s89r2 0 []) .ret) .skip)) (.seq (.region s89r3 0 []) .ret)))
theorem e89 : CodeIs s89.eq_1 := qc s89.eq_1
theorem q7g : RegIs s89r0.eq_1 := qa
theorem q7h : RegIs s89r1.eq_1 := qa
theorem q7i : RegIs s89r2.eq_1 := qa
theorem q7j : RegIs s89r3.eq_1 := qa
attribute [go_sem] q7g q7h q7i q7j e89
theorem F89 : FnIs Try.prog 89 Try.f89 [] news s89 [.tmp 2] 19 := xa follows Try.func89
end
theorem qb4 (r : Rd) (p : Nat) : ACall Try.prog 120 [.d (.ptr 0 0), .d (.int .i64 (p : Nat))] [rdO r] (.tup []) [rdO ⟨r.b, p, true⟩] := by
 refine qy9.goT ?_
 try simp only [rdO, go_sem, Nat.reduceAdd, Nat.reduceMul, Nat.reduceSub, Nat.reduceEqDiff, Nat.reduceLT, Nat.reduceLeDiff, Nat.reduceBEq, reduceIte, reduceCtorEq, Int.reduceAdd, Int.reduceLT, Int.reduceLE, Int.reduceGT, Int.reduceGE, Int.reduceEq, Int.reduceNe, Int.reduceBEq, Int.reduceBNe, Int.reduceToNat, Int.reduceNeg]
theorem qak (r : Rd) (lo hi : Int) (hr : r.Ok) : ACall Try.prog 85 [.d (.ptr 0 0), .d (.int .i64 lo), .d (.int .i64 hi)] [rdO r] (.d (.int .i64 (rBoundedP lo hi r).1)) [rdO (rBoundedP lo hi r).2] := by
 have hc := qqx r hr
 have h1 := qn5 r hr
 have h2 := wg lo hi r hr
 obtain ⟨b, pos, f⟩ := r
 refine F85.go ?_
 cases f
 ·simp only [Bool.false_eq_true, if_false, dBounded] at h1 h2
  cases hd : dInt (b.drop pos) with
  | none =>
   rw [hd] at h1 h2
   simp only at h1 h2
   rw [h1] at hc
   rw [h2]
   simp only [rdO] at hc
   try simp only [rdO, go_sem, Nat.reduceAdd, Nat.reduceMul, Nat.reduceSub, Nat.reduceEqDiff, Nat.reduceLT, Nat.reduceLeDiff, Nat.reduceBEq, reduceIte, reduceCtorEq, Int.reduceAdd, Int.reduceLT, Int.reduceLE, Int.reduceGT, Int.reduceGE, Int.reduceEq, Int.reduceNe, Int.reduceBEq, Int.reduceBNe, Int.reduceToNat, Int.reduceNeg]
   (repeat (with_reducible refine ob ?_)); refine clO [0] qz3 (hc) ?_ (hfit := by first | exact ⟨qb, trivial⟩ | exact ⟨qb, qb, trivial⟩ | simp only [encOp, encEn, encStep, go_sem, Nat.reduceAdd, Nat.reduceMul, Nat.reduceSub, Nat.reduceEqDiff, Nat.reduceLT, Nat.reduceLeDiff, Nat.reduceBEq, reduceIte, reduceCtorEq, Int.reduceAdd, Int.reduceLT, Int.reduceLE, Int.reduceGT, Int.reduceGE, Int.reduceEq, Int.reduceNe, Int.reduceBEq, Int.reduceBNe, Int.reduceToNat, Int.reduceNeg])
   try (refine ev ?_; try exact True.intro)
   (repeat (with_reducible refine ob ?_)); refine yv ?_
   try (refine ev ?_; try exact True.intro)
  | some x =>
   obtain ⟨n, l⟩ := x
   rw [hd] at h1 h2
   simp only at h1 h2
   rw [h1] at hc
   simp only [rdO] at hc
   try simp only [rdO, go_sem, Nat.reduceAdd, Nat.reduceMul, Nat.reduceSub, Nat.reduceEqDiff, Nat.reduceLT, Nat.reduceLeDiff, Nat.reduceBEq, reduceIte, reduceCtorEq, Int.reduceAdd, Int.reduceLT, Int.reduceLE, Int.reduceGT, Int.reduceGE, Int.reduceEq, Int.reduceNe, Int.reduceBEq, Int.reduceBNe, Int.reduceToNat, Int.reduceNeg]
   (repeat (with_reducible refine ob ?_)); refine clO [0] qz3 (hc) ?_ (hfit := by first | exact ⟨qb, trivial⟩ | exact ⟨qb, qb, trivial⟩ | simp only [encOp, encEn, encStep, go_sem, Nat.reduceAdd, Nat.reduceMul, Nat.reduceSub, Nat.reduceEqDiff, Nat.reduceLT, Nat.reduceLeDiff, Nat.reduceBEq, reduceIte, reduceCtorEq, Int.reduceAdd, Int.reduceLT, Int.reduceLE, Int.reduceGT, Int.reduceGE, Int.reduceEq, Int.reduceNe, Int.reduceBEq, Int.reduceBNe, Int.reduceToNat, Int.reduceNeg])
   try (refine ev ?_; try exact True.intro)
   (repeat (with_reducible refine ob ?_)); refine no_ ?_
   try (refine ev ?_; try exact True.intro)
   have hb : ((decide (n < lo) || decide (n > hi)) = true) = (n < lo ∨ n > hi) := by simp
   refine ⟨fun h => by rw [h]; rfl, ?_⟩
   refine zb _ (fun h => ?_) (fun h => ?_)
   ·rw [hb] at h
    rw [if_pos h] at h2
    simp only at h2
    have hfl := qb4 ⟨b, b.length - l.length, false⟩ pos
    simp only [rdO] at hfl
    rw [h2]
    try (refine ev ?_; try exact True.intro)
    (repeat (with_reducible refine ob ?_)); refine clO [0] qy9 (hfl) ?_ (hfit := by first | exact ⟨qb, trivial⟩ | exact ⟨qb, qb, trivial⟩ | simp only [encOp, encEn, encStep, go_sem, Nat.reduceAdd, Nat.reduceMul, Nat.reduceSub, Nat.reduceEqDiff, Nat.reduceLT, Nat.reduceLeDiff, Nat.reduceBEq, reduceIte, reduceCtorEq, Int.reduceAdd, Int.reduceLT, Int.reduceLE, Int.reduceGT, Int.reduceGE, Int.reduceEq, Int.reduceNe, Int.reduceBEq, Int.reduceBNe, Int.reduceToNat, Int.reduceNeg])
    try (refine ev ?_; try exact True.intro)
   ·have h' : ¬ (n < lo ∨ n > hi) := by rw [← hb, h]; simp
    rw [if_neg h'] at h2
    simp only at h2
    rw [h2]
    try (refine ev ?_; try exact True.intro)
 ·simp only [if_true] at h1 h2
  rw [h1] at hc
  rw [h2]
  simp only [rdO] at hc
  try simp only [rdO, go_sem, Nat.reduceAdd, Nat.reduceMul, Nat.reduceSub, Nat.reduceEqDiff, Nat.reduceLT, Nat.reduceLeDiff, Nat.reduceBEq, reduceIte, reduceCtorEq, Int.reduceAdd, Int.reduceLT, Int.reduceLE, Int.reduceGT, Int.reduceGE, Int.reduceEq, Int.reduceNe, Int.reduceBEq, Int.reduceBNe, Int.reduceToNat, Int.reduceNeg]
  (repeat (with_reducible refine ob ?_)); refine clO [0] qz3 (hc) ?_ (hfit := by first | exact ⟨qb, trivial⟩ | exact ⟨qb, qb, trivial⟩ | simp only [encOp, encEn, encStep, go_sem, Nat.reduceAdd, Nat.reduceMul, Nat.reduceSub, Nat.reduceEqDiff, Nat.reduceLT, Nat.reduceLeDiff, Nat.reduceBEq, reduceIte, reduceCtorEq, Int.reduceAdd, Int.reduceLT, Int.reduceLE, Int.reduceGT, Int.reduceGE, Int.reduceEq, Int.reduceNe, Int.reduceBEq, Int.reduceBNe, Int.reduceToNat, Int.reduceNeg])
  try (refine ev ?_; try exact True.intro)
  (repeat (with_reducible refine ob ?_)); refine yv ?_
  try (refine ev ?_; try exact True.intro)
theorem qdt (r : Rd) (most : Nat) (hr : r.Ok) (hm : most ≤ 1000000000) : ACall Try.prog 88 [.d (.ptr 0 0), .d (.int .i64 (most : Nat))] [rdO r] (.d (.sl 1 (byteRows (rBytesP most r).1))) [rdO (rBytesP most r).2] := by
 have hc := qak r 0 most hr
 have h1 := wg 0 most r hr
 have h2 := xz most r hr
 obtain ⟨hln, hpos⟩ := hr
 obtain ⟨b, pos, f⟩ := r
 simp only at hln hpos
 refine F88.go ?_
 have hfl := fun q => qb4 ⟨b, q, true⟩ pos
 have hfl2 := fun q => qb4 ⟨b, q, false⟩ pos
 simp only [rdO] at hfl hfl2
 cases f
 ·simp only [Bool.false_eq_true, if_false, dBytes] at h1 h2
  cases hd : dBounded 0 most (b.drop pos) with
  | none =>
   rw [hd] at h1 h2
   simp only at h1 h2
   rw [h1] at hc
   rw [h2]
   simp only [rdO] at hc
   try simp only [rdO, go_sem, Nat.reduceAdd, Nat.reduceMul, Nat.reduceSub, Nat.reduceEqDiff, Nat.reduceLT, Nat.reduceLeDiff, Nat.reduceBEq, reduceIte, reduceCtorEq, Int.reduceAdd, Int.reduceLT, Int.reduceLE, Int.reduceGT, Int.reduceGE, Int.reduceEq, Int.reduceNe, Int.reduceBEq, Int.reduceBNe, Int.reduceToNat, Int.reduceNeg]
   (repeat (with_reducible refine ob ?_)); refine clO [0] F85 (hc) ?_ (hfit := by first | exact ⟨qb, trivial⟩ | exact ⟨qb, qb, trivial⟩ | simp only [encOp, encEn, encStep, go_sem, Nat.reduceAdd, Nat.reduceMul, Nat.reduceSub, Nat.reduceEqDiff, Nat.reduceLT, Nat.reduceLeDiff, Nat.reduceBEq, reduceIte, reduceCtorEq, Int.reduceAdd, Int.reduceLT, Int.reduceLE, Int.reduceGT, Int.reduceGE, Int.reduceEq, Int.reduceNe, Int.reduceBEq, Int.reduceBNe, Int.reduceToNat, Int.reduceNeg])
   try (refine ev ?_; try exact True.intro)
   (repeat (with_reducible refine ob ?_)); refine yv ?_
   try (refine ev ?_; try exact True.intro)
   (repeat (with_reducible refine ob ?_)); refine clO [0] qy9 ((hfl pos)) ?_ (hfit := by first | exact ⟨qb, trivial⟩ | exact ⟨qb, qb, trivial⟩ | simp only [encOp, encEn, encStep, go_sem, Nat.reduceAdd, Nat.reduceMul, Nat.reduceSub, Nat.reduceEqDiff, Nat.reduceLT, Nat.reduceLeDiff, Nat.reduceBEq, reduceIte, reduceCtorEq, Int.reduceAdd, Int.reduceLT, Int.reduceLE, Int.reduceGT, Int.reduceGE, Int.reduceEq, Int.reduceNe, Int.reduceBEq, Int.reduceBNe, Int.reduceToNat, Int.reduceNeg])
   try simp only [qj, go_sem, Nat.reduceAdd, Nat.reduceMul, Nat.reduceSub, Nat.reduceEqDiff, Nat.reduceLT, Nat.reduceLeDiff, Nat.reduceBEq, reduceIte, reduceCtorEq, Int.reduceAdd, Int.reduceLT, Int.reduceLE, Int.reduceGT, Int.reduceGE, Int.reduceEq, Int.reduceNe, Int.reduceBEq, Int.reduceBNe, Int.reduceToNat, Int.reduceNeg]
  | some x =>
   obtain ⟨n, l⟩ := x
   obtain ⟨p, hp⟩ := zk _ _ _ _ _ hd
   obtain ⟨t1, t2⟩ := jp hpos hp
   have hn0 : 0 ≤ n ∧ n ≤ most := by
    unfold dBounded at hd
    split at hd
    ·split at hd
     ·cases hd
     ·cases hd; omega
    ·cases hd
   rw [hd] at h1 h2
   simp only at h1 h2
   rw [h1] at hc
   obtain ⟨m, rfl⟩ : ∃ m : Nat, n = m := ⟨n.toNat, by omega⟩
   simp only [Int.toNat_natCast] at h2
   simp only [rdO] at hc
   have e1 : IntKind.i64.wrap ((b.length : Int) - ((b.length - l.length : Nat) : Int)) = ((l.length : Nat) : Int) := by rw [xd (by unfold I64; omega)]; omega
   try simp only [rdO, go_sem, Nat.reduceAdd, Nat.reduceMul, Nat.reduceSub, Nat.reduceEqDiff, Nat.reduceLT, Nat.reduceLeDiff, Nat.reduceBEq, reduceIte, reduceCtorEq, Int.reduceAdd, Int.reduceLT, Int.reduceLE, Int.reduceGT, Int.reduceGE, Int.reduceEq, Int.reduceNe, Int.reduceBEq, Int.reduceBNe, Int.reduceToNat, Int.reduceNeg]
   (repeat (with_reducible refine ob ?_)); refine clO [0] F85 (hc) ?_ (hfit := by first | exact ⟨qb, trivial⟩ | exact ⟨qb, qb, trivial⟩ | simp only [encOp, encEn, encStep, go_sem, Nat.reduceAdd, Nat.reduceMul, Nat.reduceSub, Nat.reduceEqDiff, Nat.reduceLT, Nat.reduceLeDiff, Nat.reduceBEq, reduceIte, reduceCtorEq, Int.reduceAdd, Int.reduceLT, Int.reduceLE, Int.reduceGT, Int.reduceGE, Int.reduceEq, Int.reduceNe, Int.reduceBEq, Int.reduceBNe, Int.reduceToNat, Int.reduceNeg])
   try simp only [e1, go_sem, Nat.reduceAdd, Nat.reduceMul, Nat.reduceSub, Nat.reduceEqDiff, Nat.reduceLT, Nat.reduceLeDiff, Nat.reduceBEq, reduceIte, reduceCtorEq, Int.reduceAdd, Int.reduceLT, Int.reduceLE, Int.reduceGT, Int.reduceGE, Int.reduceEq, Int.reduceNe, Int.reduceBEq, Int.reduceBNe, Int.reduceToNat, Int.reduceNeg]
   refine zb _ (fun h => ?_) (fun h => ?_)
   ·rw [if_pos (show l.length < m by simp at h; omega)] at h2
    simp only at h2
    rw [h2]
    try (refine ev ?_; try exact True.intro)
    (repeat (with_reducible refine ob ?_)); refine clO [0] qy9 ((hfl2 (b.length - l.length))) ?_ (hfit := by first | exact ⟨qb, trivial⟩ | exact ⟨qb, qb, trivial⟩ | simp only [encOp, encEn, encStep, go_sem, Nat.reduceAdd, Nat.reduceMul, Nat.reduceSub, Nat.reduceEqDiff, Nat.reduceLT, Nat.reduceLeDiff, Nat.reduceBEq, reduceIte, reduceCtorEq, Int.reduceAdd, Int.reduceLT, Int.reduceLE, Int.reduceGT, Int.reduceGE, Int.reduceEq, Int.reduceNe, Int.reduceBEq, Int.reduceBNe, Int.reduceToNat, Int.reduceNeg])
    try simp only [qj, go_sem, Nat.reduceAdd, Nat.reduceMul, Nat.reduceSub, Nat.reduceEqDiff, Nat.reduceLT, Nat.reduceLeDiff, Nat.reduceBEq, reduceIte, reduceCtorEq, Int.reduceAdd, Int.reduceLT, Int.reduceLE, Int.reduceGT, Int.reduceGE, Int.reduceEq, Int.reduceNe, Int.reduceBEq, Int.reduceBNe, Int.reduceToNat, Int.reduceNeg]
   ·have hle : m ≤ l.length := by simp at h; omega
    rw [if_neg (show ¬ l.length < m by omega)] at h2
    simp only at h2
    rw [h2]
    generalize hq : b.length - l.length = q at t1 e1
    have e2 : IntKind.i64.wrap ((q : Int) + (m : Int)) = ((q + m : Nat) : Int) := by rw [xd (by unfold I64; omega)]; omega
    have e3 : IntKind.i64.wrap ((q : Int) + (m : Int) - (m : Int)) = ((q : Nat) : Int) := by rw [xd (by unfold I64; omega)]; omega
    have e5 : ((q : Int) + (m : Int)).toNat = q + m := by omega
    have e4 : q + m - q = m := by omega
    have e6 : b.length - (l.drop m).length = q + m := by rw [List.length_drop]; omega
    try simp only [hq, e2, e6, go_sem, Nat.reduceAdd, Nat.reduceMul, Nat.reduceSub, Nat.reduceEqDiff, Nat.reduceLT, Nat.reduceLeDiff, Nat.reduceBEq, reduceIte, reduceCtorEq, Int.reduceAdd, Int.reduceLT, Int.reduceLE, Int.reduceGT, Int.reduceGE, Int.reduceEq, Int.reduceNe, Int.reduceBEq, Int.reduceBNe, Int.reduceToNat, Int.reduceNeg]
    try simp only [e3, go_sem, Nat.reduceAdd, Nat.reduceMul, Nat.reduceSub, Nat.reduceEqDiff, Nat.reduceLT, Nat.reduceLeDiff, Nat.reduceBEq, reduceIte, reduceCtorEq, Int.reduceAdd, Int.reduceLT, Int.reduceLE, Int.reduceGT, Int.reduceGE, Int.reduceEq, Int.reduceNe, Int.reduceBEq, Int.reduceBNe, Int.reduceToNat, Int.reduceNeg]
    rw [e5, e4, jx, jy, t1, qs]
    have hlm : (l.take m).length ≤ 1000000000 := by rw [List.length_take]; omega
    exact ⟨by omega, by omega, by simp only [go_sem]⟩
 ·simp only [if_true] at h1 h2
  rw [h1] at hc
  rw [h2]
  simp only [rdO] at hc
  try simp only [rdO, go_sem, Nat.reduceAdd, Nat.reduceMul, Nat.reduceSub, Nat.reduceEqDiff, Nat.reduceLT, Nat.reduceLeDiff, Nat.reduceBEq, reduceIte, reduceCtorEq, Int.reduceAdd, Int.reduceLT, Int.reduceLE, Int.reduceGT, Int.reduceGE, Int.reduceEq, Int.reduceNe, Int.reduceBEq, Int.reduceBNe, Int.reduceToNat, Int.reduceNeg]
  (repeat (with_reducible refine ob ?_)); refine clO [0] F85 (hc) ?_ (hfit := by first | exact ⟨qb, trivial⟩ | exact ⟨qb, qb, trivial⟩ | simp only [encOp, encEn, encStep, go_sem, Nat.reduceAdd, Nat.reduceMul, Nat.reduceSub, Nat.reduceEqDiff, Nat.reduceLT, Nat.reduceLeDiff, Nat.reduceBEq, reduceIte, reduceCtorEq, Int.reduceAdd, Int.reduceLT, Int.reduceLE, Int.reduceGT, Int.reduceGE, Int.reduceEq, Int.reduceNe, Int.reduceBEq, Int.reduceBNe, Int.reduceToNat, Int.reduceNeg])
  try (refine ev ?_; try exact True.intro)
  (repeat (with_reducible refine ob ?_)); refine yv ?_
  try (refine ev ?_; try exact True.intro)
  (repeat (with_reducible refine ob ?_)); refine clO [0] qy9 ((hfl pos)) ?_ (hfit := by first | exact ⟨qb, trivial⟩ | exact ⟨qb, qb, trivial⟩ | simp only [encOp, encEn, encStep, go_sem, Nat.reduceAdd, Nat.reduceMul, Nat.reduceSub, Nat.reduceEqDiff, Nat.reduceLT, Nat.reduceLeDiff, Nat.reduceBEq, reduceIte, reduceCtorEq, Int.reduceAdd, Int.reduceLT, Int.reduceLE, Int.reduceGT, Int.reduceGE, Int.reduceEq, Int.reduceNe, Int.reduceBEq, Int.reduceBNe, Int.reduceToNat, Int.reduceNeg])
  try simp only [qj, go_sem, Nat.reduceAdd, Nat.reduceMul, Nat.reduceSub, Nat.reduceEqDiff, Nat.reduceLT, Nat.reduceLeDiff, Nat.reduceBEq, reduceIte, reduceCtorEq, Int.reduceAdd, Int.reduceLT, Int.reduceLE, Int.reduceGT, Int.reduceGE, Int.reduceEq, Int.reduceNe, Int.reduceBEq, Int.reduceBNe, Int.reduceToNat, Int.reduceNeg]
theorem qn7 (r : Rd) (most : Nat) (hr : r.Ok) (hm : most ≤ 1000000000) : ACall Try.prog 86 [.d (.ptr 0 0), .d (.int .i64 (most : Nat))] [rdO r] (.d (.str (rBytesP most r).1)) [rdO (rBytesP most r).2] := by
 have hc := qdt r most hr hm
 simp only [rdO] at hc
 refine F86.go ?_
 try simp only [rdO, go_sem, Nat.reduceAdd, Nat.reduceMul, Nat.reduceSub, Nat.reduceEqDiff, Nat.reduceLT, Nat.reduceLeDiff, Nat.reduceBEq, reduceIte, reduceCtorEq, Int.reduceAdd, Int.reduceLT, Int.reduceLE, Int.reduceGT, Int.reduceGE, Int.reduceEq, Int.reduceNe, Int.reduceBEq, Int.reduceBNe, Int.reduceToNat, Int.reduceNeg]
 (repeat (with_reducible refine ob ?_)); refine clO [0] F88 (hc) ?_ (hfit := by first | exact ⟨qb, trivial⟩ | exact ⟨qb, qb, trivial⟩ | simp only [encOp, encEn, encStep, go_sem, Nat.reduceAdd, Nat.reduceMul, Nat.reduceSub, Nat.reduceEqDiff, Nat.reduceLT, Nat.reduceLeDiff, Nat.reduceBEq, reduceIte, reduceCtorEq, Int.reduceAdd, Int.reduceLT, Int.reduceLE, Int.reduceGT, Int.reduceGE, Int.reduceEq, Int.reduceNe, Int.reduceBEq, Int.reduceBNe, Int.reduceToNat, Int.reduceNeg])
 try (refine ev ?_; try exact True.intro)
theorem qn8 (r : Rd) (hr : r.Ok) : ACall Try.prog 87 [.d (.ptr 0 0)] [rdO r] (.d (.bool (rBoolP r).1)) [rdO (rBoolP r).2] := by
 have h2 := yg r hr
 obtain ⟨hln, hpos⟩ := hr
 obtain ⟨b, pos, f⟩ := r
 simp only at hln hpos
 refine F87.go ?_
 cases f
 ·simp only [Bool.false_eq_true, if_false] at h2
  by_cases hlt : pos < b.length
  ·have hg : decide (((pos : Nat) : Int) ≥ ((b.length : Nat) : Int)) = false := by simp; omega
   have hw : IntKind.i64.wrap ((pos : Int) + 1) = ((pos + 1 : Nat) : Int) := by rw [xd (by unfold I64; omega)]; omega
   have hw2 : IntKind.i64.wrap ((pos : Int) + 1 - 1) = ((pos : Nat) : Int) := by rw [xd (by unfold I64; omega)]; omega
   rw [List.drop_eq_getElem_cons hlt, dBool] at h2
   try simp only [rdO, hg, xf b hlt, go_sem, Nat.reduceAdd, Nat.reduceMul, Nat.reduceSub, Nat.reduceEqDiff, Nat.reduceLT, Nat.reduceLeDiff, Nat.reduceBEq, reduceIte, reduceCtorEq, Int.reduceAdd, Int.reduceLT, Int.reduceLE, Int.reduceGT, Int.reduceGE, Int.reduceEq, Int.reduceNe, Int.reduceBEq, Int.reduceBNe, Int.reduceToNat, Int.reduceNeg]
   (repeat (with_reducible refine ob ?_))
   refine zb _ (fun h => ?_) (fun h => ?_)
   ·rw [if_pos (show b[pos].toNat > 1 by simp at h; omega)] at h2
    simp only at h2
    rw [h2]
    try (refine ev ?_; try exact True.intro)
   ·rw [if_neg (show ¬ b[pos].toNat > 1 by simp at h; omega)] at h2
    simp only [List.length_drop] at h2
    rw [show b.length - (b.length - (pos + 1)) = pos + 1 by omega] at h2
    rw [h2]
    try simp only [hw, go_sem, Nat.reduceAdd, Nat.reduceMul, Nat.reduceSub, Nat.reduceEqDiff, Nat.reduceLT, Nat.reduceLeDiff, Nat.reduceBEq, reduceIte, reduceCtorEq, Int.reduceAdd, Int.reduceLT, Int.reduceLE, Int.reduceGT, Int.reduceGE, Int.reduceEq, Int.reduceNe, Int.reduceBEq, Int.reduceBNe, Int.reduceToNat, Int.reduceNeg]
    try simp only [hw2, xf b hlt, go_sem, Nat.reduceAdd, Nat.reduceMul, Nat.reduceSub, Nat.reduceEqDiff, Nat.reduceLT, Nat.reduceLeDiff, Nat.reduceBEq, reduceIte, reduceCtorEq, Int.reduceAdd, Int.reduceLT, Int.reduceLE, Int.reduceGT, Int.reduceGE, Int.reduceEq, Int.reduceNe, Int.reduceBEq, Int.reduceBNe, Int.reduceToNat, Int.reduceNeg]
    (repeat (with_reducible refine ob ?_))
    try simp only [qq8, go_sem, Nat.reduceAdd, Nat.reduceMul, Nat.reduceSub, Nat.reduceEqDiff, Nat.reduceLT, Nat.reduceLeDiff, Nat.reduceBEq, reduceIte, reduceCtorEq, Int.reduceAdd, Int.reduceLT, Int.reduceLE, Int.reduceGT, Int.reduceGE, Int.reduceEq, Int.reduceNe, Int.reduceBEq, Int.reduceBNe, Int.reduceToNat, Int.reduceNeg]
  ·have hg : decide (((pos : Nat) : Int) ≥ ((b.length : Nat) : Int)) = true := by simp; omega
   have hgd : (byteRows b).getD pos [] = [] := by rw [List.getD_eq_getElem?_getD, List.getElem?_eq_none (by rw [qs]; omega)]; rfl
   rw [List.drop_of_length_le (by omega), dBool] at h2
   simp only at h2
   rw [h2]
   try simp only [rdO, hg, hgd, go_sem, Nat.reduceAdd, Nat.reduceMul, Nat.reduceSub, Nat.reduceEqDiff, Nat.reduceLT, Nat.reduceLeDiff, Nat.reduceBEq, reduceIte, reduceCtorEq, Int.reduceAdd, Int.reduceLT, Int.reduceLE, Int.reduceGT, Int.reduceGE, Int.reduceEq, Int.reduceNe, Int.reduceBEq, Int.reduceBNe, Int.reduceToNat, Int.reduceNeg]
   (repeat (with_reducible refine ob ?_)); refine yv ?_
   try (refine ev ?_; try exact True.intro)
 ·simp only [if_true] at h2
  rw [h2]
  try simp only [rdO, go_sem, Nat.reduceAdd, Nat.reduceMul, Nat.reduceSub, Nat.reduceEqDiff, Nat.reduceLT, Nat.reduceLeDiff, Nat.reduceBEq, reduceIte, reduceCtorEq, Int.reduceAdd, Int.reduceLT, Int.reduceLE, Int.reduceGT, Int.reduceGE, Int.reduceEq, Int.reduceNe, Int.reduceBEq, Int.reduceBNe, Int.reduceToNat, Int.reduceNeg]
  by_cases hlt : pos < b.length
  ·try simp only [xf b hlt, go_sem, Nat.reduceAdd, Nat.reduceMul, Nat.reduceSub, Nat.reduceEqDiff, Nat.reduceLT, Nat.reduceLeDiff, Nat.reduceBEq, reduceIte, reduceCtorEq, Int.reduceAdd, Int.reduceLT, Int.reduceLE, Int.reduceGT, Int.reduceGE, Int.reduceEq, Int.reduceNe, Int.reduceBEq, Int.reduceBNe, Int.reduceToNat, Int.reduceNeg]
   (repeat (with_reducible refine ob ?_)); refine yv ?_
   try (refine ev ?_; try exact True.intro)
  ·have hgd : (byteRows b).getD pos [] = [] := by rw [List.getD_eq_getElem?_getD, List.getElem?_eq_none (by rw [qs]; omega)]; rfl
   try simp only [hgd, go_sem, Nat.reduceAdd, Nat.reduceMul, Nat.reduceSub, Nat.reduceEqDiff, Nat.reduceLT, Nat.reduceLeDiff, Nat.reduceBEq, reduceIte, reduceCtorEq, Int.reduceAdd, Int.reduceLT, Int.reduceLE, Int.reduceGT, Int.reduceGE, Int.reduceEq, Int.reduceNe, Int.reduceBEq, Int.reduceBNe, Int.reduceToNat, Int.reduceNeg]
   (repeat (with_reducible refine ob ?_)); refine yv ?_
   try (refine ev ?_; try exact True.intro)
theorem qqy (r : Rd) (hr : r.Ok) : ACall Try.prog 89 [.d (.ptr 0 0)] [rdO r] (.d (.int .i64 (rEnd r))) [rdO r] := by
 obtain ⟨hln, hpos⟩ := hr
 obtain ⟨b, pos, f⟩ := r
 simp only at hln hpos
 refine F89.go ?_
 cases f
 ·try simp only [rdO, go_sem, Nat.reduceAdd, Nat.reduceMul, Nat.reduceSub, Nat.reduceEqDiff, Nat.reduceLT, Nat.reduceLeDiff, Nat.reduceBEq, reduceIte, reduceCtorEq, Int.reduceAdd, Int.reduceLT, Int.reduceLE, Int.reduceGT, Int.reduceGE, Int.reduceEq, Int.reduceNe, Int.reduceBEq, Int.reduceBNe, Int.reduceToNat, Int.reduceNeg]
  refine zb _ (fun h => ?_) (fun h => ?_)
  ·have hx : rEnd ⟨b, pos, false⟩ = 4 := by unfold rEnd; rw [if_pos]; simp at h ⊢; omega
   try simp only [hx, go_sem, Nat.reduceAdd, Nat.reduceMul, Nat.reduceSub, Nat.reduceEqDiff, Nat.reduceLT, Nat.reduceLeDiff, Nat.reduceBEq, reduceIte, reduceCtorEq, Int.reduceAdd, Int.reduceLT, Int.reduceLE, Int.reduceGT, Int.reduceGE, Int.reduceEq, Int.reduceNe, Int.reduceBEq, Int.reduceBNe, Int.reduceToNat, Int.reduceNeg]
  ·have hx : rEnd ⟨b, pos, false⟩ = 0 := by unfold rEnd; rw [if_neg]; simp at h ⊢; omega
   try simp only [hx, go_sem, Nat.reduceAdd, Nat.reduceMul, Nat.reduceSub, Nat.reduceEqDiff, Nat.reduceLT, Nat.reduceLeDiff, Nat.reduceBEq, reduceIte, reduceCtorEq, Int.reduceAdd, Int.reduceLT, Int.reduceLE, Int.reduceGT, Int.reduceGE, Int.reduceEq, Int.reduceNe, Int.reduceBEq, Int.reduceBNe, Int.reduceToNat, Int.reduceNeg]
 ·try simp only [rdO, go_sem, Nat.reduceAdd, Nat.reduceMul, Nat.reduceSub, Nat.reduceEqDiff, Nat.reduceLT, Nat.reduceLeDiff, Nat.reduceBEq, reduceIte, reduceCtorEq, Int.reduceAdd, Int.reduceLT, Int.reduceLE, Int.reduceGT, Int.reduceGE, Int.reduceEq, Int.reduceNe, Int.reduceBEq, Int.reduceBNe, Int.reduceToNat, Int.reduceNeg]
  (repeat (with_reducible refine ob ?_)); refine yv ?_
  try simp only [rEnd, go_sem, Nat.reduceAdd, Nat.reduceMul, Nat.reduceSub, Nat.reduceEqDiff, Nat.reduceLT, Nat.reduceLeDiff, Nat.reduceBEq, reduceIte, reduceCtorEq, Int.reduceAdd, Int.reduceLT, Int.reduceLE, Int.reduceGT, Int.reduceGE, Int.reduceEq, Int.reduceNe, Int.reduceBEq, Int.reduceBNe, Int.reduceToNat, Int.reduceNeg]
noncomputable section
set_option maxRecDepth 100000
def s33r0 : List SOper := [
 ⟨some 2, .mov (.k (.d .nilsl)), none⟩,
 ⟨some 3, .mov (.k (.d (.int .i64 0))), none⟩]
def s33r1 : List SOper := [
 ⟨some 11, .buildSlice false 1 0 [(.int .u8 0)] [], none⟩,
 ⟨some 12, .mov (.t 0), none⟩,
 ⟨some 13, .append false 1 1 (.t 11) (.t 12), none⟩,
 ⟨some 14, .build [.nilsl, (.int .i64 0), (.bool false)] [(0, 1, (.t 13))], none⟩,
 ⟨some 15, .box 1 (.t 14), none⟩,
 ⟨some 4, .mov (.t 15), none⟩]
def s33r2 : List SOper := [
 ⟨some 16, .mov (.t 4), none⟩,
 ⟨some 17, .call (.k (.d (.func (.func 85) [] []))) [(.t 16), (.k (.d (.int .i64 1))), (.k (.d (.int .i64 20)))], none⟩,
 ⟨some 5, .mov (.t 17), none⟩]
def s33r3 : List SOper := [
 ⟨some 6, .mov (.k (.d .nilsl)), none⟩]
def s33r4 : List SOper := [
 ⟨some 7, .mov (.k (.d (.int .i64 0))), none⟩]
def s33r5 : List SOper := [
 ⟨some 18, .mov (.t 7), none⟩,
 ⟨some 19, .mov (.t 5), none⟩,
 ⟨some 20, .bin .lss (.t 18) (.t 19), none⟩]
def s33r6 : List SOper := [
 ⟨some 23, .mov (.t 4), none⟩,
 ⟨some 24, .call (.k (.d (.func (.func 86) [] []))) [(.t 23), (.k (.d (.int .i64 40)))], none⟩,
 ⟨some 25, .mov (.t 4), none⟩,
 ⟨some 26, .call (.k (.d (.func (.func 87) [] []))) [(.t 25)], none⟩,
 ⟨some 27, .build [(.str []), (.bool false), .nilsl] [(0, 1, (.t 24)), (1, 1, (.t 26))], none⟩,
 ⟨some 8, .alloc 1 [(.d (.str [])), (.d (.bool false)), (.d .nilsl)], none⟩,
 ⟨none, .store (some 3) (.t 8) (.t 27), none⟩]
def s33r7 : List SOper := [
 ⟨some 28, .mov (.t 4), none⟩,
 ⟨some 29, .call (.k (.d (.func (.func 88) [] []))) [(.t 28), (.k (.d (.int .i64 900)))], none⟩,
 ⟨some 30, .faddr 2 (.t 8), none⟩,
 ⟨none, .store none (.t 30) (.t 29), none⟩]
def s33r8 : List SOper := [
 ⟨some 31, .mov (.t 6), none⟩,
 ⟨some 32, .load (some 3) (.t 8), none⟩,
 ⟨some 33, .buildSlice false 3 1 [(.str []), (.bool false), .nilsl] [(0, 3, (.t 32))], none⟩,
 ⟨some 34, .append false 3 48 (.t 31) (.t 33), none⟩,
 ⟨some 6, .mov (.t 34), none⟩]
def s33r9 : List SOper := [
 ⟨some 21, .mov (.t 7), none⟩,
 ⟨some 22, .bin .add (.t 21) (.k (.d (.int .i64 1))), none⟩,
 ⟨some 7, .mov (.t 22), none⟩]
def s33l10 : SCode := (.seq (.seq (.region s33r5 0 []) (.cond (.t 20) .skip (.exit 0))) (.seq (.block 1 (.seq (.region s33r6 1 []) (.seq (.region s33r7 0 []) (.region s33r8 0 [])))) (.region s33r9 0 [])))
theorem qza : CodeIs s33l10.eq_1 := qc s33l10.eq_1
def s33r11 : List SOper := [
 ⟨some 35, .mov (.t 4), none⟩,
 ⟨some 36, .call (.k (.d (.func (.func 89) [] []))) [(.t 35)], none⟩,
 ⟨some 37, .bin .neq (.t 36) (.k (.d (.int .i64 0))), none⟩]
def s33r12 : List SOper := [
 ⟨some 2, .mov (.k (.d .nilsl)), none⟩,
 ⟨some 3, .mov (.k (.d (.int .i64 4))), none⟩]
def s33r13 : List SOper := [
 ⟨some 39, .mov (.t 6), none⟩,
 ⟨some 40, .call (.k (.d (.func (.func 31) [] []))) [(.t 39)], none⟩,
 ⟨some 38, .mov (.t 40), none⟩,
 ⟨some 41, .extract 0 (.t 38), none⟩,
 ⟨some 42, .extract 1 (.t 38), none⟩,
 ⟨some 9, .mov (.t 41), none⟩,
 ⟨some 10, .mov (.t 42), none⟩]
def s33r14 : List SOper := [
 ⟨some 43, .mov (.t 10), none⟩,
 ⟨some 44, .bin .neq (.t 43) (.k (.d (.int .i64 0))), none⟩]
def s33r15 : List SOper := [
 ⟨some 2, .mov (.k (.d .nilsl)), none⟩,
 ⟨some 3, .mov (.k (.d (.int .i64 4))), none⟩]
def s33r16 : List SOper := [
 ⟨some 45, .mov (.t 6), none⟩,
 ⟨some 2, .mov (.t 45), none⟩,
 ⟨some 3, .mov (.k (.d (.int .i64 0))), none⟩]
def s33 : SCode := (.seq (.region s33r0 0 []) (.seq (.region s33r1 1 []) (.seq (.region s33r2 0 []) (.seq (.region s33r3 0 []) (.seq (.seq (.region s33r4 0 []) (.block 0 (.loop s33l10))) (.seq (.seq (.region s33r11 0 []) (.cond (.t 37) (.seq (.region s33r12 0 []) .ret) .skip)) (.seq (.seq (.region s33r13 0 []) (.seq (.region s33r14 0 []) (.cond (.t 44) (.seq (.region s33r15 0 []) .ret) .skip))) (.seq (.region s33r16 0 []) .ret))))))))
theorem e33 : CodeIs s33.eq_1 := qc s33.eq_1
theorem q7k : RegIs s33r0.eq_1 := qa
theorem q7l : RegIs s33r1.eq_1 := qa
theorem q7m : RegIs s33r2.eq_1 := qa
theorem q7n : RegIs s33r3.eq_1 := qa
theorem q7o : RegIs s33r4.eq_1 := qa
theorem q7p : RegIs s33r5.eq_1 := qa
theorem q7q : RegIs s33r6.eq_1 := qa
theorem q7r : RegIs s33r7.eq_1 := qa
theorem q7s : RegIs s33r8.eq_1 := qa
theorem q7t : RegIs s33r9.eq_1 := qa
theorem qzb : RegIs s33r11.eq_1 := qa
theorem qzc : RegIs s33r12.eq_1 := qa
theorem qzd : RegIs s33r13.eq_1 := qa
theorem qze : RegIs s33r14.eq_1 := qa
theorem qzf : RegIs s33r15.eq_1 := qa
theorem qzg : RegIs s33r16.eq_1 := qa
attribute [go_sem] q7k q7l q7m q7n q7o q7p q7q q7r q7s q7t qza qzb qzc qzd qze qzf qzg e33
theorem F33 : FnIs Try.prog 33 Try.f33 [] news s33 [.tmp 2, .tmp 3] 46 := xa follows Try.func33
def s34r0 : List SOper := [
 ⟨some 4, .mov (.k (.d (.bool false))), none⟩]
def s34r1 : List SOper := [
 ⟨some 6, .mov (.t 0), none⟩,
 ⟨some 7, .len (.t 6), none⟩,
 ⟨some 8, .mov (.t 1), none⟩,
 ⟨some 9, .len (.t 8), none⟩,
 ⟨some 10, .bin .neq (.t 7) (.t 9), none⟩]
def s34r2 : List SOper := [
 ⟨some 4, .mov (.k (.d (.bool false))), none⟩]
def s34r3 : List SOper := [
 ⟨some 5, .mov (.k (.d (.int .i64 0))), none⟩]
def s34r4 : List SOper := [
 ⟨some 11, .mov (.t 5), none⟩,
 ⟨some 12, .mov (.t 0), none⟩,
 ⟨some 13, .len (.t 12), none⟩,
 ⟨some 14, .bin .lss (.t 11) (.t 13), none⟩]
def s34r5 : List SOper := [
 ⟨some 17, .mov (.t 0), none⟩,
 ⟨some 18, .mov (.t 5), none⟩,
 ⟨some 19, .iaddr 3 (.t 17) (.t 18), none⟩,
 ⟨some 20, .faddr 0 (.t 19), none⟩,
 ⟨some 21, .load none (.t 20), none⟩,
 ⟨some 22, .mov (.t 1), none⟩,
 ⟨some 23, .mov (.t 5), none⟩,
 ⟨some 24, .iaddr 3 (.t 22) (.t 23), none⟩,
 ⟨some 25, .faddr 0 (.t 24), none⟩,
 ⟨some 26, .load none (.t 25), none⟩,
 ⟨some 27, .bin .neq (.t 21) (.t 26), none⟩,
 ⟨some 28, .mov (.t 27), none⟩,
 ⟨some 29, .mov (.t 0), some (28, false)⟩,
 ⟨some 30, .mov (.t 5), some (28, false)⟩,
 ⟨some 31, .iaddr 3 (.t 29) (.t 30), some (28, false)⟩,
 ⟨some 32, .faddr 1 (.t 31), some (28, false)⟩,
 ⟨some 33, .load none (.t 32), some (28, false)⟩,
 ⟨some 34, .mov (.t 1), some (28, false)⟩,
 ⟨some 35, .mov (.t 5), some (28, false)⟩,
 ⟨some 36, .iaddr 3 (.t 34) (.t 35), some (28, false)⟩,
 ⟨some 37, .faddr 1 (.t 36), some (28, false)⟩,
 ⟨some 38, .load none (.t 37), some (28, false)⟩,
 ⟨some 39, .eqb true (.t 33) (.t 38), some (28, false)⟩,
 ⟨some 40, .pick (.t 28) (.k (.d (.bool true))) (.t 39), none⟩,
 ⟨some 41, .mov (.t 40), none⟩,
 ⟨some 42, .mov (.t 0), some (41, false)⟩,
 ⟨some 43, .mov (.t 5), some (41, false)⟩,
 ⟨some 44, .iaddr 3 (.t 42) (.t 43), some (41, false)⟩,
 ⟨some 45, .faddr 2 (.t 44), some (41, false)⟩,
 ⟨some 46, .load none (.t 45), some (41, false)⟩,
 ⟨some 47, .b2s (.t 46), some (41, false)⟩,
 ⟨some 48, .mov (.t 1), some (41, false)⟩,
 ⟨some 49, .mov (.t 5), some (41, false)⟩,
 ⟨some 50, .iaddr 3 (.t 48) (.t 49), some (41, false)⟩,
 ⟨some 51, .faddr 2 (.t 50), some (41, false)⟩,
 ⟨some 52, .load none (.t 51), some (41, false)⟩,
 ⟨some 53, .b2s (.t 52), some (41, false)⟩,
 ⟨some 54, .bin .neq (.t 47) (.t 53), some (41, false)⟩,
 ⟨some 55, .pick (.t 41) (.k (.d (.bool true))) (.t 54), none⟩]
def s34r6 : List SOper := [
 ⟨some 4, .mov (.k (.d (.bool false))), none⟩]
def s34r7 : List SOper := [
 ⟨some 15, .mov (.t 5), none⟩,
 ⟨some 16, .bin .add (.t 15) (.k (.d (.int .i64 1))), none⟩,
 ⟨some 5, .mov (.t 16), none⟩]
def s34l8 : SCode := (.seq (.seq (.region s34r4 0 []) (.cond (.t 14) .skip (.exit 0))) (.seq (.block 1 (.seq (.region s34r5 0 []) (.cond (.t 55) (.seq (.region s34r6 0 []) .ret) .skip))) (.region s34r7 0 [])))
theorem q7u : CodeIs s34l8.eq_1 := qc s34l8.eq_1
def s34r9 : List SOper := [
 ⟨some 4, .mov (.k (.d (.bool true))), none⟩]
def s34 : SCode := (.seq (.region s34r0 0 []) (.seq (.seq (.region s34r1 0 []) (.cond (.t 10) (.seq (.region s34r2 0 []) .ret) .skip)) (.seq (.seq (.region s34r3 0 []) (.block 0 (.loop s34l8))) (.seq (.region s34r9 0 []) .ret))))
theorem e34 : CodeIs s34.eq_1 := qc s34.eq_1
theorem q7v : RegIs s34r0.eq_1 := qa
theorem q7w : RegIs s34r1.eq_1 := qa
theorem q7x : RegIs s34r2.eq_1 := qa
theorem q7y : RegIs s34r3.eq_1 := qa
theorem q7z : RegIs s34r4.eq_1 := qa
theorem q70 : RegIs s34r5.eq_1 := qa
theorem q71 : RegIs s34r6.eq_1 := qa
theorem q72 : RegIs s34r7.eq_1 := qa
theorem q73 : RegIs s34r9.eq_1 := qa
attribute [go_sem] q7v q7w q7x q7y q7z q70 q71 q72 q7u q73 e34
theorem F34 : FnIs Try.prog 34 Try.f34 [] news s34 [.tmp 4] 56 := xa follows Try.func34
def s35r0 : List SOper := [
 ⟨some 2, .mov (.k (.d .nilsl)), none⟩]
def s35r1 : List SOper := [
 ⟨some 3, .mov (.k (.d .nilsl)), none⟩]
def s35r2 : List SOper := [
 ⟨some 4, .mov (.k (.d (.int .i64 0))), none⟩]
def s35r3 : List SOper := [
 ⟨some 5, .mov (.t 4), none⟩,
 ⟨some 6, .mov (.t 0), none⟩,
 ⟨some 7, .len (.t 6), none⟩,
 ⟨some 8, .bin .lss (.t 5) (.t 7), none⟩]
def s35r4 : List SOper := [
 ⟨some 11, .mov (.t 3), none⟩,
 ⟨some 12, .mov (.t 0), none⟩,
 ⟨some 13, .mov (.t 4), none⟩,
 ⟨some 14, .iaddr 3 (.t 12) (.t 13), none⟩,
 ⟨some 15, .load (some 3) (.t 14), none⟩,
 ⟨some 16, .buildSlice false 3 1 [(.str []), (.bool false), .nilsl] [(0, 3, (.t 15))], none⟩,
 ⟨some 17, .append false 3 48 (.t 11) (.t 16), none⟩,
 ⟨some 3, .mov (.t 17), none⟩]
def s35r5 : List SOper := [
 ⟨some 9, .mov (.t 4), none⟩,
 ⟨some 10, .bin .add (.t 9) (.k (.d (.int .i64 1))), none⟩,
 ⟨some 4, .mov (.t 10), none⟩]
def s35l6 : SCode := (.seq (.seq (.region s35r3 0 []) (.cond (.t 8) .skip (.exit 0))) (.seq (.block 1 (.region s35r4 0 [])) (.region s35r5 0 [])))
theorem q74 : CodeIs s35l6.eq_1 := qc s35l6.eq_1
def s35r7 : List SOper := [
 ⟨some 18, .mov (.t 3), none⟩,
 ⟨some 2, .mov (.t 18), none⟩]
def s35 : SCode := (.seq (.region s35r0 0 []) (.seq (.region s35r1 0 []) (.seq (.seq (.region s35r2 0 []) (.block 0 (.loop s35l6))) (.seq (.region s35r7 0 []) .ret))))
theorem e35 : CodeIs s35.eq_1 := qc s35.eq_1
theorem q75 : RegIs s35r0.eq_1 := qa
theorem q76 : RegIs s35r1.eq_1 := qa
theorem q77 : RegIs s35r2.eq_1 := qa
theorem q78 : RegIs s35r3.eq_1 := qa
theorem q79 : RegIs s35r4.eq_1 := qa
theorem q8a : RegIs s35r5.eq_1 := qa
theorem q8b : RegIs s35r7.eq_1 := qa
attribute [go_sem] q75 q76 q77 q78 q79 q8a q74 q8b e35
theorem F35 : FnIs Try.prog 35 Try.f35 [] news s35 [.tmp 2] 19 := xa follows Try.func35
end
def Srdec (n : Nat) (r : Rd) (i : { i : Nat // i ≤ n }) : St :=
 ⟨[(4, true, .d (.ptr 0 0)), (5, true, .d (.int .i64 (n : Nat))), (6, true, .own 0 3 ((rOpsA i.val r).1.map encOp)), (7, true, .d (.int .i64 (i.val : Nat)))], [rdO (rOpsA i.val r).2], [0], 1⟩
set_option maxRecDepth 10000 in
theorem qal (b : List UInt8) (hb : b.length ≤ 1000000000) : ACall Try.prog 33 [.d (.sl 1 (byteRows b))] [] (.tup [.d (.sl 3 ((sDecode b).1.map encOp)), .d (.int .i64 (sDecode b).2)]) [] := by
 have hr0 : (⟨b, 0, false⟩ : Rd).Ok := ⟨hb, Nat.zero_le _⟩
 have hbd := qak ⟨b, 0, false⟩ 1 20 hr0
 have hin := k9 ⟨b, 0, false⟩ 1 20
 have hinv := (kc hr0 1 20).1
 unfold sDecode decRd
 generalize rBoundedP 1 20 ⟨b, 0, false⟩ = x at hbd hin hinv ⊢
 obtain ⟨n, r⟩ := x
 simp only at hin hinv
 have hn0 : n = ((n.toNat : Nat) : Int) := by omega
 generalize n.toNat = m at hn0
 subst hn0
 simp only [rdO, Int.ofNat_zero] at hbd
 refine F33.goT ?_
 try (refine ev ?_; try exact True.intro)
 (repeat (with_reducible refine ob ?_))
 (repeat (with_reducible refine ob ?_)); refine clO [0] F85 (hbd) ?_ (hfit := by first | exact ⟨qb, trivial⟩ | exact ⟨qb, qb, trivial⟩ | simp only [encOp, encEn, encStep, go_sem, Nat.reduceAdd, Nat.reduceMul, Nat.reduceSub, Nat.reduceEqDiff, Nat.reduceLT, Nat.reduceLeDiff, Nat.reduceBEq, reduceIte, reduceCtorEq, Int.reduceAdd, Int.reduceLT, Int.reduceLE, Int.reduceGT, Int.reduceGE, Int.reduceEq, Int.reduceNe, Int.reduceBEq, Int.reduceBNe, Int.reduceToNat, Int.reduceNeg])
 try (refine ev ?_; try exact True.intro)
 refine qn (Srdec m r) (fun i => m - i.val) ⟨0, Nat.zero_le _⟩ ?_ (fun i => ?_)
 ·try simp only [Srdec, rdO, rOpsA, List.map_nil, Int.ofNat_zero, go_sem, Nat.reduceAdd, Nat.reduceMul, Nat.reduceSub, Nat.reduceEqDiff, Nat.reduceLT, Nat.reduceLeDiff, Nat.reduceBEq, reduceIte, reduceCtorEq, Int.reduceAdd, Int.reduceLT, Int.reduceLE, Int.reduceGT, Int.reduceGE, Int.reduceEq, Int.reduceNe, Int.reduceBEq, Int.reduceBNe, Int.reduceToNat, Int.reduceNeg]
 obtain ⟨i, hi⟩ := i
 have hri := va hinv i
 try simp only [Srdec, rdO, go_sem, Nat.reduceAdd, Nat.reduceMul, Nat.reduceSub, Nat.reduceEqDiff, Nat.reduceLT, Nat.reduceLeDiff, Nat.reduceBEq, reduceIte, reduceCtorEq, Int.reduceAdd, Int.reduceLT, Int.reduceLE, Int.reduceGT, Int.reduceGE, Int.reduceEq, Int.reduceNe, Int.reduceBEq, Int.reduceBNe, Int.reduceToNat, Int.reduceNeg]
 (repeat (with_reducible refine ob ?_)); refine zb _ (fun h => ?_) (fun h => ?_)
 ·have hil : i < m := by simp at h; omega
  have hT := qn7 (rOpsA i r).2 40 hri.1 (by decide)
  have hiT := ke hri.1 40
  have hB := qn8 _ hiT.1
  have hiB := yz hiT.1
  have hV := qdt _ 900 hiB.1 (by decide)
  simp only [rdO] at hT hB hV
  try (refine ev ?_; try exact True.intro)
  (repeat (with_reducible refine ob ?_)); refine clO [0] F86 (hT) ?_ (hfit := by first | exact ⟨qb, trivial⟩ | exact ⟨qb, qb, trivial⟩ | simp only [encOp, encEn, encStep, go_sem, Nat.reduceAdd, Nat.reduceMul, Nat.reduceSub, Nat.reduceEqDiff, Nat.reduceLT, Nat.reduceLeDiff, Nat.reduceBEq, reduceIte, reduceCtorEq, Int.reduceAdd, Int.reduceLT, Int.reduceLE, Int.reduceGT, Int.reduceGE, Int.reduceEq, Int.reduceNe, Int.reduceBEq, Int.reduceBNe, Int.reduceToNat, Int.reduceNeg])
  try (refine ev ?_; try exact True.intro)
  (repeat (with_reducible refine ob ?_)); refine clO [0] F87 (hB) ?_ (hfit := by first | exact ⟨qb, trivial⟩ | exact ⟨qb, qb, trivial⟩ | simp only [encOp, encEn, encStep, go_sem, Nat.reduceAdd, Nat.reduceMul, Nat.reduceSub, Nat.reduceEqDiff, Nat.reduceLT, Nat.reduceLeDiff, Nat.reduceBEq, reduceIte, reduceCtorEq, Int.reduceAdd, Int.reduceLT, Int.reduceLE, Int.reduceGT, Int.reduceGE, Int.reduceEq, Int.reduceNe, Int.reduceBEq, Int.reduceBNe, Int.reduceToNat, Int.reduceNeg])
  try (refine ev ?_; try exact True.intro)
  (repeat (with_reducible refine ob ?_)); refine clO [0] F88 (hV) ?_ (hfit := by first | exact ⟨qb, trivial⟩ | exact ⟨qb, qb, trivial⟩ | simp only [encOp, encEn, encStep, go_sem, Nat.reduceAdd, Nat.reduceMul, Nat.reduceSub, Nat.reduceEqDiff, Nat.reduceLT, Nat.reduceLeDiff, Nat.reduceBEq, reduceIte, reduceCtorEq, Int.reduceAdd, Int.reduceLT, Int.reduceLE, Int.reduceGT, Int.reduceGE, Int.reduceEq, Int.reduceNe, Int.reduceBEq, Int.reduceBNe, Int.reduceToNat, Int.reduceNeg])
  try (refine ev ?_; try exact True.intro)
  (repeat (with_reducible refine ob ?_))
  refine ⟨⟨i + 1, hil⟩, ?_, by dsimp only; omega⟩
  try simp only [Srdec, rdO, rOpsA, rOp, List.map_append, List.map_cons, List.map_nil, encOp, ql (show i < 9223372036854775807 by omega), go_sem, Nat.reduceAdd, Nat.reduceMul, Nat.reduceSub, Nat.reduceEqDiff, Nat.reduceLT, Nat.reduceLeDiff, Nat.reduceBEq, reduceIte, reduceCtorEq, Int.reduceAdd, Int.reduceLT, Int.reduceLE, Int.reduceGT, Int.reduceGE, Int.reduceEq, Int.reduceNe, Int.reduceBEq, Int.reduceBNe, Int.reduceToNat, Int.reduceNeg]
 ·have hil : i = m := by simp at h; omega
  subst hil
  have hE := qqy (rOpsA i r).2 hri.1
  simp only [rdO] at hE
  try (refine ev ?_; try exact True.intro)
  (repeat (with_reducible refine ob ?_)); refine clO [0] F89 (hE) ?_ (hfit := by first | exact ⟨qb, trivial⟩ | exact ⟨qb, qb, trivial⟩ | simp only [encOp, encEn, encStep, go_sem, Nat.reduceAdd, Nat.reduceMul, Nat.reduceSub, Nat.reduceEqDiff, Nat.reduceLT, Nat.reduceLeDiff, Nat.reduceBEq, reduceIte, reduceCtorEq, Int.reduceAdd, Int.reduceLT, Int.reduceLE, Int.reduceGT, Int.reduceGE, Int.reduceEq, Int.reduceNe, Int.reduceBEq, Int.reduceBNe, Int.reduceToNat, Int.reduceNeg])
  try (refine ev ?_; try exact True.intro)
  refine zb _ (fun h => ?_) (fun h => ?_)
  ·rw [if_pos (show rEnd (rOpsA i r).2 ≠ 0 by simpa using h)]
   try (refine ev ?_; try exact True.intro)
  ·rw [if_neg (show ¬ rEnd (rOpsA i r).2 ≠ 0 by simpa using h)]
   try (refine ev ?_; try exact True.intro)
   (repeat (with_reducible refine ob ?_)); first | refine cl F31 (ji (rOpsA i r).1 (by omega)) ?_ | refine clF F31 (ji (rOpsA i r).1 (by omega)) (fun _ => by simp only [encOp, encEn, encStep, go_sem, Nat.reduceAdd, Nat.reduceMul, Nat.reduceSub, Nat.reduceEqDiff, Nat.reduceLT, Nat.reduceLeDiff, Nat.reduceBEq, reduceIte, reduceCtorEq, Int.reduceAdd, Int.reduceLT, Int.reduceLE, Int.reduceGT, Int.reduceGE, Int.reduceEq, Int.reduceNe, Int.reduceBEq, Int.reduceBNe, Int.reduceToNat, Int.reduceNeg]) ?_
   try (refine ev ?_; try exact True.intro)
   refine zb _ (fun h => ?_) (fun h => ?_)
   ·rw [if_pos (show (sEncode (rOpsA i r).1).2 ≠ 0 by simpa using h)]
    try (refine ev ?_; try exact True.intro)
   ·rw [if_neg (show ¬ (sEncode (rOpsA i r).1).2 ≠ 0 by simpa using h)]
    try (refine ev ?_; try exact True.intro)
def Sfrom48 (l : List OpS) (i : { i : Nat // i ≤ l.length }) : St :=
 ⟨[(0, true, .d (.sl 3 (l.map encOp))), (3, true, .own 0 3 ((l.take i.val).map encOp)), (4, true, .d (.int .i64 (i.val : Nat)))], [], [0], 1⟩
theorem yh (l : List OpS) (hl : l.length ≤ 100000) : ACall Try.prog 35 [.d (.sl 3 (l.map encOp))] [] (.d (.sl 3 (l.map encOp))) [] := by
 refine F35.go ?_
 try (refine ev ?_; try exact True.intro)
 refine qn (Sfrom48 l) (fun i => l.length - i.val) ⟨0, Nat.zero_le _⟩ ?_ (fun i => ?_)
 ·try simp only [Sfrom48, List.take_zero, go_sem, Nat.reduceAdd, Nat.reduceMul, Nat.reduceSub, Nat.reduceEqDiff, Nat.reduceLT, Nat.reduceLeDiff, Nat.reduceBEq, reduceIte, reduceCtorEq, Int.reduceAdd, Int.reduceLT, Int.reduceLE, Int.reduceGT, Int.reduceGE, Int.reduceEq, Int.reduceNe, Int.reduceBEq, Int.reduceBNe, Int.reduceToNat, Int.reduceNeg]
 obtain ⟨i, hi⟩ := i
 try simp only [Sfrom48, go_sem, Nat.reduceAdd, Nat.reduceMul, Nat.reduceSub, Nat.reduceEqDiff, Nat.reduceLT, Nat.reduceLeDiff, Nat.reduceBEq, reduceIte, reduceCtorEq, Int.reduceAdd, Int.reduceLT, Int.reduceLE, Int.reduceGT, Int.reduceGE, Int.reduceEq, Int.reduceNe, Int.reduceBEq, Int.reduceBNe, Int.reduceToNat, Int.reduceNeg]
 (repeat (with_reducible refine ob ?_)); refine zb _ (fun h => ?_) (fun h => ?_)
 ·have hil : i < l.length := by simpa using h
  try simp only [qw encOp l hil, encOp, go_sem, Nat.reduceAdd, Nat.reduceMul, Nat.reduceSub, Nat.reduceEqDiff, Nat.reduceLT, Nat.reduceLeDiff, Nat.reduceBEq, reduceIte, reduceCtorEq, Int.reduceAdd, Int.reduceLT, Int.reduceLE, Int.reduceGT, Int.reduceGE, Int.reduceEq, Int.reduceNe, Int.reduceBEq, Int.reduceBNe, Int.reduceToNat, Int.reduceNeg]
  (repeat (with_reducible refine ob ?_))
  refine ⟨⟨i + 1, hil⟩, ?_, by dsimp only; omega⟩
  try simp only [Sfrom48, kb encOp l hil, encOp, ql (show i < 9223372036854775807 by omega), go_sem, Nat.reduceAdd, Nat.reduceMul, Nat.reduceSub, Nat.reduceEqDiff, Nat.reduceLT, Nat.reduceLeDiff, Nat.reduceBEq, reduceIte, reduceCtorEq, Int.reduceAdd, Int.reduceLT, Int.reduceLE, Int.reduceGT, Int.reduceGE, Int.reduceEq, Int.reduceNe, Int.reduceBEq, Int.reduceBNe, Int.reduceToNat, Int.reduceNeg]
 ·have hil : i = l.length := by
   have : l.length ≤ i := by simpa using h
   omega
  subst hil
  try simp only [List.take_length, go_sem, Nat.reduceAdd, Nat.reduceMul, Nat.reduceSub, Nat.reduceEqDiff, Nat.reduceLT, Nat.reduceLeDiff, Nat.reduceBEq, reduceIte, reduceCtorEq, Int.reduceAdd, Int.reduceLT, Int.reduceLE, Int.reduceGT, Int.reduceGE, Int.reduceEq, Int.reduceNe, Int.reduceBEq, Int.reduceBNe, Int.reduceToNat, Int.reduceNeg]
def SsameOps (l : List OpS) (i : { i : Nat // i ≤ l.length }) : St :=
 ⟨[(0, true, .d (.sl 3 (l.map encOp))), (1, true, .d (.sl 3 (l.map encOp))), (5, true, .d (.int .i64 (i.val : Nat)))], [], [], 1⟩
set_option maxRecDepth 10000 in
theorem vj (l : List OpS) (hl : l.length ≤ 100000) : ACall Try.prog 34 [.d (.sl 3 (l.map encOp)), .d (.sl 3 (l.map encOp))] [] (.d (.bool true)) [] := by
 refine F34.go ?_
 try (refine ev ?_; try exact True.intro)
 (repeat (with_reducible refine ob ?_)); refine no_ ?_
 try (refine ev ?_; try exact True.intro)
 refine qn (SsameOps l) (fun i => l.length - i.val) ⟨0, Nat.zero_le _⟩ ?_ (fun i => ?_)
 ·try simp only [SsameOps, go_sem, Nat.reduceAdd, Nat.reduceMul, Nat.reduceSub, Nat.reduceEqDiff, Nat.reduceLT, Nat.reduceLeDiff, Nat.reduceBEq, reduceIte, reduceCtorEq, Int.reduceAdd, Int.reduceLT, Int.reduceLE, Int.reduceGT, Int.reduceGE, Int.reduceEq, Int.reduceNe, Int.reduceBEq, Int.reduceBNe, Int.reduceToNat, Int.reduceNeg]
 obtain ⟨i, hi⟩ := i
 try simp only [SsameOps, go_sem, Nat.reduceAdd, Nat.reduceMul, Nat.reduceSub, Nat.reduceEqDiff, Nat.reduceLT, Nat.reduceLeDiff, Nat.reduceBEq, reduceIte, reduceCtorEq, Int.reduceAdd, Int.reduceLT, Int.reduceLE, Int.reduceGT, Int.reduceGE, Int.reduceEq, Int.reduceNe, Int.reduceBEq, Int.reduceBNe, Int.reduceToNat, Int.reduceNeg]
 (repeat (with_reducible refine ob ?_)); refine zb _ (fun h => ?_) (fun h => ?_)
 ·have hil : i < l.length := by simpa using h
  try simp only [qw encOp l hil, encOp, go_sem, Nat.reduceAdd, Nat.reduceMul, Nat.reduceSub, Nat.reduceEqDiff, Nat.reduceLT, Nat.reduceLeDiff, Nat.reduceBEq, reduceIte, reduceCtorEq, Int.reduceAdd, Int.reduceLT, Int.reduceLE, Int.reduceGT, Int.reduceGE, Int.reduceEq, Int.reduceNe, Int.reduceBEq, Int.reduceBNe, Int.reduceToNat, Int.reduceNeg]
  (repeat (with_reducible refine ob ?_))
  (repeat (with_reducible refine ob ?_)); refine no_ ?_
  try (refine ev ?_; try exact True.intro)
  refine ⟨⟨i + 1, hil⟩, ?_, by dsimp only; omega⟩
  try simp only [SsameOps, ql (show i < 9223372036854775807 by omega), go_sem, Nat.reduceAdd, Nat.reduceMul, Nat.reduceSub, Nat.reduceEqDiff, Nat.reduceLT, Nat.reduceLeDiff, Nat.reduceBEq, reduceIte, reduceCtorEq, Int.reduceAdd, Int.reduceLT, Int.reduceLE, Int.reduceGT, Int.reduceGE, Int.reduceEq, Int.reduceNe, Int.reduceBEq, Int.reduceBNe, Int.reduceToNat, Int.reduceNeg]
 ·try (refine ev ?_; try exact True.intro)
end Go.Proofs.Ytinnaedmdoengaa
namespace Go.Proofs.Ytinnaedmdoengaa
open Go.Abs
set_option linter.unusedSimpArgs false
set_option linter.unusedVariables false
theorem qzh (v : Nat) : zz (unz v) = v := by
 unfold zz unz
 split <;> split <;> omega
theorem qzi (n : Int) : unz (zz n) = n := by
 unfold zz unz
 split <;> split <;> omega
theorem toNat_ofNat {n : Nat} (h : n < 256) : (UInt8.ofNat n).toNat = n := by simp [UInt8.toNat_ofNat]; omega
theorem qzj (k : Nat) : ∀ (j u v : Nat) (l : List UInt8), j + (k + 1) = 10 → v * 128 ^ j < 18446744073709551616 → (v = 0 → j = 0) → dG (k + 1) j u (vbytes v ++ l) = some (unz (u + v * 128 ^ j), l) := by
 have small : ∀ (k j u v : Nat) (l : List UInt8), v < 128 → v * 128 ^ j < 18446744073709551616 → (v = 0 → j = 0) → dG (k + 1) j u (vbytes v ++ l) = some (unz (u + v * 128 ^ j), l) := by
  intro k j u v l hv hb h0
  rw [z6 hv, List.singleton_append, dG, toNat_ofNat (by omega), if_pos hv, if_neg]
  simp only [Bool.or_eq_true, Bool.and_eq_true, beq_iff_eq, decide_eq_true_eq, not_or, not_and]
  refine ⟨fun h => by have := h0 h; omega, fun h => ?_⟩
  subst h
  have e : (128 : Nat) ^ 9 = 9223372036854775808 := by decide
  rw [e] at hb; omega
 induction k with
 | zero =>
  intro j u v l hj hb h0
  refine small 0 j u v l ?_ hb h0
  have : j = 9 := by omega
  subst this
  have e : (128 : Nat) ^ 9 = 9223372036854775808 := by decide
  rw [e] at hb; omega
 | succ k ih =>
  intro j u v l hj hb h0
  by_cases hv : v < 128
  ·exact small _ j u v l hv hb h0
  ·have hm : v % 128 + 128 < 256 := by omega
   rw [zy hv, List.cons_append, dG, toNat_ofNat hm, if_neg (by omega)]
   have e1 : (v % 128 + 128) % 128 = v % 128 := by omega
   have e2 : v % 128 * 128 ^ j + v / 128 * 128 ^ (j + 1) = v * 128 ^ j := by
    rw [Nat.pow_succ, Nat.mul_comm (128 ^ j) 128, ← Nat.mul_assoc, ← Nat.add_mul]
    congr 1; omega
   have hle : v / 128 * 128 ^ (j + 1) ≤ v * 128 ^ j := by omega
   rw [e1, ih (j + 1) _ (v / 128) l (by omega) (by omega) (by omega)]
   rw [Nat.add_assoc, e2]
theorem qjo {n : Int} (hn : I64 n) (l : List UInt8) : dInt (wInt n ++ l) = some (n, l) := by
 have := qzj 9 0 0 (zz n) l rfl (by rw [Nat.pow_zero, Nat.mul_one]; exact qqa hn) (fun _ => rfl)
 rw [Nat.pow_zero, Nat.mul_one, Nat.zero_add, qzi] at this
 exact this
theorem qrd : ∀ (k j u : Nat) {l0 : List UInt8} {x : Int} {l : List UInt8}, j + k = 10 → dG k j u l0 = some (x, l) →
  ∃ v, x = unz (u + v * 128 ^ j) ∧ l0 = vbytes v ++ l ∧ (v = 0 → j = 0) ∧ v * 128 ^ j < 18446744073709551616
 | 0, j, u, l0, x, l, hj, h => by simp [dG] at h
 | k + 1, j, u, [], x, l, hj, h => by simp [dG] at h
 | k + 1, j, u, c :: l0, x, l, hj, h => by
  rw [dG] at h
  have hlt := k7 c
  split at h
  ·rename_i hc
   split at h
   ·cases h
   ·rename_i hb
    cases h
    simp only [Bool.or_eq_true, Bool.and_eq_true, beq_iff_eq, decide_eq_true_eq, not_or, not_and] at hb
    refine ⟨c.toNat, rfl, ?_, fun h => by have := hb.1 h; omega, ?_⟩
    ·rw [z6 hc, List.singleton_append]
     congr 1
     exact (UInt8.ofNat_toNat).symm
    ·rcases Nat.lt_or_ge j 9 with h9 | h9
     ·have hp := vb (j := j) (by omega)
      rw [Nat.pow_succ] at hp
      have : c.toNat * 128 ^ j ≤ 127 * 128 ^ j := Nat.mul_le_mul_right _ (by omega)
      omega
     ·have : j = 9 := by omega
      subst this
      have := hb.2 rfl
      have e : (128 : Nat) ^ 9 = 9223372036854775808 := by decide
      rw [e]; omega
  ·rename_i hc
   obtain ⟨v, h1, h2, h3, h4⟩ := qrd k (j + 1) _ (by omega) h
   have e2 : c.toNat % 128 * 128 ^ j + v * 128 ^ (j + 1) = (v * 128 + c.toNat % 128) * 128 ^ j := by
    rw [Nat.pow_succ, Nat.mul_comm (128 ^ j) 128, ← Nat.mul_assoc, ← Nat.add_mul, Nat.add_comm]
   have hv : v ≠ 0 := fun h => by have := h3 h; omega
   have hk : k ≠ 0 := by
    rintro rfl
    simp [dG] at h
   refine ⟨v * 128 + c.toNat % 128, by rw [h1, Nat.add_assoc, e2], ?_, fun h => by omega, ?_⟩
   ·rw [h2, zy (u := v * 128 + c.toNat % 128) (by omega), List.cons_append]
    have e3 : (v * 128 + c.toNat % 128) % 128 + 128 = c.toNat := by omega
    have e4 : (v * 128 + c.toNat % 128) / 128 = v := by omega
    rw [e3, e4]
    congr 1
    exact (UInt8.ofNat_toNat).symm
   ·rw [← e2]
    have hp := vb (j := j) (by omega)
    have h5 : c.toNat % 128 * 128 ^ j ≤ 127 * 128 ^ j := Nat.mul_le_mul_right _ (by omega)
    have h6 : v * 128 ^ (j + 1) % 128 ^ (j + 1) = 0 := Nat.mul_mod_left _ _
    have h7 : (18446744073709551616 : Nat) % 128 ^ (j + 1) = 0 := by
     have : (18446744073709551616 : Nat) = 2 * 128 ^ 9 := by decide
     rw [this, ← Nat.pow_sub_mul_pow 128 (show j + 1 ≤ 9 by omega), ← Nat.mul_assoc]
     exact Nat.mul_mod_left _ _
    have h8 : 127 * 128 ^ j < 128 ^ (j + 1) := by rw [Nat.pow_succ]; have : 0 < 128 ^ j := Nat.pow_pos (by decide); omega
    generalize hP : 128 ^ (j + 1) = P at h4 h6 h7 h8 ⊢
    obtain ⟨q, hq⟩ := Nat.dvd_of_mod_eq_zero h7
    rw [hq] at h4 ⊢
    have : v < q := by
     rw [Nat.mul_comm P q] at h4
     exact Nat.lt_of_mul_lt_mul_right h4
    have : (v + 1) * P ≤ q * P := Nat.mul_le_mul_right _ this
    rw [Nat.add_mul, Nat.one_mul] at this
    rw [Nat.mul_comm P q]
    omega
theorem qjp {l0 : List UInt8} {n : Int} {l : List UInt8} (h : dInt l0 = some (n, l)) : I64 n ∧ l0 = wInt n ++ l := by
 obtain ⟨v, h1, h2, _, h4⟩ := qrd 10 0 0 rfl h
 rw [Nat.pow_zero, Nat.mul_one] at h1 h4
 rw [Nat.zero_add] at h1
 subst h1
 refine ⟨?_, by rw [wInt, qzh]; exact h2⟩
 unfold I64 unz
 split <;> omega
theorem qdu {most : Int} {s : List UInt8} (hs : (s.length : Int) ≤ most) (hm : most ≤ 1000000000) (l : List UInt8) : dBytes most (wText s ++ l) = some (s, l) := by
 unfold dBytes dBounded wText
 rw [List.append_assoc, qjo (qz (by omega))]
 simp only
 rw [if_neg (by omega)]
 simp only [Int.toNat_natCast, List.length_append]
 rw [if_neg (by omega), List.take_left, List.drop_left]
theorem qdv {most : Int} {l0 s l : List UInt8} (h : dBytes most l0 = some (s, l)) : l0 = wText s ++ l ∧ (s.length : Int) ≤ most := by
 unfold dBytes dBounded at h
 cases hd : dInt l0 with
 | none => rw [hd] at h; cases h
 | some x =>
  obtain ⟨n, l1⟩ := x
  rw [hd] at h
  simp only at h
  by_cases hn : n < 0 ∨ n > most
  ·rw [if_pos hn] at h; cases h
  ·rw [if_neg hn] at h
   simp only at h
   split at h
   ·cases h
   ·rename_i hl
    cases h
    obtain ⟨_, h1⟩ := qjp hd
    have e : ((l1.take n.toNat).length : Int) = n := by rw [List.length_take]; omega
    refine ⟨?_, by omega⟩
    unfold wText
    rw [e, List.append_assoc, List.take_append_drop]
    exact h1
theorem qn9 (v : Bool) (l : List UInt8) : dBool ([if v then 1 else 0] ++ l) = some (v, l) := by cases v <;> rfl
theorem qoa {l0 : List UInt8} {v : Bool} {l : List UInt8} (h : dBool l0 = some (v, l)) : l0 = [if v then 1 else 0] ++ l := by
 cases l0 with
 | nil => cases h
 | cons c l1 =>
  rw [dBool] at h
  split at h
  ·cases h
  ·rename_i hc
   cases h
   have : c.toNat = 0 ∨ c.toNat = 1 := by omega
   rcases this with h | h
   ·have : c = 0 := UInt8.toNat_inj.1 h
    subst this; rfl
   ·have : c = 1 := UInt8.toNat_inj.1 h
    subst this; rfl
def dOp (l0 : List UInt8) : Option (OpS × List UInt8) := match dBytes 40 l0 with
 | none => none
 | some (k, l1) => match dBool l1 with
  | none => none
  | some (d, l2) => match dBytes 900 l2 with
   | none => none
   | some (v, l3) => some (⟨k, d, v⟩, l3)
theorem qs2 {o : OpS} (ho : sProper o = true) (l : List UInt8) : dOp (wOp o ++ l) = some (o, l) := by
 obtain ⟨_, h1, h2, _⟩ := x8.1 ho
 unfold dOp wOp
 rw [List.append_assoc, List.append_assoc, qdu (by omega) (by omega)]
 simp only
 rw [qn9]
 simp only
 rw [qdu (by omega) (by omega)]
theorem qob {l0 : List UInt8} {o : OpS} {l : List UInt8} (h : dOp l0 = some (o, l)) : l0 = wOp o ++ l := by
 unfold dOp at h
 cases h1 : dBytes 40 l0 with
 | none => rw [h1] at h; cases h
 | some x =>
  obtain ⟨k, l1⟩ := x
  rw [h1] at h
  simp only at h
  cases h2 : dBool l1 with
  | none => rw [h2] at h; cases h
  | some x =>
   obtain ⟨d, l2⟩ := x
   rw [h2] at h
   simp only at h
   cases h3 : dBytes 900 l2 with
   | none => rw [h3] at h; cases h
   | some x =>
    obtain ⟨v, l3⟩ := x
    rw [h3] at h
    cases h
    rw [(qdv h1).1, qoa h2, (qdv h3).1, wOp, List.append_assoc, List.append_assoc]
def dOpsA : Nat → List UInt8 → Option (List OpS × List UInt8)
 | 0, l => some ([], l)
 | n + 1, l0 => match dOpsA n l0 with
  | none => none
  | some (ops, l) => match dOp l with
   | none => none
   | some (o, l') => some (ops ++ [o], l')
theorem qg9 (l : List OpS) (hp : ∀ o ∈ l, sProper o = true) (rest : List UInt8) : ∀ k, k ≤ l.length → dOpsA k (l.flatMap wOp ++ rest) = some (l.take k, (l.drop k).flatMap wOp ++ rest)
 | 0, _ => rfl
 | k + 1, hk => by
  rw [dOpsA, qg9 l hp rest k (by omega)]
  simp only
  rw [List.drop_eq_getElem_cons (by omega), List.flatMap_cons, List.append_assoc, qs2 (hp _ (List.getElem_mem (by omega)))]
  simp only
  rw [List.take_succ_eq_append_getElem (by omega)]
theorem yi : ∀ (n : Nat) {l0 : List UInt8} {ops : List OpS} {l : List UInt8}, dOpsA n l0 = some (ops, l) → l0 = ops.flatMap wOp ++ l ∧ ops.length = n
 | 0, l0, ops, l, h => by cases h; exact ⟨rfl, rfl⟩
 | n + 1, l0, ops, l, h => by
  rw [dOpsA] at h
  cases h1 : dOpsA n l0 with
  | none => rw [h1] at h; cases h
  | some x =>
   obtain ⟨ops1, l1⟩ := x
   rw [h1] at h
   simp only at h
   cases h2 : dOp l1 with
   | none => rw [h2] at h; cases h
   | some x =>
    obtain ⟨o, l2⟩ := x
    rw [h2] at h
    cases h
    obtain ⟨e1, e2⟩ := yi n h1
    rw [e1, qob h2]
    simp [e2]
theorem qqz {r : Rd} (hr : r.Ok) (hf : r.failed = true) : (rOp r).2.failed = true := by
 have h1 := xz 40 r hr
 rw [if_pos hf] at h1
 have h2 := yg r hr
 rw [if_pos hf] at h2
 have h3 := xz 900 r hr
 rw [if_pos hf] at h3
 simp only [rOp, h1, h2, h3, hf]
theorem qe0 {α : Type} {b : List UInt8} {v : α} {l : List UInt8} {x : α × Rd} (h : Got (some (v, l)) b x) : x = (v, ⟨b, b.length - l.length, false⟩) := h
theorem y4 {α : Type} {z : α} {f : Rd → α × Rd} {d : List UInt8 → Option (α × List UInt8)} (hd : Reads z f d) {r : Rd} (hr : r.Ok) (hf : r.failed = false) {v : α} {l : List UInt8} (h : d (r.b.drop r.pos) = some (v, l)) : f r = (v, ⟨r.b, r.b.length - l.length, false⟩) := by
 rw [hd r hr, if_neg (by simp [hf]), h]
theorem y5 {α : Type} {z : α} {f : Rd → α × Rd} {d : List UInt8 → Option (α × List UInt8)} (hd : Reads z f d) {r : Rd} (hr : r.Ok) (hf : r.failed = false) (h : d (r.b.drop r.pos) = none) : (f r).2 = ⟨r.b, r.pos, true⟩ := by
 rw [hd r hr, if_neg (by simp [hf]), h]
theorem y6 {α : Type} {z : α} {f : Rd → α × Rd} {d : List UInt8 → Option (α × List UInt8)} (hd : Reads z f d) {r : Rd} (hr : r.Ok) (hf : r.failed = true) : f r = (z, r) := by
 rw [hd r hr, if_pos hf]
theorem q8c {r : Rd} (hr : r.Ok) (hf : r.failed = false) : Got (dOp (r.b.drop r.pos)) r.b (rOp r) := by
 unfold dOp
 cases h1 : dBytes 40 (r.b.drop r.pos) with
 | none =>
  have e1 := y5 (xz 40) hr hf h1
  have hr1 : (⟨r.b, r.pos, true⟩ : Rd).Ok := ⟨hr.len, hr.pos⟩
  simp only [Got, rOp, e1, y6 yg hr1 rfl, y6 (xz 900) hr1 rfl]
 | some x =>
  obtain ⟨k, l1⟩ := x
  have e1 := y4 (xz 40) hr hf h1
  obtain ⟨p1, hp1⟩ := qi0 _ _ _ _ h1
  obtain ⟨t1, t2⟩ := jp hr.pos hp1
  have hr1 : (⟨r.b, r.b.length - l1.length, false⟩ : Rd).Ok := ⟨hr.len, Nat.sub_le _ _⟩
  simp only
  cases h2 : dBool l1 with
  | none =>
   have e2 := y5 yg hr1 rfl (by simp only [t1]; exact h2)
   simp only at e2
   have hr2 : (⟨r.b, r.b.length - l1.length, true⟩ : Rd).Ok := ⟨hr.len, Nat.sub_le _ _⟩
   simp only [Got, rOp, e1, e2, y6 (xz 900) hr2 rfl]
  | some x =>
   obtain ⟨d, l2⟩ := x
   have e2 := y4 yg hr1 rfl (v := d) (l := l2) (by simp only [t1]; exact h2)
   simp only at e2
   obtain ⟨p2, hp2⟩ := qlh _ _ _ h2
   obtain ⟨t3, t4⟩ := jp (b := r.b) (p := r.b.length - l1.length) (Nat.sub_le _ _) (by rw [t1]; exact hp2)
   have hr2 : (⟨r.b, r.b.length - l2.length, false⟩ : Rd).Ok := ⟨hr.len, Nat.sub_le _ _⟩
   simp only
   cases h3 : dBytes 900 l2 with
   | none =>
    have e3 := y5 (xz 900) hr2 rfl (by simp only [t3]; exact h3)
    simp only [Got, rOp, e1, e2, e3]
   | some x =>
    obtain ⟨v, l3⟩ := x
    have e3 := y4 (xz 900) hr2 rfl (v := v) (l := l3) (by simp only [t3]; exact h3)
    simp only [Got, rOp, e1, e2, e3]
theorem qz4 : Tails dOp := fun _ _ _ h => ⟨_, qob h⟩
theorem qoc {r : Rd} (hr : r.Ok) (hf : r.failed = false) : ∀ n, Got (dOpsA n (r.b.drop r.pos)) r.b (rOpsA n r)
 | 0 => by
  have := hr.pos
  simp only [Got, dOpsA, rOpsA, List.length_drop]
  rw [show r.b.length - (r.b.length - r.pos) = r.pos by omega, ← hf]
 | n + 1 => by
  have ih := qoc hr hf n
  have hi := va hr n
  rw [dOpsA]
  cases h1 : dOpsA n (r.b.drop r.pos) with
  | none =>
   rw [h1] at ih
   simp only [Got] at ih ⊢
   simp only [rOpsA]
   exact qqz hi.1 ih
  | some x =>
   obtain ⟨ops, l⟩ := x
   rw [h1] at ih
   have ih := qe0 ih
   obtain ⟨e1, _⟩ := yi n h1
   obtain ⟨t1, t2⟩ := jp hr.pos e1
   have hr1 : (⟨r.b, r.b.length - l.length, false⟩ : Rd).Ok := ⟨hr.len, Nat.sub_le _ _⟩
   have h2 := q8c hr1 rfl
   simp only [t1] at h2
   simp only
   cases h3 : dOp l with
   | none =>
    rw [h3] at h2
    simp only [Got] at h2 ⊢
    simp only [rOpsA, ih, h2]
   | some x =>
    obtain ⟨o, l'⟩ := x
    rw [h3] at h2
    have h2 := qe0 h2
    simp only [Got, rOpsA, ih, h2]
theorem qha {b : List UInt8} (hb : b.length ≤ 1000000000) : sDecode b = match dBounded 1 20 b with
  | none => ([], 4)
  | some (n, l) => match dOpsA n.toNat l with
   | some (ops, []) => if (sEncode ops).2 ≠ 0 then ([], 4) else (ops, 0)
   | _ => ([], 4) := by
 have hr0 : (⟨b, 0, false⟩ : Rd).Ok := ⟨hb, Nat.zero_le _⟩
 have h1 := wg 1 20 ⟨b, 0, false⟩ hr0
 simp only [Bool.false_eq_true, if_false, List.drop_zero] at h1
 unfold sDecode decRd
 cases hd : dBounded 1 20 b with
 | none =>
  rw [hd] at h1
  simp only at h1
  rw [h1, if_pos]
  simp [rOpsA, rEnd]
 | some x =>
  obtain ⟨n, l⟩ := x
  rw [hd] at h1
  simp only at h1
  rw [h1]
  obtain ⟨p, hp⟩ := zk _ _ _ _ _ hd
  obtain ⟨t1, t2⟩ := jp (b := b) (p := 0) (Nat.zero_le _) (by rw [List.drop_zero]; exact hp)
  have hr1 : (⟨b, b.length - l.length, false⟩ : Rd).Ok := ⟨hb, Nat.sub_le _ _⟩
  have h2 := qoc hr1 rfl n.toNat
  simp only [t1] at h2
  simp only
  cases h3 : dOpsA n.toNat l with
  | none =>
   rw [h3] at h2
   simp only [Got] at h2
   rw [if_pos (by unfold rEnd; rw [h2]; simp)]
  | some x =>
   obtain ⟨ops, l2⟩ := x
   rw [h3] at h2
   have h2 := qe0 h2
   rw [h2]
   obtain ⟨e1, _⟩ := yi _ h3
   have hl := congrArg List.length e1
   simp only [List.length_append] at hl
   cases l2 with
   | nil =>
    simp only
    rw [if_neg (by unfold rEnd; simp)]
   | cons c l2 =>
    simp only
    rw [if_pos]
    unfold rEnd
    simp only [List.length_cons] at hl ⊢
    rw [if_pos]
    ·simp
    ·simp; omega
theorem qe1 {l : List OpS} (h : (sEncode l).2 = 0) : sDecode (sEncode l).1 = (l, 0) := by
 obtain ⟨h20, hp, he⟩ := j0 h
 have hlen := z7 l
 rw [qha (by omega), he]
 have hl0 : l.length ≠ 0 := by
  intro h0
  unfold sEncode at h
  rw [if_pos (by simp [h0])] at h
  simp at h
 have e1 : dBounded 1 20 (wOps l) = some ((l.length : Int), l.flatMap wOp) := by
  unfold dBounded wOps
  rw [qjo (qz (by omega))]
  simp only
  rw [if_neg (by omega)]
 have e2 := qg9 l hp [] l.length (Nat.le_refl _)
 rw [List.append_nil, List.take_length, List.drop_length, List.flatMap_nil, List.append_nil] at e2
 rw [e1]
 simp only [Int.toNat_natCast]
 rw [e2]
 simp only
 rw [if_neg (by simp [h])]
theorem qe2 {b : List UInt8} (hb : b.length ≤ 1000000000) (h : (sDecode b).2 = 0) : sEncode (sDecode b).1 = (b, 0) := by
 have hd := qha hb
 cases h1 : dBounded 1 20 b with
 | none => rw [h1] at hd; simp only at hd; rw [hd] at h; simp at h
 | some x =>
  obtain ⟨n, l⟩ := x
  rw [h1] at hd
  simp only at hd
  cases h2 : dOpsA n.toNat l with
  | none => rw [h2] at hd; simp only at hd; rw [hd] at h; simp at h
  | some x =>
   obtain ⟨ops, l2⟩ := x
   rw [h2] at hd
   cases l2 with
   | cons c l2 => simp only at hd; rw [hd] at h; simp at h
   | nil =>
    simp only at hd
    by_cases he : (sEncode ops).2 ≠ 0
    ·rw [if_pos he] at hd; rw [hd] at h; simp at h
    ·rw [if_neg he] at hd
     have he : (sEncode ops).2 = 0 := by simpa using he
     rw [hd]
     obtain ⟨_, _, e⟩ := j0 he
     rw [e]
     obtain ⟨e1, e2⟩ := yi _ h2
     unfold dBounded at h1
     cases h3 : dInt b with
     | none => rw [h3] at h1; cases h1
     | some x =>
      obtain ⟨m, l3⟩ := x
      rw [h3] at h1
      simp only at h1
      split at h1
      ·cases h1
      ·cases h1
       obtain ⟨_, e3⟩ := qjp h3
       have : ((ops.length : Nat) : Int) = n := by omega
       rw [wOps, this, e3, e1, List.append_nil]
end Go.Proofs.Ytinnaedmdoengaa
namespace Go.Proofs.Ytinnaedmdoengaa
open Go.Abs
set_option linter.unusedSimpArgs false
set_option linter.unusedVariables false
noncomputable section
set_option maxRecDepth 100000
def s7r0 : List SOper := [
 ⟨some 4, .mov (.k (.d (.bool false))), none⟩]
def s7r1 : List SOper := [
 ⟨some 17, .call (.k (.d (.func (.func 10) [] []))) [], none⟩,
 ⟨some 18, .not (.t 17), none⟩]
def s7r2 : List SOper := [
 ⟨some 4, .mov (.k (.d (.bool false))), none⟩]
def s7r3 : List SOper := [
 ⟨some 19, .mov (.t 0), none⟩,
 ⟨some 20, .call (.k (.d (.func (.func 25) [] []))) [(.t 19)], none⟩,
 ⟨some 21, .not (.t 20), none⟩,
 ⟨some 22, .mov (.t 21), none⟩,
 ⟨some 23, .mov (.t 1), some (22, false)⟩,
 ⟨some 24, .len (.t 23), some (22, false)⟩,
 ⟨some 25, .bin .gtr (.t 24) (.k (.d (.int .i64 2100))), some (22, false)⟩,
 ⟨some 26, .pick (.t 22) (.k (.d (.bool true))) (.t 25), none⟩]
def s7r4 : List SOper := [
 ⟨some 4, .mov (.k (.d (.bool true))), none⟩]
def s7r5 : List SOper := [
 ⟨some 28, .mov (.t 0), none⟩,
 ⟨some 29, .call (.k (.d (.func (.func 14) [] []))) [(.t 28)], none⟩,
 ⟨some 30, .call (.k (.d (.func (.func 30) [] []))) [(.t 29)], none⟩,
 ⟨some 27, .mov (.t 30), none⟩,
 ⟨some 31, .extract 0 (.t 27), none⟩,
 ⟨some 32, .extract 1 (.t 27), none⟩,
 ⟨some 5, .mov (.t 31), none⟩,
 ⟨some 6, .mov (.t 32), none⟩]
def s7r6 : List SOper := [
 ⟨some 34, .mov (.t 0), none⟩,
 ⟨some 35, .call (.k (.d (.func (.func 31) [] []))) [(.t 34)], none⟩,
 ⟨some 33, .mov (.t 35), none⟩,
 ⟨some 36, .extract 0 (.t 33), none⟩,
 ⟨some 37, .extract 1 (.t 33), none⟩,
 ⟨some 7, .mov (.t 36), none⟩,
 ⟨some 8, .mov (.t 37), none⟩]
def s7r7 : List SOper := [
 ⟨some 39, .mov (.t 1), none⟩,
 ⟨some 40, .call (.k (.d (.func (.func 32) [] []))) [(.t 39)], none⟩,
 ⟨some 38, .mov (.t 40), none⟩,
 ⟨some 41, .extract 0 (.t 38), none⟩,
 ⟨some 42, .extract 1 (.t 38), none⟩,
 ⟨some 9, .mov (.t 41), none⟩,
 ⟨some 10, .mov (.t 42), none⟩]
def s7r8 : List SOper := [
 ⟨some 44, .mov (.t 1), none⟩,
 ⟨some 45, .call (.k (.d (.func (.func 33) [] []))) [(.t 44)], none⟩,
 ⟨some 43, .mov (.t 45), none⟩,
 ⟨some 46, .extract 0 (.t 43), none⟩,
 ⟨some 47, .extract 1 (.t 43), none⟩,
 ⟨some 11, .mov (.t 46), none⟩,
 ⟨some 12, .mov (.t 47), none⟩]
def s7r9 : List SOper := [
 ⟨some 48, .mov (.t 5), none⟩,
 ⟨some 49, .b2s (.t 48), none⟩,
 ⟨some 50, .mov (.t 7), none⟩,
 ⟨some 51, .b2s (.t 50), none⟩,
 ⟨some 52, .bin .neq (.t 49) (.t 51), none⟩,
 ⟨some 53, .mov (.t 52), none⟩,
 ⟨some 54, .mov (.t 6), some (53, false)⟩,
 ⟨some 55, .mov (.t 8), some (53, false)⟩,
 ⟨some 56, .bin .neq (.t 54) (.t 55), some (53, false)⟩,
 ⟨some 57, .pick (.t 53) (.k (.d (.bool true))) (.t 56), none⟩,
 ⟨some 58, .mov (.t 57), none⟩,
 ⟨some 59, .mov (.t 9), some (58, false)⟩,
 ⟨some 60, .call (.k (.d (.func (.func 35) [] []))) [(.t 59)], some (58, false)⟩,
 ⟨some 61, .mov (.t 11), some (58, false)⟩,
 ⟨some 62, .call (.k (.d (.func (.func 34) [] []))) [(.t 60), (.t 61)], some (58, false)⟩,
 ⟨some 63, .not (.t 62), some (58, false)⟩,
 ⟨some 64, .pick (.t 58) (.k (.d (.bool true))) (.t 63), none⟩,
 ⟨some 65, .mov (.t 64), none⟩,
 ⟨some 66, .mov (.t 10), some (65, false)⟩,
 ⟨some 67, .mov (.t 12), some (65, false)⟩,
 ⟨some 68, .bin .neq (.t 66) (.t 67), some (65, false)⟩,
 ⟨some 69, .pick (.t 65) (.k (.d (.bool true))) (.t 68), none⟩]
def s7r10 : List SOper := [
 ⟨some 4, .mov (.k (.d (.bool false))), none⟩]
def s7r11 : List SOper := [
 ⟨some 71, .mov (.t 5), none⟩,
 ⟨some 72, .call (.k (.d (.func (.func 32) [] []))) [(.t 71)], none⟩,
 ⟨some 70, .mov (.t 72), none⟩,
 ⟨some 73, .extract 0 (.t 70), none⟩,
 ⟨some 74, .extract 1 (.t 70), none⟩,
 ⟨some 13, .mov (.t 73), none⟩,
 ⟨some 14, .mov (.t 74), none⟩]
def s7r12 : List SOper := [
 ⟨some 76, .mov (.t 9), none⟩,
 ⟨some 77, .call (.k (.d (.func (.func 30) [] []))) [(.t 76)], none⟩,
 ⟨some 75, .mov (.t 77), none⟩,
 ⟨some 78, .extract 0 (.t 75), none⟩,
 ⟨some 79, .extract 1 (.t 75), none⟩,
 ⟨some 15, .mov (.t 78), none⟩,
 ⟨some 16, .mov (.t 79), none⟩]
def s7r13 : List SOper := [
 ⟨some 80, .mov (.t 6), none⟩,
 ⟨some 81, .bin .neq (.t 80) (.k (.d (.int .i64 0))), none⟩,
 ⟨some 82, .mov (.t 81), none⟩,
 ⟨some 83, .mov (.t 14), some (82, false)⟩,
 ⟨some 84, .bin .eql (.t 83) (.k (.d (.int .i64 0))), some (82, false)⟩,
 ⟨some 85, .mov (.t 84), some (82, false)⟩,
 ⟨some 86, .mov (.t 13), some (85, true)⟩,
 ⟨some 87, .call (.k (.d (.func (.func 35) [] []))) [(.t 86)], some (85, true)⟩,
 ⟨some 88, .mov (.t 0), some (85, true)⟩,
 ⟨some 89, .call (.k (.d (.func (.func 34) [] []))) [(.t 87), (.t 88)], some (85, true)⟩,
 ⟨some 90, .pick (.t 85) (.t 89) (.k (.d (.bool false))), some (82, false)⟩,
 ⟨some 91, .pick (.t 82) (.k (.d (.bool true))) (.t 90), none⟩,
 ⟨some 92, .mov (.t 91), none⟩,
 ⟨some 93, .mov (.t 10), some (92, true)⟩,
 ⟨some 94, .bin .neq (.t 93) (.k (.d (.int .i64 0))), some (92, true)⟩,
 ⟨some 95, .mov (.t 94), some (92, true)⟩,
 ⟨some 96, .mov (.t 16), some (95, false)⟩,
 ⟨some 97, .bin .eql (.t 96) (.k (.d (.int .i64 0))), some (95, false)⟩,
 ⟨some 98, .mov (.t 97), some (95, false)⟩,
 ⟨some 99, .mov (.t 15), some (98, true)⟩,
 ⟨some 100, .b2s (.t 99), some (98, true)⟩,
 ⟨some 101, .mov (.t 1), some (98, true)⟩,
 ⟨some 102, .b2s (.t 101), some (98, true)⟩,
 ⟨some 103, .bin .eql (.t 100) (.t 102), some (98, true)⟩,
 ⟨some 104, .pick (.t 98) (.t 103) (.k (.d (.bool false))), some (95, false)⟩,
 ⟨some 105, .pick (.t 95) (.k (.d (.bool true))) (.t 104), some (92, true)⟩,
 ⟨some 106, .pick (.t 92) (.t 105) (.k (.d (.bool false))), none⟩,
 ⟨some 4, .mov (.t 106), none⟩]
def s7 : SCode := (.seq (.region s7r0 0 []) (.seq (.seq (.region s7r1 0 []) (.cond (.t 18) (.seq (.region s7r2 0 []) .ret) .skip)) (.seq (.seq (.region s7r3 0 []) (.cond (.t 26) (.seq (.region s7r4 0 []) .ret) .skip)) (.seq (.region s7r5 0 []) (.seq (.region s7r6 0 []) (.seq (.region s7r7 0 []) (.seq (.region s7r8 0 []) (.seq (.seq (.region s7r9 0 []) (.cond (.t 69) (.seq (.region s7r10 0 []) .ret) .skip)) (.seq (.region s7r11 0 []) (.seq (.region s7r12 0 []) (.seq (.region s7r13 0 []) .ret)))))))))))
theorem e7 : CodeIs s7.eq_1 := qc s7.eq_1
theorem q9x : RegIs s7r0.eq_1 := qa
theorem q9y : RegIs s7r1.eq_1 := qa
theorem q9z : RegIs s7r2.eq_1 := qa
theorem q90 : RegIs s7r3.eq_1 := qa
theorem q91 : RegIs s7r4.eq_1 := qa
theorem q92 : RegIs s7r5.eq_1 := qa
theorem q93 : RegIs s7r6.eq_1 := qa
theorem q94 : RegIs s7r7.eq_1 := qa
theorem q95 : RegIs s7r8.eq_1 := qa
theorem q96 : RegIs s7r9.eq_1 := qa
theorem q8d : RegIs s7r10.eq_1 := qa
theorem q8e : RegIs s7r11.eq_1 := qa
theorem q8f : RegIs s7r12.eq_1 := qa
theorem q8g : RegIs s7r13.eq_1 := qa
attribute [go_sem] q9x q9y q9z q90 q91 q92 q93 q94 q95 q96 q8d q8e q8f q8g e7
theorem F7 : FnIs Try.prog 7 Try.f7 [] news s7 [.tmp 4] 107 := xa follows Try.func7
end
theorem qi1 (b : List UInt8) (hb : b.length ≤ 1000000000) : (sDecode b).1.length ≤ 20 := by
 unfold sDecode
 split
 ·simp
 ·split
  ·simp
  ·have h0 : (⟨b, 0, false⟩ : Rd).Ok := ⟨hb, Nat.zero_le _⟩
   have := (va (kc h0 1 20).1 (rBoundedP 1 20 ⟨b, 0, false⟩).1.toNat).2.2
   have := k9 ⟨b, 0, false⟩ 1 20
   simp only [decRd]
   omega
theorem qs3 (b : List UInt8) : (sDecode b).2 = 0 ∨ (sDecode b).2 = 4 := by
 unfold sDecode
 split
 ·exact .inr rfl
 ·split
  ·exact .inr rfl
  ·exact .inl rfl
set_option maxRecDepth 10000 in
theorem qcq (l : List OpS) (b : List UInt8) (hl : l.length ≤ maxLen) (hb : b.length ≤ maxLen) :
  ACall Try.prog 7 [.d (.sl 3 (l.map encOp)), .d (.sl 1 (byteRows b))] [] (.d (.bool true)) [] := by
 refine F7.go ?_
 try (refine ev ?_; try exact True.intro)
 (repeat (with_reducible refine ob ?_)); first | refine cl F10 (qdp) ?_ | refine clF F10 (qdp) (fun _ => by simp only [encOp, encEn, encStep, go_sem, Nat.reduceAdd, Nat.reduceMul, Nat.reduceSub, Nat.reduceEqDiff, Nat.reduceLT, Nat.reduceLeDiff, Nat.reduceBEq, reduceIte, reduceCtorEq, Int.reduceAdd, Int.reduceLT, Int.reduceLE, Int.reduceGT, Int.reduceGE, Int.reduceEq, Int.reduceNe, Int.reduceBEq, Int.reduceBNe, Int.reduceToNat, Int.reduceNeg]) ?_
 try (refine ev ?_; try exact True.intro)
 (repeat (with_reducible refine ob ?_)); refine no_ ?_
 try (refine ev ?_; try exact True.intro)
 (repeat (with_reducible refine ob ?_)); first | refine cl F25 (qjn l hl) ?_ | refine clF F25 (qjn l hl) (fun _ => by simp only [encOp, encEn, encStep, go_sem, Nat.reduceAdd, Nat.reduceMul, Nat.reduceSub, Nat.reduceEqDiff, Nat.reduceLT, Nat.reduceLeDiff, Nat.reduceBEq, reduceIte, reduceCtorEq, Int.reduceAdd, Int.reduceLT, Int.reduceLE, Int.reduceGT, Int.reduceGE, Int.reduceEq, Int.reduceNe, Int.reduceBEq, Int.reduceBNe, Int.reduceToNat, Int.reduceNeg]) ?_
 try (refine ev ?_; try exact True.intro)
 refine ⟨fun h => by simpa using h, ?_⟩
 (repeat (with_reducible refine ob ?_)); refine zb _ (fun h => ?_) (fun h => ?_)
 ·try (refine ev ?_; try exact True.intro)
 simp only [Bool.or_eq_false_iff, decide_eq_false_iff_not, Bool.not_eq_false'] at h
 obtain ⟨hF, hB⟩ := h
 obtain ⟨q1, q2⟩ := qqu hF
 have hb2 : b.length ≤ 2100 := by omega
 try (refine ev ?_; try exact True.intro)
 (repeat (with_reducible refine ob ?_)); first | refine cl F14 (qyi l (by omega) (fun o ho => by have := (q2 o ho).2; omega)) ?_ | refine clF F14 (qyi l (by omega) (fun o ho => by have := (q2 o ho).2; omega)) (fun _ => by simp only [encOp, encEn, encStep, go_sem, Nat.reduceAdd, Nat.reduceMul, Nat.reduceSub, Nat.reduceEqDiff, Nat.reduceLT, Nat.reduceLeDiff, Nat.reduceBEq, reduceIte, reduceCtorEq, Int.reduceAdd, Int.reduceLT, Int.reduceLE, Int.reduceGT, Int.reduceGE, Int.reduceEq, Int.reduceNe, Int.reduceBEq, Int.reduceBNe, Int.reduceToNat, Int.reduceNeg]) ?_
 try (refine ev ?_; try exact True.intro)
 (repeat (with_reducible refine ob ?_)); first | refine cl F30 (xx l (by omega)) ?_ | refine clF F30 (xx l (by omega)) (fun _ => by simp only [encOp, encEn, encStep, go_sem, Nat.reduceAdd, Nat.reduceMul, Nat.reduceSub, Nat.reduceEqDiff, Nat.reduceLT, Nat.reduceLeDiff, Nat.reduceBEq, reduceIte, reduceCtorEq, Int.reduceAdd, Int.reduceLT, Int.reduceLE, Int.reduceGT, Int.reduceGE, Int.reduceEq, Int.reduceNe, Int.reduceBEq, Int.reduceBNe, Int.reduceToNat, Int.reduceNeg]) ?_
 try (refine ev ?_; try exact True.intro)
 (repeat (with_reducible refine ob ?_)); first | refine cl F31 (ji l (by omega)) ?_ | refine clF F31 (ji l (by omega)) (fun _ => by simp only [encOp, encEn, encStep, go_sem, Nat.reduceAdd, Nat.reduceMul, Nat.reduceSub, Nat.reduceEqDiff, Nat.reduceLT, Nat.reduceLeDiff, Nat.reduceBEq, reduceIte, reduceCtorEq, Int.reduceAdd, Int.reduceLT, Int.reduceLE, Int.reduceGT, Int.reduceGE, Int.reduceEq, Int.reduceNe, Int.reduceBEq, Int.reduceBNe, Int.reduceToNat, Int.reduceNeg]) ?_
 try (refine ev ?_; try exact True.intro)
 (repeat (with_reducible refine ob ?_)); first | refine cl F32 (vh b (by omega)) ?_ | refine clF F32 (vh b (by omega)) (fun _ => by simp only [encOp, encEn, encStep, go_sem, Nat.reduceAdd, Nat.reduceMul, Nat.reduceSub, Nat.reduceEqDiff, Nat.reduceLT, Nat.reduceLeDiff, Nat.reduceBEq, reduceIte, reduceCtorEq, Int.reduceAdd, Int.reduceLT, Int.reduceLE, Int.reduceGT, Int.reduceGE, Int.reduceEq, Int.reduceNe, Int.reduceBEq, Int.reduceBNe, Int.reduceToNat, Int.reduceNeg]) ?_
 try (refine ev ?_; try exact True.intro)
 (repeat (with_reducible refine ob ?_)); first | refine cl F33 (qal b (by omega)) ?_ | refine clF F33 (qal b (by omega)) (fun _ => by simp only [encOp, encEn, encStep, go_sem, Nat.reduceAdd, Nat.reduceMul, Nat.reduceSub, Nat.reduceEqDiff, Nat.reduceLT, Nat.reduceLeDiff, Nat.reduceBEq, reduceIte, reduceCtorEq, Int.reduceAdd, Int.reduceLT, Int.reduceLE, Int.reduceGT, Int.reduceGE, Int.reduceEq, Int.reduceNe, Int.reduceBEq, Int.reduceBNe, Int.reduceToNat, Int.reduceNeg]) ?_
 have hdl := qi1 b (by omega)
 try (refine ev ?_; try exact True.intro)
 (repeat (with_reducible refine ob ?_)); first | refine cl F35 (yh (sDecode b).1 (by omega)) ?_ | refine clF F35 (yh (sDecode b).1 (by omega)) (fun _ => by simp only [encOp, encEn, encStep, go_sem, Nat.reduceAdd, Nat.reduceMul, Nat.reduceSub, Nat.reduceEqDiff, Nat.reduceLT, Nat.reduceLeDiff, Nat.reduceBEq, reduceIte, reduceCtorEq, Int.reduceAdd, Int.reduceLT, Int.reduceLE, Int.reduceGT, Int.reduceGE, Int.reduceEq, Int.reduceNe, Int.reduceBEq, Int.reduceBNe, Int.reduceToNat, Int.reduceNeg]) ?_
 try (refine ev ?_; try exact True.intro)
 (repeat (with_reducible refine ob ?_)); first | refine cl F34 (vj (sDecode b).1 (by omega)) ?_ | refine clF F34 (vj (sDecode b).1 (by omega)) (fun _ => by simp only [encOp, encEn, encStep, go_sem, Nat.reduceAdd, Nat.reduceMul, Nat.reduceSub, Nat.reduceEqDiff, Nat.reduceLT, Nat.reduceLeDiff, Nat.reduceBEq, reduceIte, reduceCtorEq, Int.reduceAdd, Int.reduceLT, Int.reduceLE, Int.reduceGT, Int.reduceGE, Int.reduceEq, Int.reduceNe, Int.reduceBEq, Int.reduceBNe, Int.reduceToNat, Int.reduceNeg]) ?_
 try (refine ev ?_; try exact True.intro)
 (repeat (with_reducible refine ob ?_)); refine no_ ?_
 try (refine ev ?_; try exact True.intro)
 have hxl := z7 l
 (repeat (with_reducible refine ob ?_)); first | refine cl F32 (vh (sEncode l).1 (by omega)) ?_ | refine clF F32 (vh (sEncode l).1 (by omega)) (fun _ => by simp only [encOp, encEn, encStep, go_sem, Nat.reduceAdd, Nat.reduceMul, Nat.reduceSub, Nat.reduceEqDiff, Nat.reduceLT, Nat.reduceLeDiff, Nat.reduceBEq, reduceIte, reduceCtorEq, Int.reduceAdd, Int.reduceLT, Int.reduceLE, Int.reduceGT, Int.reduceGE, Int.reduceEq, Int.reduceNe, Int.reduceBEq, Int.reduceBNe, Int.reduceToNat, Int.reduceNeg]) ?_
 try (refine ev ?_; try exact True.intro)
 (repeat (with_reducible refine ob ?_)); first | refine cl F30 (xx (sDecode b).1 (by omega)) ?_ | refine clF F30 (xx (sDecode b).1 (by omega)) (fun _ => by simp only [encOp, encEn, encStep, go_sem, Nat.reduceAdd, Nat.reduceMul, Nat.reduceSub, Nat.reduceEqDiff, Nat.reduceLT, Nat.reduceLeDiff, Nat.reduceBEq, reduceIte, reduceCtorEq, Int.reduceAdd, Int.reduceLT, Int.reduceLE, Int.reduceGT, Int.reduceGE, Int.reduceEq, Int.reduceNe, Int.reduceBEq, Int.reduceBNe, Int.reduceToNat, Int.reduceNeg]) ?_
 try (refine ev ?_; try exact True.intro)
 have hg : (sDecode b).2 = 0 → sEncode (sDecode b).1 = (b, 0) := qe2 (by omega)
 by_cases he : (sEncode l).2 = 0
 ·have hde := qe1 he
  try simp only [he, hde, go_sem, Nat.reduceAdd, Nat.reduceMul, Nat.reduceSub, Nat.reduceEqDiff, Nat.reduceLT, Nat.reduceLeDiff, Nat.reduceBEq, reduceIte, reduceCtorEq, Int.reduceAdd, Int.reduceLT, Int.reduceLE, Int.reduceGT, Int.reduceGE, Int.reduceEq, Int.reduceNe, Int.reduceBEq, Int.reduceBNe, Int.reduceToNat, Int.reduceNeg]
  (repeat (with_reducible refine ob ?_)); first | refine cl F35 (yh l (by omega)) ?_ | refine clF F35 (yh l (by omega)) (fun _ => by simp only [encOp, encEn, encStep, go_sem, Nat.reduceAdd, Nat.reduceMul, Nat.reduceSub, Nat.reduceEqDiff, Nat.reduceLT, Nat.reduceLeDiff, Nat.reduceBEq, reduceIte, reduceCtorEq, Int.reduceAdd, Int.reduceLT, Int.reduceLE, Int.reduceGT, Int.reduceGE, Int.reduceEq, Int.reduceNe, Int.reduceBEq, Int.reduceBNe, Int.reduceToNat, Int.reduceNeg]) ?_
  try (refine ev ?_; try exact True.intro)
  (repeat (with_reducible refine ob ?_)); first | refine cl F34 (vj l (by omega)) ?_ | refine clF F34 (vj l (by omega)) (fun _ => by simp only [encOp, encEn, encStep, go_sem, Nat.reduceAdd, Nat.reduceMul, Nat.reduceSub, Nat.reduceEqDiff, Nat.reduceLT, Nat.reduceLeDiff, Nat.reduceBEq, reduceIte, reduceCtorEq, Int.reduceAdd, Int.reduceLT, Int.reduceLE, Int.reduceGT, Int.reduceGE, Int.reduceEq, Int.reduceNe, Int.reduceBEq, Int.reduceBNe, Int.reduceToNat, Int.reduceNeg]) ?_
  try (refine ev ?_; try exact True.intro)
  by_cases hgz : (sDecode b).2 = 0
  ·simp [hgz, hg hgz]
  ·simp [hgz]
 ·have he' : ((sEncode l).2 == 0) = false := by simpa using he
  have hne : ((sEncode l).2 != 0) = true := by simp [he]
  try simp only [he', hne, go_sem, Nat.reduceAdd, Nat.reduceMul, Nat.reduceSub, Nat.reduceEqDiff, Nat.reduceLT, Nat.reduceLeDiff, Nat.reduceBEq, reduceIte, reduceCtorEq, Int.reduceAdd, Int.reduceLT, Int.reduceLE, Int.reduceGT, Int.reduceGE, Int.reduceEq, Int.reduceNe, Int.reduceBEq, Int.reduceBNe, Int.reduceToNat, Int.reduceNeg]
  refine ky (.sl 3 []) rfl ?_
  try (refine ev ?_; try exact True.intro)
  refine ky (.bool false) rfl ?_
  try (refine ev ?_; try exact True.intro)
  by_cases hgz : (sDecode b).2 = 0
  ·simp [hgz, hg hgz]
  ·simp [hgz]
end Go.Proofs.Ytinnaedmdoengaa
namespace Go.Proofs.Ytinnaedmdoengaa
open Go.Abs
set_option linter.unusedSimpArgs false
set_option maxRecDepth 100000
theorem qe3 {α : Type} {enc : α → List D} {Q : α → Prop} : ∀ {rows : List (List D)}, (∀ r ∈ rows, ∃ x, r = enc x ∧ Q x) → ∃ l : List α, rows = l.map enc ∧ ∀ x ∈ l, Q x
 | [], _ => ⟨[], rfl, by simp⟩
 | r :: rows, h => by
  obtain ⟨x, rfl, hx⟩ := h r (by simp)
  obtain ⟨l, rfl, hl⟩ := qe3 (enc := enc) (Q := Q) (rows := rows) (fun r hr => h r (by simp [hr]))
  exact ⟨x :: l, rfl, by simpa using ⟨hx, hl⟩⟩
theorem qzk {n : Int} (h : (Lit.int .i64 n).wf = true) : I64 n := by
 have h1 : IntKind.i64.min = -9223372036854775808 := by decide
 have h2 : IntKind.i64.max = 9223372036854775807 := by decide
 simp only [Lit.wf, Bool.and_eq_true, decide_eq_true_eq, h1, h2] at h
 exact h
theorem q8h {n : Int} (h : (Lit.int .u8 n).wf = true) : 0 ≤ n ∧ n ≤ 255 := by
 have h1 : IntKind.u8.min = 0 := by decide
 have h2 : IntKind.u8.max = 255 := by decide
 simp only [Lit.wf, Bool.and_eq_true, decide_eq_true_eq, h1, h2] at h
 exact h
theorem qzl {n : Nat} {ds : List D} (h : Shp Try.prog (n + 1) 3 ds) : ∃ x, ds = [.int .i64 x] ∧ I64 x := by
 simp only [Shp, Try.underlying3] at h
 obtain ⟨x, rfl, h⟩ := h
 exact ⟨x, rfl, qzk h⟩
theorem q8i {n : Nat} {ds : List D} (h : Shp Try.prog (n + 1) 5 ds) : ∃ x : Nat, ds = [.int .u8 (x : Nat)] ∧ x < 256 := by
 simp only [Shp, Try.underlying5] at h
 obtain ⟨x, rfl, h⟩ := h
 have := q8h h
 refine ⟨x.toNat, ?_, by omega⟩
 rw [Int.toNat_of_nonneg this.1]
theorem qs4 {n : Nat} {ds : List D} (h : Shp Try.prog (n + 1) 5 ds) : ∃ c : UInt8, ds = [byteD c] ∧ True := by
 obtain ⟨x, rfl, hx⟩ := q8i h
 refine ⟨UInt8.ofNat x, ?_, trivial⟩
 simp [byteD, UInt8.toNat_ofNat]
 omega
theorem qhb (s : List UInt8) : s.map (fun c => [byteD c]) = byteRows s := by
 induction s with
 | nil => rfl
 | cons c s ih => rw [List.map_cons, ih]; rfl
theorem qq0 : Try.prog.cellsOf 5 = 1 := by kernel_rfl
theorem qjq {n : Nat} {ds : List D} (h : Shp Try.prog (n + 2) 34 ds) : ∃ s : List UInt8, ds = [.sl 1 (byteRows s)] ∧ s.length ≤ maxLen := by
 rw [Shp] at h
 simp only [Try.underlying34] at h
 obtain ⟨r, rfl, l, h⟩ := h
 obtain ⟨s, rfl, _⟩ := qe3 fun r hr => qs4 (h r hr)
 exact ⟨s, by rw [qq0, qhb], by simpa using l⟩
theorem qzm {n : Nat} {ds : List D} (h : Shp Try.prog (n + 1) 9 ds) : ∃ s : List UInt8, ds = [.str s] ∧ s.length ≤ maxLen := by
 simp only [Shp, Try.underlying9] at h
 exact h
theorem qs5 {n : Nat} {ds : List D} (h : Shp Try.prog (n + 3) 36 ds) : ∃ o : OpS, ds = encOp o ∧ o.key.length ≤ maxLen ∧ o.val.length ≤ maxLen := by
 rw [Shp] at h
 simp only [Try.underlying36, ShpFs] at h
 obtain ⟨_, _, rfl, h1, _, _, rfl, h2, _, _, rfl, h3, rfl⟩ := h
 obtain ⟨a1, rfl, l1⟩ := qzm h1
 simp only [Shp, Try.underlying4] at h2
 obtain ⟨a2, rfl⟩ := h2
 obtain ⟨a3, rfl, l3⟩ := qjq h3
 exact ⟨⟨a1, a2, a3⟩, rfl, l1, l3⟩
theorem qlj : Try.prog.cellsOf 36 = 3 := by kernel_rfl
theorem qre {n : Nat} {ds : List D} (h : Shp Try.prog (n + 4) 31 ds) : ∃ l : List OpS, ds = [.sl 3 (l.map encOp)] ∧ l.length ≤ maxLen := by
 rw [Shp] at h
 simp only [Try.underlying31] at h
 obtain ⟨r, rfl, l, h⟩ := h
 obtain ⟨s, rfl, _⟩ := qe3 fun r hr => qs5 (h r hr)
 exact ⟨s, by rw [qlj], by simpa using l⟩
theorem qod {n : Nat} {ds : List D} (h : Shp Try.prog (n + 5) 33 ds) : ∃ x : StepS, ds = encStep x ∧ x.ops.length ≤ maxLen := by
 rw [Shp] at h
 simp only [Try.underlying33, ShpFs] at h
 obtain ⟨_, _, rfl, h1, _, _, rfl, h2, rfl⟩ := h
 obtain ⟨a1, rfl, _⟩ := qzl h1
 obtain ⟨a2, rfl, l2⟩ := qre h2
 exact ⟨⟨a1, a2⟩, rfl, l2⟩
theorem qhc : Try.prog.cellsOf 33 = 2 := by kernel_rfl
theorem qz5 {n : Nat} {ds : List D} (h : Shp Try.prog (n + 6) 22 ds) : ∃ l : List StepS, ds = [.sl 2 (l.map encStep)] ∧ l.length ≤ maxLen ∧ ∀ x ∈ l, x.ops.length ≤ maxLen := by
 rw [Shp] at h
 simp only [Try.underlying22] at h
 obtain ⟨r, rfl, l, h⟩ := h
 obtain ⟨s, rfl, hs⟩ := qe3 fun r hr => qod (h r hr)
 exact ⟨s, by rw [qhc], by simpa using l, hs⟩
theorem qz6 (l : List StepS) : argS Try.prog 22 [.sl 2 (l.map encStep)] = .d (.sl 2 (l.map encStep)) := by simp only [argS, Try.underlying22]; rfl
theorem qzn (l : List OpS) : argS Try.prog 31 [.sl 3 (l.map encOp)] = .d (.sl 3 (l.map encOp)) := by simp only [argS, Try.underlying31]; rfl
theorem qq1 (s : List UInt8) : argS Try.prog 34 [.sl 1 (byteRows s)] = .d (.sl 1 (byteRows s)) := by simp only [argS, Try.underlying34]; rfl
theorem q8x (s : List UInt8) : argS Try.prog 9 [.str s] = .d (.str s) := by simp only [argS, Try.underlying9]; rfl
theorem q97 (n : Int) : argS Try.prog 5 [.int .u8 n] = .d (.int .u8 n) := by simp only [argS, Try.underlying5]; rfl
end Go.Proofs.Ytinnaedmdoengaa
