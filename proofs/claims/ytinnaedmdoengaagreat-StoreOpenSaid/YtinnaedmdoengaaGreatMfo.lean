/- Texts Wk, Wl, Wm, Za, Zb, Zc, Wn, Zd, Ze, Zf, Yd, Ya, Yb. -/
import Derived.Test.YtinnaedmdoengaaGreatMfn
import Derived.Calls
import Derived.Orders
import Derived.Tactics
import Derived.Laws.AppendOwn
import Derived.Laws.Slices
import Derived.Laws.Closers25
import Derived.Laws.StructEq
import Derived.Laws.BytesString
import Derived.Laws.CopyRow
import Derived.MapKept
import Derived.Maps.RangeRun
import Derived.TacticsIn
import Derived.OrdersIn
import Derived.RangeFuncRecord
import Derived.RangeFuncLeaves
import Derived.IntWalk
import Derived.ProofKit
import Derived.OpenShut
import Derived.Carry
import Derived.Test.YtinnaedmdoengaaGreatProg
import Derived.KernelRfl
import Derived.OwnWalkIn
import Derived.TacticsInMore
import Derived.LoopIn
import Derived.WalkKit
import Derived.Lib.Strings
import Derived.Lib.Slices
import Derived.Lib.Walk
import Derived.Lib.Bytealg
import Derived.Shelf.SlSortCmp.WholeK
import Derived.Shelf.SlSortCmp.NoneTotal

namespace Go.Proofs.YtinnaedmdoengaaGreat
open Go.Abs Go.Shelf Go.RowKit Go.Lib Go.Sort
set_option linter.unusedSimpArgs false
set_option linter.unusedVariables false
theorem q0n : (Tryz.prog.funcs[76]?).any (fun fn => fn.body.isSome && !(fn.name == "runtime.NumGoroutine")) = true := by rw [Tryz.func76]; rfl
theorem qtg (x : RowE) : (encR x).length = 2 := rfl
theorem qth (x : RowE) : ∀ v ∈ encR x, v.oneCell' = true := by
 intro v hv
 simp [encR] at hv
 rcases hv with rfl | rfl
 ·rfl
 ·exact x.2.2
set_option maxHeartbeats 1000000 in
theorem qvh (l : List En) (hn : (l.map (·.1)).Nodup) (hl : l.length ≤ 1000000) :
  ACall Tryz.prog 76 [.d (.ref 0 0 2 l.length), .d (.func (.func 77) [] [])] [.row ((flatEn l).map .d)] (.tup []) [.row ((flatEn (sortEn l)).map .d)] := by
 intro g w vs hd hlen hv ho
 match vs, hlen with
 | [v0, v1], _ =>
 have h1 := xe (qu (hv 1 v1 _ rfl rfl))
 have hf1 : v1 = .func (.func 77) #[] #[] := by
  cases h1 with
  | func _ vf vc _ _ hf hc =>
   have e1 : vf = [] := List.eq_nil_of_length_eq_zero (by simpa using hf)
   have e2 : vc = [] := List.eq_nil_of_length_eq_zero (by simpa using hc)
   subst e1; subst e2; rfl
 subst hf1
 have h0 := xe (qu (hv 0 v0 _ rfl rfl))
 generalize hln : l.length = n at h0
 have none_ : ∀ (p : Option Addr) (cap : Nat), n = 0 → v0 = .slice p 0 cap → Calls Tryz.prog 76 [v0, .func (.func 77) #[] #[]].toArray w fun e w' =>
   ∃ v g' live', e = .returned v ∧ G g w g' w' ∧ Dom g' w' ∧ (∀ t ∈ (ASlot.tup []).toks, t ∈ live') ∧ RS g' w' live' v (.tup []) ∧ ObjsOk g' w' live' [.row ((flatEn (sortEn l)).map .d)] := by
  intro p cap h0 hv0
  have hl0 : l = [] := List.eq_nil_of_length_eq_zero (by omega)
  subst hl0; subst hv0
  have hcon := AnyF.slices_SortFunc_none q0m p cap (.func (.func 77) #[] #[]) w
  change Calls Tryz.prog 76 _ _ _ at hcon
  refine hcon.mono ?_
  rintro e w' ⟨rfl, rfl⟩
  have hs0 : sortEn [] = [] := by simp [sortEn]
  rw [hs0]
  exact ⟨_, g, [], rfl, .refl _ _, hd, by simp [ASlot.toks], ⟨[], rfl, rfl, fun i u s hu => by simp at hu⟩, ho⟩
 cases h0 with
 | refnil a => exact none_ a 0 rfl rfl
 | ref b _ _ _ _ cap hg hcap hmx hsz =>
 by_cases hn0 : n = 0
 ·subst hn0; exact none_ _ cap rfl rfl
 obtain ⟨b', hb', c, et, hh, hcs, hcc⟩ := (ho.objs 0 _ rfl (by simp)).resolve_right (fun h => by
  have := h.1
  simp at this
  have := congrArg List.length this
  simp [vw] at this; omega)
 have : b' = b := ho.inj b' b 0 hb' hg
 subst this
 rw [List.length_map, vw] at hcs
 have hcell : ∀ (i : Nat) (e : En), l[i]? = some e → c[2 * i]? = some (.string ⟨e.1.toArray⟩) ∧ ∃ v, c[2 * i + 1]? = some v ∧ v.oneCell' = true ∧ RV g w v (.sl 1 (byteRows e.2)) := by
  intro i e he
  obtain ⟨k1, k2⟩ := qen l i e he
  obtain ⟨u, u1, _, u3⟩ := hcc (2 * i) (.d (.str e.1)) (by rw [List.getElem?_map, k1]; rfl)
  obtain ⟨v, v1, v2, v3⟩ := hcc (2 * i + 1) (.d (.sl 1 (byteRows e.2))) (by rw [List.getElem?_map, k2]; rfl)
  have hu := ju (show RV g w u (.str e.1) from u3)
  subst hu
  exact ⟨u1, v, v1, v2, v3⟩
 let mkR : Nat → RowE := fun i => match l[i]?, c[2 * i + 1]? with
  | some e, some v => if h : v.oneCell' = true then (e.1, ⟨v, h⟩) else default
  | _, _ => default
 let P : List (RowE × En) := (List.range n).map fun i => (mkR i, l.getD i ([], []))
 have hPR : ∀ z ∈ P, z.1.1 = z.2.1 ∧ RV g w z.1.2.1 (.sl 1 (byteRows z.2.2)) := by
  intro z hz
  obtain ⟨i, hi, rfl⟩ := List.mem_map.1 hz
  have hil : i < l.length := by rw [hln]; exact List.mem_range.1 hi
  have he := List.getElem?_eq_getElem hil
  obtain ⟨_, v, v1, v2, v3⟩ := hcell i _ he
  have : mkR i = (l[i].1, ⟨v, v2⟩) := by simp only [mkR, he, v1, dif_pos v2]
  have e2 : l.getD i ([], []) = l[i] := by simp [List.getD, he]
  simp only [this, e2]
  exact ⟨trivial, v3⟩
 have hPs : P.map (·.2) = l := by
  apply List.ext_getElem?
  intro i
  simp only [P, List.map_map, List.getElem?_map]
  rcases Nat.lt_or_ge i n with h | h
  ·rw [List.getElem?_range h]
   have he := List.getElem?_eq_getElem (show i < l.length by omega)
   simp [he, List.getD]
  ·rw [List.getElem?_eq_none (by simpa using h), List.getElem?_eq_none (by omega)]; rfl
 obtain ⟨d, hdd⟩ : ∃ d : Array RowE, d = (P.map (·.1)).toArray := ⟨_, rfl⟩
 have hds : d.size = n := by rw [hdd]; simp [P]
 have hdi : ∀ i, i < n → d[i]! = mkR i := fun i hi => by rw [hdd]; simp [P, hi]
 have hblk : b' < w.heap.size := (Array.getElem?_eq_some_iff.1 hh).1
 have hfl : ∀ t, t < n * 2 → (flatK encR 2 d)[t]! = c.getD t default := by
  intro t ht
  rw [get_flatK encR 2 d t (by rw [hds]; exact ht), hdi _ (by omega)]
  have hil : t / 2 < l.length := by omega
  have he := List.getElem?_eq_getElem hil
  obtain ⟨k1, v, v1, v2, v3⟩ := hcell (t / 2) _ he
  have hm : mkR (t / 2) = (l[t / 2].1, ⟨v, v2⟩) := by simp only [mkR, he, v1, dif_pos v2]
  rw [hm]
  rcases Nat.mod_two_eq_zero_or_one t with hp | hp
  ·have e1 : 2 * (t / 2) = t := by omega
   rw [e1] at k1
   rw [hp, Array.getD_eq_getD_getElem?, k1]
   rfl
  ·have e1 : 2 * (t / 2) + 1 = t := by omega
   rw [e1] at v1
   rw [hp, Array.getD_eq_getD_getElem?, v1]
   rfl
 have hH : HoldsK encR 2 w b' 0 d := by
  intro j hj
  rw [size_flatK, hds] at hj
  refine ⟨?_, by simp [World.frozen?, hh]⟩
  rw [hfl j hj]
  have hjc : j < c.size := by omega
  simp [World.cell?, hh, hjc]
 have eg : ∀ args w, (callFunc 77 args).run Tryz.prog w = .ok (.enter 77 args) w := enters_of Tryz.func77 (by kernel_rfl) rfl
 have hcon := AnyQ.slices_SortFunc q0m 2 Tryz.isAgg130 Tryz.sizeOf130 encR qtg qth cmpR xhw 77 #[] b' 0 cap d w eg (fun _ _ _ _ x y => qtf x y _) hH hblk (by omega)
 change Calls Tryz.prog 76 _ _ _ at hcon
 rw [hds] at hcon
 refine hcon.mono ?_
 rintro e w' ⟨rfl, d', m, os, hperm, hsort, hw'⟩
 obtain ⟨hps, _, hpl⟩ := hperm
 rw [hds] at hps
 have hp2 : d'.toList.Perm (P.map (·.1)) := by
  have e1 : d'.extract 0 n = d' := by rw [← hps]; simp
  have e2 : d.extract 0 n = d := by rw [← hds]; simp
  rw [e1, e2] at hpl
  rw [hdd] at hpl
  simpa using hpl
 obtain ⟨Q, q1, q2⟩ := qp4 (fun z : RowE × En => z.1) hp2 rfl
 have hQl : Q.length = n := by rw [q1.length_eq]; simp [P]
 have hesl : (Q.map (·.2)).Perm l := by
  have := q1.map (fun z : RowE × En => z.2)
  rwa [hPs] at this
 have hQ : ∀ (i : Nat) (z : RowE × En), Q[i]? = some z → d'[i]! = z.1 ∧ z.1.1 = z.2.1 ∧ RV g w z.1.2.1 (.sl 1 (byteRows z.2.2)) := by
  intro i z hz
  have h1 := congrArg (fun l => l[i]?) q2
  simp only [List.getElem?_map, hz, Option.map_some, Array.getElem?_toList] at h1
  have hi : i < d'.size := by rw [hps, ← hQl]; exact (List.getElem?_eq_some_iff.1 hz).1
  refine ⟨?_, hPR z (q1.mem_iff.1 (List.mem_of_getElem? hz))⟩
  rw [getElem!_pos d' i hi]
  rw [Array.getElem?_eq_getElem hi] at h1
  simpa using h1.symm
 have hsorted : (Q.map (·.2)).Pairwise fun a b => cmpB a.1 b.1 ≤ 0 := by
  rw [List.pairwise_iff_getElem]
  intro i j hi hj hij
  simp only [List.length_map] at hi hj
  have zi := hQ i _ (List.getElem?_eq_getElem hi)
  have zj := hQ j _ (List.getElem?_eq_getElem hj)
  have hs := hsort i j (Nat.zero_le _) hij (by omega)
  rw [zi.1, zj.1] at hs
  have hs2 : ¬ cmpB Q[j].1.1 Q[i].1.1 < 0 := of_decide_eq_false hs
  rw [zi.2.1, zj.2.1] at hs2
  simp only [List.getElem_map]
  exact jh.1 hs2
 have hes : Q.map (·.2) = sortEn l := by
  have hn2 : ((Q.map (·.2)).map (·.1)).Nodup := (hesl.map (fun x : En => x.1)).nodup_iff.2 hn
  exact vy (hesl.trans (xm l).symm) hn2 hsorted (jb l)
 have hwh : w'.heap = (w.heap.modify b' (onCells (putCells (fun v : Value => v) 0 (flatK encR 2 d')))) ++ os := by subst hw'; rfl
 have hother : ∀ k, k ≠ b' → k < w.heap.size → w'.heap[k]? = w.heap[k]? := by
  intro k hk hkl
  rw [hwh, Array.getElem?_append, if_pos (by simpa using hkl), Array.getElem?_modify, if_neg (Ne.symm hk)]
 have hself : w'.heap[b']? = some (.cells (putCells (fun v : Value => v) 0 (flatK encR 2 d') c) et (0, 0)) := by
  rw [hwh, Array.getElem?_append, if_pos (by simpa using hblk), Array.getElem?_modify, if_pos rfl, hh]
  rfl
 have hsize : w.heap.size ≤ w'.heap.size := by
  subst hw'
  simp [sortWorldK, grow, putRowK, putRow, mapBlock, Sort.ahead]
 have htop : w'.os = w.os ∧ w'.tape = w.tape ∧ w'.output = w.output := by subst hw'; exact ⟨rfl, rfl, rfl⟩
 have hne : ∀ k r, g k = r → (∀ i, r ≠ .obj i) → k ≠ b' := fun k r h hr he => by rw [he, hg] at h; exact hr 0 h.symm
 have hG : G g w g w' := by
  refine ⟨htop.1, htop.2.1, htop.2.2, hsize, fun k hk hgk => ⟨hother k (hne k _ hgk (by simp)) hk, hgk⟩, fun k r hk hgk => ⟨hother k (hne k _ hgk (by simp)) hk, hgk⟩,
   fun k r t hk hgk => ⟨r, some t, hgk, Nat.le_refl _, fun i u _ hu => by rw [xd (hother k (hne k _ hgk (by simp)) hk)]; exact hu⟩, fun k id hk hgk => ⟨hgk, ?_⟩⟩
  by_cases hkb : k = b'
  ·subst hkb
   rw [xq hh, xq hself]
   simp [putCells]
  ·exact Nat.le_of_eq (qy (hother k hkb hk)).symm
 refine ⟨_, g, [], rfl, hG, fun k hk => hd k (by omega), by simp [ASlot.toks], ⟨[], rfl, rfl, fun i u s hu => by simp at hu⟩, ⟨fun oid o hid hno => ?_, ho.inj, fun b oid hb => ?_⟩⟩
 ·match oid, hid with
  | 0, hid =>
   simp at hid
   subst hid
   have hle := (xm l).length_eq
   refine .inl ⟨b', hg, _, et, hself, by simp [putCells, vw, hle]; omega, fun i s hi => ?_⟩
   rw [List.getElem?_map, Option.map_eq_some_iff] at hi
   obtain ⟨x, hx, rfl⟩ := hi
   have hil : i < n * 2 := by
    have := (List.getElem?_eq_some_iff.1 hx).1
    rw [vw, hle, hln] at this
    exact this
   have hQi : i / 2 < Q.length := by omega
   obtain ⟨z1, z2, z3⟩ := hQ (i / 2) _ (List.getElem?_eq_getElem hQi)
   have hz : (sortEn l)[i / 2]? = some Q[i / 2].2 := by rw [← hes, List.getElem?_map, List.getElem?_eq_getElem hQi]; rfl
   obtain ⟨k1, k2⟩ := qen _ _ _ hz
   have hcv : (putCells (fun v : Value => v) 0 (flatK encR 2 d') c)[i]? = some ((encR Q[i / 2].1)[i % 2]!) := by
    have hic : i < c.size := by omega
    simp only [putCells, Array.getElem?_mapIdx, Array.getElem?_eq_getElem hic, Option.map_some, size_flatK, hps, Nat.zero_le, true_and, Nat.zero_add, hil, if_true, Nat.sub_zero]
    rw [get_flatK encR 2 d' i (by rw [hps]; exact hil), z1]
   rcases Nat.mod_two_eq_zero_or_one i with hp | hp
   ·have e1 : 2 * (i / 2) = i := by omega
    rw [e1] at k1
    rw [k1] at hx; cases hx
    rw [hp] at hcv
    have hcs : (encR Q[i / 2].1)[0]! = .string ⟨Q[i / 2].2.1.toArray⟩ := by rw [← z2]; rfl
    rw [hcs] at hcv
    exact ⟨_, hcv, rfl, .str _⟩
   ·have e1 : 2 * (i / 2) + 1 = i := by omega
    rw [e1] at k2
    rw [k2] at hx; cases hx
    rw [hp] at hcv
    exact ⟨_, hcv, Q[i / 2].1.2.2, z3.mono (hG.rowsKept hd) (fun b id hb => hG.obj b id (hd.lt_obj hb) hb)⟩
  | i + 1, hid => simp at hid
 ·obtain ⟨o, h1, h2⟩ := ho.ids b oid hb
  match oid, h1 with
  | 0, h1 => exact ⟨_, rfl, by simp⟩
  | i + 1, h1 => simp at h1
end Go.Proofs.YtinnaedmdoengaaGreat
namespace Go.Proofs.YtinnaedmdoengaaGreat
open Go.Abs
set_option linter.unusedSimpArgs false
set_option linter.unusedVariables false
attribute [go_sem] sliceSOut
def pre (p k : List UInt8) : Bool := decide (p.length ≤ k.length) && k.take p.length == p
noncomputable section
set_option maxRecDepth 100000
def s134r0 : List SOper := [
 ⟨some 4, .mov (.k (.d (.bool false))), none⟩]
def s134r1 : List SOper := [
 ⟨some 5, .mov (.t 0), none⟩,
 ⟨some 6, .lenS (.t 5), none⟩,
 ⟨some 7, .mov (.t 1), none⟩,
 ⟨some 8, .lenS (.t 7), none⟩,
 ⟨some 9, .bin .geq (.t 6) (.t 8), none⟩,
 ⟨some 10, .mov (.t 9), none⟩,
 ⟨some 11, .mov (.t 0), some (10, true)⟩,
 ⟨some 12, .mov (.t 1), some (10, true)⟩,
 ⟨some 13, .lenS (.t 12), some (10, true)⟩,
 ⟨some 14, .sliceS (.t 11) none (some (.t 13)), some (10, true)⟩,
 ⟨some 15, .mov (.t 1), some (10, true)⟩,
 ⟨some 16, .bin .eql (.t 14) (.t 15), some (10, true)⟩,
 ⟨some 17, .pick (.t 10) (.t 16) (.k (.d (.bool false))), none⟩,
 ⟨some 4, .mov (.t 17), none⟩]
def s134 : SCode := (.seq (.region s134r0 0 []) (.seq (.region s134r1 0 []) .ret))
theorem xhx : CodeIs s134.eq_1 := qc s134.eq_1
theorem q0o : RegIs s134r0.eq_1 := qa
theorem q0p : RegIs s134r1.eq_1 := qa
attribute [go_sem] q0o q0p xhx
theorem xbw : FnIs Tryz.prog 134 Tryz.f134 [] news s134 [.tmp 4] 18 := qz follows Tryz.func134
def s75r0 : List SOper := [
 ⟨some 4, .mov (.k (.d (.bool false))), none⟩]
def s75r1 : List SOper := [
 ⟨some 5, .mov (.t 0), none⟩,
 ⟨some 6, .mov (.t 1), none⟩,
 ⟨some 7, .call (.k (.d (.func (.func 134) [] []))) [(.t 5), (.t 6)], none⟩,
 ⟨some 4, .mov (.t 7), none⟩]
def s75 : SCode := (.seq (.region s75r0 0 []) (.seq (.region s75r1 0 []) .ret))
theorem e75 : CodeIs s75.eq_1 := qc s75.eq_1
theorem xbx : RegIs s75r0.eq_1 := qa
theorem xby : RegIs s75r1.eq_1 := qa
attribute [go_sem] xbx xby e75
theorem F75 : FnIs Tryz.prog 75 Tryz.f75 [] news s75 [.tmp 4] 8 := qz follows Tryz.func75
end
theorem yw (k p : List UInt8) : ACall Tryz.prog 134 [.d (.str k), .d (.str p)] [] (.d (.bool (pre p k))) [] := by
 refine xbw.go ?_
 by_cases h : p.length ≤ k.length
 ·have hd : decide ((k.length : Int) ≥ (p.length : Int)) = true := by simpa using h
  have hd2 : decide (p.length ≤ k.length) = true := by simpa using h
  try (refine ev3 @pre.eq_1 @hd @hd2 ?_; try exact True.intro)
  (repeat (with_reducible refine ob ?_))
  try (refine ev2 @hd @Nat.sub_zero ?_; try exact True.intro)
 ·have hd : decide ((k.length : Int) ≥ (p.length : Int)) = false := by simpa using h
  have hd2 : decide (p.length ≤ k.length) = false := by simpa using h
  try (refine ev3 @pre.eq_1 @hd @hd2 ?_; try exact True.intro)
  (repeat (with_reducible refine ob ?_))
  try (refine ev1 @hd ?_; try exact True.intro)
theorem qba (k p : List UInt8) : ACall Tryz.prog 75 [.d (.str k), .d (.str p)] [] (.d (.bool (pre p k))) [] := by
 refine F75.go ?_
 try (refine ev ?_; try exact True.intro)
 (repeat (with_reducible refine ob ?_)); first | refine cl xbw (yw k p) ?_ | refine clF xbw (yw k p) (fun _ => by simp only [encOp, encEn, go_sem, Nat.reduceAdd, Nat.reduceMul, Nat.reduceSub, Nat.reduceEqDiff, Nat.reduceLT, Nat.reduceLeDiff, Nat.reduceBEq, reduceIte, reduceCtorEq, Int.reduceAdd, Int.reduceLT, Int.reduceLE, Int.reduceGT, Int.reduceGE, Int.reduceEq, Int.reduceNe, Int.reduceBEq, Int.reduceBNe, Int.reduceToNat, Int.reduceNeg]) ?_
 try (refine ev ?_; try exact True.intro)
noncomputable section
set_option maxRecDepth 100000
def s33ur0 : List SOper := [
 ⟨some 4, .mov (.k (.d .nilsl)), none⟩]
def s33ur1 : List SOper := [
 ⟨some 8, .mov (.t 0), none⟩,
 ⟨some 9, .eqnil false .ptr (.t 8), none⟩]
def s33ur2 : List SOper := [
 ⟨some 4, .mov (.k (.d .nilsl)), none⟩]
def s33ur3 : List SOper := [
 ⟨some 5, .mov (.k (.d .nilsl)), none⟩]
def s33ur4 : List SOper := [
 ⟨some 10, .mov (.t 0), none⟩,
 ⟨some 11, .nilCheck (.t 10), none⟩,
 ⟨some 12, .faddr 2 (.t 11), none⟩,
 ⟨some 13, .load none (.t 12), none⟩,
 ⟨some 14, .rangeM 1 (.t 13), none⟩]
def s33ur5 : List SOper := [
 ⟨some 15, .nextM (.t 14), none⟩,
 ⟨some 16, .extract 0 (.t 15), none⟩]
def s33ur6 : List SOper := [
 ⟨some 17, .entryM (.t 14), none⟩,
 ⟨some 18, .extract 0 (.t 17), none⟩,
 ⟨some 19, .extract 1 (.t 17), none⟩,
 ⟨some 6, .mov (.t 18), none⟩,
 ⟨some 7, .mov (.t 19), none⟩]
def s33ur7 : List SOper := [
 ⟨some 20, .mov (.t 6), none⟩,
 ⟨some 21, .mov (.t 1), none⟩,
 ⟨some 22, .call (.k (.d (.func (.func 75) [] []))) [(.t 20), (.t 21)], none⟩]
def s33ur8 : List SOper := [
 ⟨some 23, .mov (.t 5), none⟩,
 ⟨some 24, .mov (.t 6), none⟩,
 ⟨some 25, .mov (.t 7), none⟩,
 ⟨some 26, .call (.k (.d (.func (.func 63) [] []))) [(.t 25)], none⟩,
 ⟨some 27, .build [(.str []), .nilsl] [(0, 1, (.t 24)), (1, 1, (.t 26))], none⟩,
 ⟨some 28, .buildSlice false 2 1 [(.str []), .nilsl] [(0, 2, (.t 27))], none⟩,
 ⟨some 29, .append true 2 40 (.t 23) (.t 28), none⟩,
 ⟨some 5, .mov (.t 29), none⟩]
def s33ul9 : SCode := (.seq (.region s33ur5 0 []) (.seq (.cond (.t 16) .skip (.exit 0)) (.block 1 (.seq (.region s33ur6 0 []) (.seq (.region s33ur7 0 []) (.cond (.t 22) (.region s33ur8 0 []) .skip))))))
theorem q0q : CodeIs s33ul9.eq_1 := qc s33ul9.eq_1
def s33ur10 : List SOper := [
 ⟨some 30, .mov (.t 5), none⟩,
 ⟨some 31, .call (.k (.d (.func (.func 76) [] []))) [(.t 30), (.k (.d (.func (.func 77) [] [])))], none⟩]
def s33ur11 : List SOper := [
 ⟨some 32, .mov (.t 5), none⟩,
 ⟨some 4, .mov (.t 32), none⟩]
def s33u : SCode := (.seq (.region s33ur0 0 []) (.seq (.seq (.region s33ur1 0 []) (.cond (.t 9) (.seq (.region s33ur2 0 []) (.pause .ret)) .skip)) (.seq (.region s33ur3 0 []) (.seq (.seq (.region s33ur4 1 []) (.block 0 (.loop s33ul9))) (.seq (.pause (.region s33ur10 0 [])) (.seq (.region s33ur11 0 []) (.pause .ret)))))))
theorem xhy : CodeIs s33u.eq_1 := qc s33u.eq_1
theorem q0r : RegIs s33ur0.eq_1 := qa
theorem q0s : RegIs s33ur1.eq_1 := qa
theorem q0t : RegIs s33ur2.eq_1 := qa
theorem q0u : RegIs s33ur3.eq_1 := qa
theorem q0v : RegIs s33ur4.eq_1 := qa
theorem q0w : RegIs s33ur5.eq_1 := qa
theorem q0x : RegIs s33ur6.eq_1 := qa
theorem q0y : RegIs s33ur7.eq_1 := qa
theorem q0z : RegIs s33ur8.eq_1 := qa
theorem qvi : RegIs s33ur10.eq_1 := qa
theorem qvj : RegIs s33ur11.eq_1 := qa
attribute [go_sem] q0r q0s q0t q0u q0v q0w q0x q0y q0z q0q qvi qvj xhy
theorem xgj : FnIs Tryz.prog 33 Tryz.f33 [29] news s33u [.tmp 4] 33 := qz follows Tryz.func33
def s76r0 : List SOper := [
 ⟨some 5, .mov (.t 0), none⟩,
 ⟨some 6, .len (.t 5), none⟩,
 ⟨some 4, .mov (.t 6), none⟩]
def s76r1 : List SOper := [
 ⟨some 7, .mov (.t 0), none⟩,
 ⟨some 8, .mov (.t 4), none⟩,
 ⟨some 9, .mov (.t 4), none⟩,
 ⟨some 10, .conv .u64 (.t 9), none⟩,
 ⟨some 11, .call (.k (.d (.func (.func 136) [] []))) [(.t 10)], none⟩,
 ⟨some 12, .mov (.t 1), none⟩,
 ⟨some 13, .call (.k (.d (.func (.func 135) [] []))) [(.t 7), (.k (.d (.int .i64 0))), (.t 8), (.t 11), (.t 12)], none⟩]
def s76 : SCode := (.seq (.region s76r0 0 []) (.region s76r1 0 []))
theorem e76 : CodeIs s76.eq_1 := qc s76.eq_1
theorem xbz : RegIs s76r0.eq_1 := qa
theorem xb0 : RegIs s76r1.eq_1 := qa
attribute [go_sem] xbz xb0 e76
theorem F76 : FnIs Tryz.prog 76 Tryz.f76 [] news s76 [] 14 := qz follows Tryz.func76
end
theorem qkq {α β : Type} {f : α → β} : ∀ {l : List α}, (l.map f).Nodup → ∀ {x y : α}, x ∈ l → y ∈ l → f x = f y → x = y
 | [], _, x, y, hx, _, _ => by cases hx
 | a :: l, hn, x, y, hx, hy, h => by
  simp only [List.map_cons, List.nodup_cons, List.mem_map, not_exists, not_and] at hn
  rcases List.mem_cons.1 hx with rfl | hx'
  ·rcases List.mem_cons.1 hy with rfl | hy'
   ·rfl
   ·exact absurd h.symm (hn.1 y hy')
  ·rcases List.mem_cons.1 hy with rfl | hy'
   ·exact absurd h (hn.1 x hx')
   ·exact qkq hn.2 hx' hy' h
theorem zb {α β : Type} (f : α → β) : ∀ {l : List α}, (l.map f).Nodup → l.Nodup
 | [], _ => List.nodup_nil
 | a :: l, hn => by
  simp only [List.map_cons, List.nodup_cons, List.mem_map, not_exists, not_and] at hn ⊢
  exact ⟨fun h => hn.1 a h rfl, zb f hn.2⟩
theorem qls {α : Type} (f : α → Nat) : ∀ {l : List α}, (l.map f).Nodup → ∀ {x : α}, x ∈ l → (l.find? fun y => f y == f x) = some x
 | [], _, x, hx => by cases hx
 | a :: l, hn, x, hx => by
  rw [List.find?_cons]
  by_cases h : f a = f x
  ·have := qkq hn (List.mem_cons_self ..) hx h
   subst this
   simp
  ·rw [beq_false_of_ne h]
   rcases List.mem_cons.1 hx with rfl | hx'
   ·exact absurd rfl h
   ·exact qls f (by simp only [List.map_cons, List.nodup_cons] at hn; exact hn.2) hx'
theorem qp5 {α : Type} [DecidableEq α] : ∀ {a b : List α}, a.Nodup → (∀ x ∈ a, x ∈ b) → a.length ≤ b.length
 | [], _, _, _ => Nat.zero_le _
 | x :: a, b, h, hs => by
  have hx := hs x (List.mem_cons_self ..)
  have h' := List.nodup_cons.1 h
  have := qp5 (a := a) (b := b.erase x) h'.2 fun y hy => (List.mem_erase_of_ne (by rintro rfl; exact h'.1 hy)).2 (hs y (List.mem_cons_of_mem _ hy))
  rw [List.length_erase_of_mem hx] at this
  have := List.length_pos_of_mem hx
  simp only [List.length_cons]; omega
theorem qno (l : List En) : (l.map encEn).flatten = flatEn l := rfl
theorem qkr (l : List En) : (flatEn l).all D.isCell = true := by induction l <;> simp_all [flatEn, encEn, D.isCell]
attribute [go_sem] qno qig qkr
structure Cont.Ok (m : Cont) : Prop where
 num : (m.l.map (·.1)).Nodup
 lt : ∀ x ∈ m.l, x.1 < m.c
 key : (m.l.map (·.2.1)).Nodup
def enOf (x : KV) : En := (x.2.1, x.2.2)
def preL (p : List UInt8) (l : List KV) : List En := (l.filter fun x => pre p x.2.1).map enOf
def sList (m : Cont) (p : List UInt8) : List En := sortEn (preL p m.l)
theorem qih {p : List UInt8} {l : List KV} (h : (l.map (·.2.1)).Nodup) : ((preL p l).map (·.1)).Nodup := by
 unfold preL
 rw [List.map_map]
 exact List.Nodup.sublist (List.Sublist.map _ List.filter_sublist) h
theorem qp6 {a b : List En} (h : a.Perm b) (hn : (a.map (·.1)).Nodup) : sortEn a = sortEn b := by
 have h1 := xm a
 have h2 := xm b
 refine vy (h1.trans (h.trans h2.symm)) ((h1.map (fun x : En => x.1)).nodup_iff.2 hn) (jb a) (jb b)
def Slist (s : Sto) (p : List UInt8) (i : { i : List KV // (i.map (·.1)).Nodup ∧ ∀ x ∈ i, x ∈ s.m.l }) : St :=
 ⟨[(1, true, .d (.str p)), (5, true, .uni 0 2 ((preL p i.val).map encEn)), (14, true, .d (.ptr 2 0))], [stoO s 1, mapO s.m, .iter (.d (.map 1)) s.m.c (i.val.map (·.1)) s.m.c], [0], 1⟩
set_option maxRecDepth 10000 in
theorem qvk (s : Sto) (p : List UInt8) (hm : s.m.Ok) (hl : s.m.l.length ≤ 1000) (hv : ∀ x ∈ s.m.l, x.2.2.length ≤ 1000000) :
  ACall Tryz.prog 33 [.d (.ptr 0 0), .d (.str p)] [stoO s 1, mapO s.m] (.d (.sl 2 ((sList s.m p).map encEn))) [stoO s 1, mapO s.m] := by
 refine xgj.go ?_
 try (refine ev2 @stoO.eq_1 @mapO.eq_1 ?_; try exact True.intro)
 (repeat (with_reducible refine ob ?_)); refine no_ ?_
 try (refine ev ?_; try exact True.intro)
 refine qm (Slist s p) (fun i => s.m.l.length - i.val.length) ⟨[], by simp, by simp⟩ ?_ (fun i => ?_)
 ·try (refine ev6 @Slist.eq_1 @stoO.eq_1 @mapO.eq_1 @preL.eq_1 @List.filter_nil.{0} @List.map_nil.{0,0} ?_; try exact True.intro)
 obtain ⟨i, hi1, hi2⟩ := i
 try (refine ev3 @Slist.eq_1 @stoO.eq_1 @mapO.eq_1 ?_; try exact True.intro)
 have hleft : leftE (s.m.l.map encKV) (i.map (·.1)) = (s.m.l.filter fun x => !(i.map (·.1)).contains x.1).map encKV := by
  unfold leftE
  rw [List.filter_map]; rfl
 have hone : ∀ x ∈ s.m.l, ∀ y ∈ s.m.l, x.1 = y.1 → x = y := fun x hx y hy h => qkq hm.num hx hy h
 refine qsb (last := s.m.c) ⟨rfl, rfl, by intro e he; obtain ⟨x, hx, rfl⟩ := List.mem_map.1 he; exact hm.lt x hx, Nat.le_refl _⟩ (fun hl0 => ?_) (fun e he => ?_)
 ·
  rw [hleft, List.map_eq_nil_iff, List.filter_eq_nil_iff] at hl0
  have hall : ∀ x ∈ s.m.l, x ∈ i := by
   intro x hx
   have := hl0 x hx
   simp only [List.contains_eq_mem, decide_eq_true_eq, Bool.not_eq_true, Bool.not_eq_false', Bool.not_not] at this
   simp at this
   obtain ⟨a, b, hab⟩ := this
   have := hone x hx _ (hi2 _ hab) rfl
   rw [this]; exact hab
  have hperm : i.Perm s.m.l := by
   refine (List.perm_ext_iff_of_nodup (zb _ hi1) (zb _ hm.num)).2 fun x => ⟨hi2 x, hall x⟩
  have hpp : (preL p i).Perm (preL p s.m.l) := (hperm.filter _).map _
  have hpn : ((preL p i).map (·.1)).Nodup := by
   refine (hpp.map (fun x : En => x.1)).nodup_iff.2 ?_
   exact qih hm.key
  have hsame : sortEn (preL p i) = sList s.m p := qp6 hpp hpn
  have hlen : (preL p i).length ≤ 1000 := by
   have h1 := hpp.length_eq
   have h2 : (preL p s.m.l).length ≤ s.m.l.length := by simp only [preL, List.length_map]; exact List.length_filter_le _ _
   omega
  try (refine ev1 @overV.eq_1 ?_; try exact True.intro)
  (repeat (with_reducible refine ob ?_)); refine no_ ?_
  try (refine ev ?_; try exact True.intro)
  refine qt6 (.fr 5) 0 2 ((preL p i).map encEn) ?_
  refine pu ?_
  try (refine ev ?_; try exact True.intro)
  refine clO [3] F76 (qvh (preL p i) hpn (by omega)) ?_
  try (refine ev ?_; try exact True.intro)
  have hsl : (preL p i).length = (sortEn (preL p i)).length := (xm _).length_eq.symm
  rw [hsl]
  refine qt7 3 2 ((sortEn (preL p i)).map encEn) ?_ (hc := ?_) (hcc := ?_) (hes := ?_) (hok := D.okWR_noPtr (js _))
  ·refine pu ?_
   try (refine ev1 @hsame ?_; try exact True.intro)
  ·try (refine ev ?_; try exact True.intro)
  ·try (refine ev ?_; try exact True.intro)
  ·intro r hr
   obtain ⟨x, _, rfl⟩ := List.mem_map.1 hr
   rfl
 ·rw [hleft] at he
  obtain ⟨x, hx, rfl⟩ := List.mem_map.1 he
  rw [List.mem_filter] at hx
  obtain ⟨hx1, hx2⟩ := hx
  have hx3 : x.1 ∉ i.map (·.1) := by simpa using hx2
  have hnext : ((i ++ [x]).map (·.1)).Nodup ∧ ∀ y ∈ i ++ [x], y ∈ s.m.l := by
   refine ⟨by rw [List.map_append]; exact List.nodup_append.2 ⟨hi1, by simp, fun a ha b hb h => by simp at hb; subst hb; subst h; exact hx3 ha⟩, fun y hy => ?_⟩
   rcases List.mem_append.1 hy with h | h
   ·exact hi2 y h
   ·simp at h; subst h; exact hx1
  have hil : i.length < s.m.l.length := by
   have := qp5 (zb _ hnext.1) hnext.2
   simp at this; omega
  have hpl : (preL p i).length ≤ i.length := by simp only [preL, List.length_map]; exact List.length_filter_le _ _
  try (refine ev1 @entV.eq_1 ?_; try exact True.intro)
  (repeat (with_reducible refine ob ?_)); refine wx ?_
  try (refine ev ?_; try exact True.intro)
  refine qo4 (e := encKV x) (mid := 1) (since := s.m.c) (seen := i.map (·.1) ++ [x.1]) (clock := s.m.c) (es := s.m.l.map encKV) ⟨rfl, rfl, by simp [encKV], ?_⟩ ?_
  ·rw [List.find?_map]
   have h1 : s.m.l.find? ((fun e : Nat × D × D => e.1 == (encKV x).1) ∘ encKV) = some x := qls (fun y : KV => y.1) hm.num hx1
   rw [h1]; rfl
  try (refine ev1 @encKV.eq_1 ?_; try exact True.intro)
  (repeat (with_reducible refine ob ?_)); first | refine cl F75 (qba x.2.1 p) ?_ | refine clF F75 (qba x.2.1 p) (fun _ => by simp only [encOp, encEn, go_sem, Nat.reduceAdd, Nat.reduceMul, Nat.reduceSub, Nat.reduceEqDiff, Nat.reduceLT, Nat.reduceLeDiff, Nat.reduceBEq, reduceIte, reduceCtorEq, Int.reduceAdd, Int.reduceLT, Int.reduceLE, Int.reduceGT, Int.reduceGE, Int.reduceEq, Int.reduceNe, Int.reduceBEq, Int.reduceBNe, Int.reduceToNat, Int.reduceNeg]) ?_
  try (refine ev ?_; try exact True.intro)
  (repeat (with_reducible refine ob ?_)); refine xf _ (fun h => ?_) (fun h => ?_)
  ·try (refine ev ?_; try exact True.intro)
   (repeat (with_reducible refine ob ?_)); first | refine cl F63 (xo x.2.2 (by have := hv x hx1; omega)) ?_ | refine clF F63 (xo x.2.2 (by have := hv x hx1; omega)) (fun _ => by simp only [encOp, encEn, go_sem, Nat.reduceAdd, Nat.reduceMul, Nat.reduceSub, Nat.reduceEqDiff, Nat.reduceLT, Nat.reduceLeDiff, Nat.reduceBEq, reduceIte, reduceCtorEq, Int.reduceAdd, Int.reduceLT, Int.reduceLE, Int.reduceGT, Int.reduceGE, Int.reduceEq, Int.reduceNe, Int.reduceBEq, Int.reduceBNe, Int.reduceToNat, Int.reduceNeg]) ?_
   try (refine ev ?_; try exact True.intro)
   refine ⟨by omega, ?_⟩
   have hpx : preL p (i ++ [x]) = preL p i ++ [enOf x] := by simp [preL, h]
   refine ⟨⟨i ++ [x], hnext⟩, ?_, by simp only [List.length_append, List.length_singleton]; omega⟩
   try (refine ev7 @Slist.eq_1 @stoO.eq_1 @mapO.eq_1 @hpx @List.map_append.{0,0} @encEn.eq_1 @enOf.eq_1 ?_; try exact True.intro)
  ·have hpx : preL p (i ++ [x]) = preL p i := by simp [preL, h]
   try (refine ev ?_; try exact True.intro)
   refine ⟨⟨i ++ [x], hnext⟩, ?_, by simp only [List.length_append, List.length_singleton]; omega⟩
   try (refine ev7 @Slist.eq_1 @stoO.eq_1 @mapO.eq_1 @hpx @List.map_append.{0,0} @encEn.eq_1 @enOf.eq_1 ?_; try exact True.intro)
end Go.Proofs.YtinnaedmdoengaaGreat
namespace Go.Proofs.YtinnaedmdoengaaGreat
open Go.Abs
set_option linter.unusedSimpArgs false
set_option linter.unusedVariables false
theorem zc {k : List UInt8} {x : KV} : hasKey k x = true ↔ k = x.2.1 := by simp [hasKey]
theorem qcy {k v : List UInt8} : ∀ {l : List KV} {j : Nat}, l.findIdx? (hasKey k) = some j → ∀ k', (l.modify j fun e => (e.1, k, v)).find? (hasKey k') = if k' = k then some ((l[j]?.getD (0, [], [])).1, k, v) else l.find? (hasKey k')
 | [], j, h, k' => by simp at h
 | a :: l, j, h, k' => by
  rw [List.findIdx?_cons] at h
  by_cases ha : hasKey k a = true
  ·rw [if_pos ha] at h
   cases h
   simp only [List.modify_zero_cons, List.find?_cons, List.getElem?_cons_zero, Option.getD_some]
   by_cases hk : k' = k
   ·subst hk
    have : hasKey k' (a.1, k', v) = true := zc.2 rfl
    rw [this, if_pos rfl]
   ·have h1 : hasKey k' (a.1, k, v) = false := by simpa [hasKey] using hk
    have h2 : hasKey k' a = false := by rw [zc] at ha; simp [hasKey, ← ha, hk]
    rw [h1, h2, if_neg hk]
  ·rw [if_neg (by simpa using ha)] at h
   obtain ⟨i, hi, rfl⟩ := Option.map_eq_some_iff.1 h
   simp only [List.modify_succ_cons, List.find?_cons, List.getElem?_cons_succ]
   have ih := qcy (v := v) hi k'
   by_cases hk : k' = k
   ·subst hk
    have : hasKey k' a = false := by simpa using ha
    rw [this]
    exact ih
   ·cases h2 : hasKey k' a with
    | true => rw [if_neg hk]
    | false => rw [ih]
theorem qii {k : List UInt8} {l : List KV} (h : l.findIdx? (hasKey k) = none) : l.find? (hasKey k) = none := by
 rw [List.findIdx?_eq_none_iff] at h
 exact List.find?_eq_none.2 fun x hx => by rw [h x hx]; simp
theorem qlt (k v : List UInt8) (m : Cont) (k' : List UInt8) : mGet k' (mPut k v m) = if k' = k then some v else mGet k' m := by
 unfold mGet mPut
 cases h : m.l.findIdx? (hasKey k) with
 | some j =>
  simp only [qcy h k']
  split <;> rfl
 | none =>
  simp only [List.find?_append]
  by_cases hk : k' = k
  ·subst hk
   rw [qii h, if_pos rfl]
   simp [hasKey]
  ·rw [if_neg hk]
   have : [(m.c, k, v)].find? (hasKey k') = none := by simp [hasKey, hk]
   rw [this, Option.or_none]
theorem qeo {k v : List UInt8} : ∀ {l : List KV} {j : Nat}, l.findIdx? (hasKey k) = some j → (l.modify j fun e => (e.1, k, v)).map (·.2.1) = l.map (·.2.1) ∧ (l.modify j fun e => (e.1, k, v)).map (·.1) = l.map (·.1)
 | [], j, h => by simp at h
 | a :: l, j, h => by
  rw [List.findIdx?_cons] at h
  by_cases ha : hasKey k a = true
  ·rw [if_pos ha] at h
   cases h
   rw [zc] at ha
   simp only [List.modify_zero_cons, List.map_cons, ha, and_self]
  ·rw [if_neg (by simpa using ha)] at h
   obtain ⟨i, hi, rfl⟩ := Option.map_eq_some_iff.1 h
   obtain ⟨h1, h2⟩ := qeo (v := v) hi
   simp only [List.modify_succ_cons, List.map_cons, h1, h2, and_self]
theorem qep {α : Type} {l : List α} {x : α} (h : l.Nodup) (hx : x ∉ l) : (l ++ [x]).Nodup :=
 List.nodup_append.2 ⟨h, by simp, fun a ha b hb e => by simp at hb; subst hb; subst e; exact hx ha⟩
theorem qcz {m : Cont} (h : m.Ok) (k v : List UInt8) : (mPut k v m).Ok := by
 unfold mPut
 cases hf : m.l.findIdx? (hasKey k) with
 | some j =>
  obtain ⟨h1, h2⟩ := qeo (v := v) hf
  refine ⟨by simpa only [h2] using h.num, fun x hx => ?_, by simpa only [h1] using h.key⟩
  have : x.1 ∈ (m.l.modify j fun e => (e.1, k, v)).map (·.1) := List.mem_map_of_mem hx
  rw [h2] at this
  obtain ⟨y, hy, he⟩ := List.mem_map.1 this
  rw [← he]; exact h.lt y hy
 | none =>
  rw [List.findIdx?_eq_none_iff] at hf
  refine ⟨?_, fun x hx => ?_, ?_⟩
  ·rw [List.map_append]
   refine qep h.num fun hm => ?_
   obtain ⟨y, hy, he⟩ := List.mem_map.1 hm
   have := h.lt y hy
   simp only at he
   omega
  ·simp only
   rcases List.mem_append.1 hx with hx | hx
   ·have := h.lt x hx; omega
   ·simp at hx; subst hx; simp
  ·rw [List.map_append]
   refine qep h.key fun hm => ?_
   obtain ⟨y, hy, he⟩ := List.mem_map.1 hm
   have := hf y hy
   simp [hasKey, he] at this
theorem yx (k : List UInt8) (m : Cont) : (mDel k m).l.Sublist m.l := by
 unfold mDel
 split
 ·exact List.eraseIdx_sublist ..
 ·exact List.Sublist.refl _
theorem qc0 {m : Cont} (h : m.Ok) (k : List UInt8) : (mDel k m).Ok :=
 ⟨List.Nodup.sublist ((yx k m).map _) h.num, fun x hx => by rw [qt8]; exact h.lt x ((yx k m).subset hx), List.Nodup.sublist ((yx k m).map _) h.key⟩
theorem qeq {k : List UInt8} : ∀ {l : List KV} {j : Nat}, l.findIdx? (hasKey k) = some j → (l.map (·.2.1)).Nodup → ∀ k', (l.eraseIdx j).find? (hasKey k') = if k' = k then none else l.find? (hasKey k')
 | [], j, h, _, k' => by simp at h
 | a :: l, j, h, hn, k' => by
  rw [List.findIdx?_cons] at h
  simp only [List.map_cons, List.nodup_cons] at hn
  by_cases ha : hasKey k a = true
  ·rw [if_pos ha] at h
   cases h
   rw [zc] at ha
   simp only [List.eraseIdx_cons_zero, List.find?_cons]
   by_cases hk : k' = k
   ·subst hk
    rw [if_pos rfl]
    refine List.find?_eq_none.2 fun x hx hk => ?_
    rw [zc] at hk
    exact hn.1 (List.mem_map.2 ⟨x, hx, by rw [← ha, ← hk]⟩)
   ·rw [if_neg hk]
    have h2 : hasKey k' a = false := by simp [hasKey, ← ha, hk]
    rw [h2]
  ·rw [if_neg (by simpa using ha)] at h
   obtain ⟨i, hi, rfl⟩ := Option.map_eq_some_iff.1 h
   simp only [List.eraseIdx_cons_succ, List.find?_cons]
   have ih := qeq hi hn.2 k'
   by_cases hk : k' = k
   ·subst hk
    have : hasKey k' a = false := by simpa using ha
    rw [this, if_pos rfl]
    rw [if_pos rfl] at ih
    exact ih
   ·cases h2 : hasKey k' a with
    | true => rw [if_neg hk]
    | false => rw [ih]
theorem qlu {m : Cont} (h : m.Ok) (k k' : List UInt8) : mGet k' (mDel k m) = if k' = k then none else mGet k' m := by
 unfold mGet mDel
 cases hf : m.l.findIdx? (hasKey k) with
 | some j =>
  simp only [qeq hf h.key k']
  split <;> rfl
 | none =>
  simp only
  split
  ·rename_i hk; subst hk; rw [qii hf]; rfl
  ·rfl
theorem q8o (k v : List UInt8) (m : Cont) : (mPut k v m).l.length ≤ m.l.length + 1 := by
 unfold mPut
 split <;> simp
theorem qlv (k : List UInt8) (m : Cont) : (mDel k m).l.length ≤ m.l.length := (yx k m).length_le
def kvOk (x : KV) : Prop := 1 ≤ x.2.1.length ∧ x.2.1.length ≤ 40 ∧ x.2.2.length ≤ 900
theorem qti {k v : List UInt8} {m : Cont} {x : KV} (h : x ∈ (mPut k v m).l) : x ∈ m.l ∨ (x.2.1 = k ∧ x.2.2 = v) := by
 unfold mPut at h
 split at h
 ·rename_i j hj
  simp only at h
  obtain ⟨i, hi⟩ := List.getElem?_of_mem h
  rw [List.getElem?_modify] at hi
  cases hg : m.l[i]? with
  | none => rw [hg] at hi; cases hi
  | some y =>
   rw [hg] at hi
   simp only [Option.map_eq_map, Option.map_some, Option.some.injEq] at hi
   split at hi
   ·subst hi; exact .inr ⟨rfl, rfl⟩
   ·subst hi; exact .inl (List.mem_of_getElem? hg)
 ·rcases List.mem_append.1 h with h | h
  ·exact .inl h
  ·simp at h; subst h; exact .inr ⟨rfl, rfl⟩
structure Cont.Good (m : Cont) : Prop where
 ok : m.Ok
 few : m.l.length ≤ 400
 small : ∀ x ∈ m.l, kvOk x
theorem kr : ∀ (l : List OpS) {m : Cont}, m.Good → (∀ o ∈ l, sProper o = true) → (mApply m l).2 = true → (mApply m l).1.Good
 | [], m, h, _, _ => h
 | o :: l, m, h, hp, hy => by
  rw [mApply] at hy ⊢
  have ho := xl.1 (hp o (List.mem_cons_self ..))
  have hp' := fun x hx => hp x (List.mem_cons_of_mem _ hx)
  split at hy
  ·rename_i hd
   rw [if_pos hd]
   exact kr l ⟨qc0 h.ok _, Nat.le_trans (qlv _ _) h.few, fun x hx => h.small x ((yx _ _).subset hx)⟩ hp' hy
  ·rename_i hd
   rw [if_neg hd]
   split at hy
   ·cases hy
   ·rename_i h4
    rw [if_neg h4]
    refine kr l ⟨qcz h.ok _ _, by omega, fun x hx => ?_⟩ hp' hy
    rcases qti hx with hx | ⟨h1, h2⟩
    ·exact h.small x hx
    ·exact ⟨by rw [h1]; exact ho.1, by rw [h1]; exact ho.2.1, by rw [h2]; exact ho.2.2.1⟩
theorem qks (f r : List UInt8) (hr : r.length ≤ 2000) : (wAppend f r).length ≤ f.length + 70000 := by
 have := qcv _ r (Nat.le_refl _)
 unfold wAppend
 rw [qcw _ _ (fun q hq => (x9 _ r (Nat.le_refl _) q hq).2)]
 simp only; omega
structure Sto.Ok (n : Nat) (s : Sto) : Prop where
 good : s.m.Good
 file : s.file.length ≤ n * 70000
theorem qp7 (n : Nat) : newS.Ok n := by
 refine ⟨⟨⟨List.nodup_nil, fun x hx => (by cases hx), List.nodup_nil⟩, ?_, fun x hx => (by cases hx)⟩, ?_⟩
 ·simp only [newS, emptyC, List.length_nil, Nat.zero_le]
 ·simp only [newS, List.length_nil, Nat.zero_le]
theorem Sto.Ok.mono {n m : Nat} {s : Sto} (h : s.Ok n) (hn : n ≤ m) : s.Ok m := ⟨h.good, Nat.le_trans h.file (Nat.mul_le_mul_right _ hn)⟩
theorem qf8 (s : Sto) (l : List OpS) : ((sCommit s l).2 ≠ 0 ∧ (sCommit s l).1 = s) ∨ ((sCommit s l).2 = 0 ∧ (sEncode l).2 = 0 ∧ (mApply s.m l).2 = true ∧ (sCommit s l).1 = ⟨wAppend s.file (sEncode l).1, s.synced, (mApply s.m l).1⟩) := by
 unfold sCommit
 split
 ·exact .inl ⟨by assumption, rfl⟩
 ·split
  ·exact .inl ⟨by simp, rfl⟩
  ·rename_i h1 h2
   exact .inr ⟨rfl, by simpa using h1, by simpa using h2, rfl⟩
theorem qc1 {n : Nat} {s : Sto} (h : s.Ok n) (l : List OpS) : (sCommit s l).1.Ok (n + 1) := by
 rcases qf8 s l with ⟨_, he⟩ | ⟨_, h1, h2, he⟩
 ·rw [he]; exact h.mono (Nat.le_succ _)
 ·rw [he]
  refine ⟨kr l h.good (jr h1).2.1 h2, ?_⟩
  have := qks s.file _ (kq l)
  have := h.file
  simp only; omega
theorem qer {s : Sto} {l : List OpS} (hl : l.length ≤ 100000) (hf : s.file.length ≤ 100000000) (h : (sCommit s l).2 = 0) :
  ACall Tryz.prog 14 [.d (.ptr 0 0), .d (.sl 3 (l.map encOp))] [stoO s 1, mapO s.m] (.d (.int .i64 0)) [stoO (sCommit s l).1 2, mapO s.m, mapO (sCommit s l).1.m] := by
 have := qif s l hl hf
 rw [afterC, if_pos h, h] at this
 exact this
theorem q00 {s : Sto} {l : List OpS} (hl : l.length ≤ 100000) (hf : s.file.length ≤ 100000000) (h : (sCommit s l).2 ≠ 0) :
  ACall Tryz.prog 14 [.d (.ptr 0 0), .d (.sl 3 (l.map encOp))] [stoO s 1, mapO s.m] (.d (.int .i64 (sCommit s l).2)) [stoO s 1, mapO s.m, .none] := by
 have := qif s l hl hf
 rw [afterC, if_neg h] at this
 exact this
def lastOf (k : List UInt8) : Option (List UInt8) → List OpS → Option (List UInt8)
 | a, [] => a
 | a, o :: l => lastOf k (if o.key = k then (if o.del then none else some o.val) else a) l
theorem qes (k : List UInt8) : ∀ (l : List OpS) {m : Cont}, m.Ok → (mApply m l).2 = true → mGet k (mApply m l).1 = lastOf k (mGet k m) l
 | [], m, _, _ => rfl
 | o :: l, m, h, hy => by
  rw [mApply] at hy ⊢
  rw [lastOf]
  split at hy
  ·rename_i hd
   rw [if_pos hd, qes k l (qc0 h _) hy, qlu h]
   congr 1
   by_cases hk : k = o.key
   ·rw [if_pos hk, if_pos hk.symm, if_pos hd]
   ·rw [if_neg hk, if_neg (Ne.symm hk)]
  ·rename_i hd
   rw [if_neg hd]
   split at hy
   ·cases hy
   ·rename_i h4
    rw [if_neg h4, qes k l (qcz h _ _) hy, qlt]
    congr 1
    by_cases hk : k = o.key
    ·rw [if_pos hk, if_pos hk.symm, if_neg hd]
    ·rw [if_neg hk, if_neg (Ne.symm hk)]
end Go.Proofs.YtinnaedmdoengaaGreat
namespace Go.Proofs.YtinnaedmdoengaaGreat
open Go.Abs
set_option linter.unusedSimpArgs false
set_option linter.unusedVariables false
theorem yy : ∀ a b : List UInt8, Op.bytesLess a b = decide (cmpB a b < 0)
 | [], [] => rfl
 | [], _ :: _ => rfl
 | _ :: _, [] => rfl
 | a :: l, b :: m => by
  have ih := yy l m
  simp only [cmpB] at ih
  simp only [Op.bytesLess, cmpB, Lib.compareBytes, ih]
  by_cases h1 : a < b
  ·simp [h1]
  ·by_cases h2 : b < a
   ·have : ¬ a = b := by rintro rfl; exact h1 h2
    simp [h1, h2, this]
   ·have : a = b := by
     apply UInt8.toNat_inj.1
     rw [UInt8.lt_iff_toNat_lt] at h1 h2
     omega
    simp [h1, h2, this]
def Sorted (l : List En) : Prop := l.Pairwise fun a b => cmpB a.1 b.1 < 0
theorem Sorted.keys {l : List En} (h : Sorted l) : (l.map (·.1)).Nodup := by
 unfold List.Nodup
 rw [List.pairwise_map]
 exact h.imp fun {a b} hab e => by rw [e, yu] at hab; omega
theorem Sorted.le {l : List En} (h : Sorted l) : l.Pairwise fun a b => cmpB a.1 b.1 ≤ 0 := h.imp fun hab => Int.le_of_lt hab
theorem qap {l m : List En} (hl : Sorted l) (hm : Sorted m) (h : ∀ x, x ∈ l ↔ x ∈ m) : l = m :=
 vy ((List.perm_ext_iff_of_nodup (zb _ hl.keys) (zb _ hm.keys)).2 h) hl.keys hl.le hm.le
theorem qp8 {l : List En} (h : l.Pairwise fun a b => cmpB a.1 b.1 ≤ 0) (hn : (l.map (·.1)).Nodup) : Sorted l := by
 unfold List.Nodup at hn
 rw [List.pairwise_map] at hn
 refine (h.and hn).imp fun {a b} hab => ?_
 obtain ⟨h1, h2⟩ := hab
 rcases Int.lt_or_eq_of_le h1 with h3 | h3
 ·exact h3
 ·exact (h2 (yv h3)).elim
theorem qbb {m : Cont} (h : m.Ok) (p : List UInt8) : Sorted (sList m p) := by
 refine qp8 (jb _) ?_
 exact ((xm (preL p m.l)).map (fun x : En => x.1)).nodup_iff.2 (qih h.key)
theorem qlw : ∀ {l : List KV}, (l.map (·.2.1)).Nodup → ∀ {x : KV}, x ∈ l → l.find? (hasKey x.2.1) = some x
 | [], _, x, hx => by cases hx
 | a :: l, hn, x, hx => by
  rw [List.find?_cons]
  simp only [List.map_cons, List.nodup_cons] at hn
  rcases List.mem_cons.1 hx with rfl | hx'
  ·rw [zc.2 rfl]
  ·have : hasKey x.2.1 a = false := by
    cases h : hasKey x.2.1 a with
    | false => rfl
    | true => exact (hn.1 (List.mem_map.2 ⟨x, hx', zc.1 h⟩)).elim
   rw [this]
   exact qlw hn.2 hx'
theorem qij {m : Cont} (h : m.Ok) (p : List UInt8) (x : En) : x ∈ sList m p ↔ mGet x.1 m = some x.2 ∧ pre p x.1 = true := by
 rw [sList, (xm _).mem_iff, preL, List.mem_map]
 constructor
 ·rintro ⟨y, hy, rfl⟩
  obtain ⟨h1, h2⟩ := List.mem_filter.1 hy
  refine ⟨?_, h2⟩
  unfold mGet enOf
  rw [qlw h.key h1]; rfl
 ·rintro ⟨h1, h2⟩
  unfold mGet at h1
  rw [Option.map_eq_some_iff] at h1
  obtain ⟨y, hy, he⟩ := h1
  have hk := zc.1 (List.find?_some hy)
  refine ⟨y, List.mem_filter.2 ⟨List.mem_of_find?_eq_some hy, by rw [← hk]; exact h2⟩, ?_⟩
  unfold enOf
  rw [← hk, he]
theorem qp9 (k : List UInt8) : pre [] k = true := by simp [pre]
def eSet (x : En) : List En → List En
 | [] => [x]
 | y :: l => if Op.bytesLess y.1 x.1 = true then y :: eSet x l else if y.1 = x.1 then x :: l else x :: y :: l
def eDel (k : List UInt8) (l : List En) : List En := l.filter fun e => !(e.1 == k)
def eOp (l : List En) (o : OpS) : List En := if o.del then eDel o.key l else eSet (o.key, o.val) l
def eApply : List En → List OpS → List En × Bool
 | l, [] => (l, true)
 | l, o :: r => if (eOp l o).length > 400 then ([], false) else eApply (eOp l o) r
theorem qf9 {x : En} : ∀ {l : List En}, Sorted l → ∀ y, y ∈ eSet x l ↔ y = x ∨ (y ∈ l ∧ y.1 ≠ x.1)
 | [], _, y => by simp [eSet]
 | a :: l, h, y => by
  have h' := List.pairwise_cons.1 h
  rw [eSet]
  split
  ·rename_i hlt
   rw [yy, decide_eq_true_eq] at hlt
   have hne : a.1 ≠ x.1 := fun e => by rw [e, yu] at hlt; omega
   rw [List.mem_cons, qf9 h'.2, List.mem_cons]
   constructor
   ·rintro (rfl | h1 | ⟨h1, h2⟩)
    ·exact .inr ⟨.inl rfl, hne⟩
    ·exact .inl h1
    ·exact .inr ⟨.inr h1, h2⟩
   ·rintro (h1 | ⟨rfl | h1, h2⟩)
    ·exact .inr (.inl h1)
    ·exact .inl rfl
    ·exact .inr (.inr ⟨h1, h2⟩)
  ·rename_i hlt
   rw [yy, decide_eq_true_eq] at hlt
   have hge : cmpB x.1 a.1 ≤ 0 := jh.1 hlt
   have hgt : ∀ z ∈ l, z.1 ≠ x.1 := fun z hz e => by
    have h1 := h'.1 z hz
    rw [e] at h1
    have := vm a.1 x.1
    omega
   split
   ·rename_i he
    simp only [List.mem_cons]
    constructor
    ·rintro (h1 | h1)
     ·exact .inl h1
     ·exact .inr ⟨.inr h1, hgt y h1⟩
    ·rintro (h1 | ⟨rfl | h1, h2⟩)
     ·exact .inl h1
     ·exact (h2 he).elim
     ·exact .inr h1
   ·rename_i he
    simp only [List.mem_cons]
    constructor
    ·rintro (h1 | rfl | h1)
     ·exact .inl h1
     ·exact .inr ⟨.inl rfl, he⟩
     ·exact .inr ⟨.inr h1, hgt y h1⟩
    ·rintro (h1 | ⟨h1 | h1, h2⟩)
     ·exact .inl h1
     ·exact .inr (.inl h1)
     ·exact .inr (.inr h1)
theorem qc2 {x : En} : ∀ {l : List En}, Sorted l → Sorted (eSet x l)
 | [], _ => List.pairwise_singleton _ _
 | a :: l, h => by
  have h' := List.pairwise_cons.1 h
  rw [eSet]
  split
  ·rename_i hlt
   rw [yy, decide_eq_true_eq] at hlt
   refine List.pairwise_cons.2 ⟨fun y hy => ?_, qc2 h'.2⟩
   rcases (qf9 h'.2 y).1 hy with rfl | ⟨h1, _⟩
   ·exact hlt
   ·exact h'.1 y h1
  ·rename_i hlt
   rw [yy, decide_eq_true_eq] at hlt
   have hge : cmpB x.1 a.1 ≤ 0 := jh.1 hlt
   split
   ·rename_i he
    exact List.pairwise_cons.2 ⟨fun y hy => by rw [← he]; exact h'.1 y hy, h'.2⟩
   ·rename_i he
    have hx : cmpB x.1 a.1 < 0 := by
     rcases Int.lt_or_eq_of_le hge with h1 | h1
     ·exact h1
     ·exact (he (yv h1).symm).elim
    refine List.pairwise_cons.2 ⟨fun y hy => ?_, h⟩
    rcases List.mem_cons.1 hy with rfl | hy
    ·exact hx
    ·exact (ke hge (Int.le_of_lt (h'.1 y hy))).2 (.inl hx)
theorem qkt {k : List UInt8} {l : List En} (h : Sorted l) : Sorted (eDel k l) := List.Pairwise.filter _ h
def entsOf (m : Cont) : List En := sList m []
theorem zg {m : Cont} (h : m.Ok) : Sorted (entsOf m) := qbb h []
theorem ku {m : Cont} (h : m.Ok) (x : En) : x ∈ entsOf m ↔ mGet x.1 m = some x.2 := by
 rw [entsOf, qij h, qp9]; simp
theorem qbs {m : Cont} : (entsOf m).length = m.l.length := by
 have h1 : preL [] m.l = m.l.map enOf := by
  unfold preL
  congr 1
  exact List.filter_eq_self.2 fun x _ => qp9 _
 rw [entsOf, sList, (xm _).length_eq, h1, List.length_map]
theorem qtj {m : Cont} (h : m.Ok) (k v : List UInt8) : entsOf (mPut k v m) = eSet (k, v) (entsOf m) := by
 have hs := zg h
 refine qap (zg (qcz h k v)) (qc2 hs) fun x => ?_
 rw [ku (qcz h k v), qf9 hs, ku h, qlt]
 obtain ⟨a, b⟩ := x
 simp only [Prod.mk.injEq]
 by_cases hk : a = k
 ·subst hk; simp [eq_comm]
 ·simp [hk]
theorem qtk {m : Cont} (h : m.Ok) (k : List UInt8) : entsOf (mDel k m) = eDel k (entsOf m) := by
 have hs := zg h
 refine qap (zg (qc0 h k)) (qkt hs) fun x => ?_
 rw [ku (qc0 h k), eDel, List.mem_filter, ku h, qlu h]
 by_cases hk : x.1 = k <;> simp [hk]
theorem qaq : ∀ (l : List OpS) {m : Cont}, m.Ok → m.l.length ≤ 400 → (mApply m l).2 = (eApply (entsOf m) l).2 ∧ ((mApply m l).2 = true → entsOf (mApply m l).1 = (eApply (entsOf m) l).1 ∧ (mApply m l).1.Ok ∧ (mApply m l).1.l.length ≤ 400)
 | [], m, h, hl => ⟨rfl, fun _ => ⟨rfl, h, hl⟩⟩
 | o :: l, m, h, hl => by
  rw [mApply, eApply, eOp]
  by_cases hd : o.del = true
  ·have hle := qlv o.key m
   rw [if_pos hd, if_pos hd, ← qtk h, qbs, if_neg (by omega)]
   exact qaq l (qc0 h _) (by omega)
  ·rw [if_neg hd, if_neg hd, ← qtj h, qbs]
   by_cases h4 : (mPut o.key o.val m).l.length > 400
   ·rw [if_pos h4, if_pos h4]
    exact ⟨rfl, fun e => by cases e⟩
   ·rw [if_neg h4, if_neg h4]
    exact qaq l (qcz h _ _) (by omega)
def eGet (k : List UInt8) (l : List En) : Option (List UInt8) := (l.find? fun e => e.1 == k).map (·.2)
theorem q8p {m : Cont} (h : m.Ok) (k : List UInt8) : eGet k (entsOf m) = mGet k m := by
 unfold eGet
 cases hf : (entsOf m).find? (fun e => e.1 == k) with
 | none =>
  cases hg : mGet k m with
  | none => rfl
  | some v =>
   have := (ku h (k, v)).2 hg
   have := List.find?_eq_none.1 hf _ this
   simp at this
 | some x =>
  have h1 := (ku h x).1 (List.mem_of_find?_eq_some hf)
  have h2 : x.1 = k := by simpa using List.find?_some hf
  rw [← h2, h1]; rfl
def eList (p : List UInt8) (l : List En) : List En := l.filter fun e => pre p e.1
theorem q01 {m : Cont} (h : m.Ok) (p : List UInt8) : sList m p = eList p (entsOf m) := by
 refine qap (qbb h p) (List.Pairwise.filter _ (zg h)) fun x => ?_
 rw [qij h, eList, List.mem_filter, ku h]
end Go.Proofs.YtinnaedmdoengaaGreat
namespace Go.Proofs.YtinnaedmdoengaaGreat
open Go.Abs
set_option linter.unusedSimpArgs false
set_option linter.unusedVariables false
def headAt (b : List UInt8) (p : Nat) : List UInt8 := (b.drop p).take 24
def sumAt (b : List UInt8) (p : Nat) : List UInt8 := (b.drop (p + 24)).take 8
def kindOf (h : List UInt8) : Nat := (h.getD 0 0).toNat
def numB (h : List UInt8) : Nat := (h.getD 1 0).toNat
def cProper (h : List UInt8) (before : Nat) : Bool :=
 (decide (kindOf h = 1) || decide (kindOf h = 2)) && decide (numB h ≤ 22) && decide (before + numB h ≤ 2000) && !(decide (kindOf h = 1) && decide (numB h ≠ 22)) && !(decide (kindOf h = 2) && decide (numB h = 0) && decide (0 < before)) && (h.drop (2 + numB h)).all (fun c => c == 0)
structure Rds where
 pos : Nat
 seed : Nat
 now : List UInt8
 recs : List (List UInt8)
 ends : List Nat
 deriving Inhabited
def Rds.used (s : Rds) : Nat := s.ends.getLastD 0
def cNow (b : List UInt8) (s : Rds) : List UInt8 := s.now ++ ((headAt b s.pos).drop 2).take (numB (headAt b s.pos))
def cNext (b : List UInt8) (s : Rds) : Rds :=
 if kindOf (headAt b s.pos) = 2 then ⟨s.pos + 32, fnv s.seed (headAt b s.pos), [], s.recs ++ [cNow b s], s.ends ++ [s.pos + 32]⟩
 else ⟨s.pos + 32, fnv s.seed (headAt b s.pos), cNow b s, s.recs, s.ends⟩
def cErr (b : List UInt8) (s : Rds) : Option Int :=
 if be8 (fnv s.seed (headAt b s.pos)) = sumAt b s.pos then (if cProper (headAt b s.pos) s.now.length = true then none else some 4) else some 5
theorem qik (b : List UInt8) (s : Rds) : (cNext b s).pos = s.pos + 32 := by unfold cNext; split <;> rfl
def wRead (b : List UInt8) (s : Rds) : Rds × Int :=
 if h : s.pos + 32 ≤ b.length then
  match cErr b s with
  | some e => (s, e)
  | none => wRead b (cNext b s)
 else (s, if s.used = b.length then 0 else 4)
termination_by b.length - s.pos
decreasing_by rw [qik]; omega
def basis : Nat := 14695981039346656037
def rds0 : Rds := ⟨0, basis, [], [], []⟩
theorem vn {b : List UInt8} {s : Rds} {e : Int} (h : s.pos + 32 ≤ b.length) (he : cErr b s = some e) : wRead b s = (s, e) := by
 rw [wRead, dif_pos h, he]
theorem vz {b : List UInt8} {s : Rds} (h : s.pos + 32 ≤ b.length) (he : cErr b s = none) : wRead b s = wRead b (cNext b s) := by
 rw [wRead, dif_pos h, he]
theorem kf {b : List UInt8} {s : Rds} (h : ¬ s.pos + 32 ≤ b.length) : wRead b s = (s, if s.used = b.length then 0 else 4) := by
 rw [wRead, dif_neg h]
structure Rds.Ok (b : List UInt8) (s : Rds) : Prop where
 pos : s.pos ≤ b.length
 seed : s.seed < 18446744073709551616
 now : s.now.length ≤ 2000
 recs : s.recs.length ≤ s.pos
 ends : s.ends.length ≤ s.pos
 used : s.used ≤ s.pos
 small : ∀ r ∈ s.recs, r.length ≤ 2000
theorem vo (b : List UInt8) : rds0.Ok b := ⟨Nat.zero_le _, by decide, by simp [rds0], by simp [rds0], by simp [rds0], by simp [rds0, Rds.used], by simp [rds0]⟩
theorem yz (l : List Nat) (x d : Nat) : (l ++ [x]).getLastD d = x := by simp
theorem qqa {b : List UInt8} {s : Rds} (h : cErr b s = none) : be8 (fnv s.seed (headAt b s.pos)) = sumAt b s.pos ∧ cProper (headAt b s.pos) s.now.length = true := by
 unfold cErr at h
 split at h
 ·split at h
  ·exact ⟨by assumption, by assumption⟩
  ·cases h
 ·cases h
theorem xz {h : List UInt8} {n : Nat} : cProper h n = true ↔ (kindOf h = 1 ∨ kindOf h = 2) ∧ numB h ≤ 22 ∧ n + numB h ≤ 2000 ∧ (kindOf h = 1 → numB h = 22) ∧ (kindOf h = 2 → numB h = 0 → n = 0) ∧ (h.drop (2 + numB h)).all (fun c => c == 0) = true := by
 unfold cProper
 simp only [Bool.and_eq_true, Bool.or_eq_true, Bool.not_eq_true', Bool.and_eq_false_iff, decide_eq_true_eq, decide_eq_false_iff_not]
 constructor
 ·rintro ⟨⟨⟨⟨⟨h1, h2⟩, h3⟩, h4⟩, h5⟩, h6⟩
  exact ⟨h1, h2, h3, by omega, by omega, h6⟩
 ·rintro ⟨h1, h2, h3, h4, h5, h6⟩
  exact ⟨⟨⟨⟨⟨h1, h2⟩, h3⟩, by omega⟩, by omega⟩, h6⟩
theorem qga {b : List UInt8} {s : Rds} (h : cErr b s = none) : (cNow b s).length ≤ 2000 := by
 obtain ⟨_, h2⟩ := qqa h
 obtain ⟨_, _, h3, _⟩ := xz.1 h2
 unfold cNow
 rw [List.length_append, List.length_take]
 omega
theorem qgb {b : List UInt8} {s : Rds} (hs : s.Ok b) (h : s.pos + 32 ≤ b.length) (he : cErr b s = none) : (cNext b s).Ok b := by
 have hn := qga he
 have hf := qcu hs.seed (headAt b s.pos)
 have h1 := hs.recs
 have h2 := hs.ends
 have h3 := hs.used
 unfold cNext
 split
 ·refine ⟨h, hf, by simp, by simp; omega, by simp; omega, by simp [Rds.used], fun r hr => ?_⟩
  rcases List.mem_append.1 hr with hr | hr
  ·exact hs.small r hr
  ·simp at hr; subst hr; exact hn
 ·exact ⟨h, hf, hn, by simp only; omega, by simp only; omega, by simp only [Rds.used] at h3 ⊢; omega, hs.small⟩
theorem kv {b : List UInt8} {s : Rds} (hs : s.Ok b) : (wRead b s).1.Ok b := by
 by_cases h : s.pos + 32 ≤ b.length
 ·cases he : cErr b s with
  | some e => rw [vn h he]; exact hs
  | none => rw [vz h he]; exact kv (qgb hs h he)
 ·rw [kf h]; exact hs
termination_by b.length - s.pos
decreasing_by rw [qik]; omega
def cBytes : Nat → List (Nat × List UInt8) → List UInt8
 | _, [] => []
 | h, p :: l => headOf p ++ be8 (fnv h (headOf p)) ++ cBytes (fnv h (headOf p)) l
def cHash : Nat → List (Nat × List UInt8) → Nat
 | h, [] => h
 | h, p :: l => cHash (fnv h (headOf p)) l
theorem qnp (x : List UInt8) (h : Nat) (l : List (Nat × List UInt8)) : cellsOn (x, h) l = (x ++ cBytes h l, cHash h l) := by
 induction l generalizing x h with
 | nil => simp [cellsOn, cBytes, cHash]
 | cons p l ih =>
  have : cellsOn (x, h) (p :: l) = cellsOn (cellOn (x, h) p) l := rfl
  rw [this, cellOn, ih, cBytes, cHash]
  simp only [List.append_assoc]
theorem qar {h : Nat} {l : List (Nat × List UInt8)} (hl : ∀ p ∈ l, p.2.length ≤ 22) : (cBytes h l).length = 32 * l.length := by
 induction l generalizing h with
 | nil => simp [cBytes]
 | cons p l ih =>
  rw [cBytes, List.length_append, List.length_append, xi, jg (hl p List.mem_cons_self), ih (fun q hq => hl q (List.mem_cons_of_mem _ hq)), List.length_cons]
  omega
theorem qtl {h : Nat} (hh : h < 18446744073709551616) (l : List (Nat × List UInt8)) : cHash h l < 18446744073709551616 := by
 induction l generalizing h with
 | nil => exact hh
 | cons p l ih => exact ih (qcu hh _)
theorem qil {b rest : List UInt8} {s : Rds} {p : Nat × List UInt8} (hp : p.1 = 1 ∨ p.1 = 2) (hl : p.2.length ≤ 22) (hb : b.drop s.pos = headOf p ++ be8 (fnv s.seed (headOf p)) ++ rest) :
  s.pos + 32 ≤ b.length ∧ headAt b s.pos = headOf p ∧ sumAt b s.pos = be8 (fnv s.seed (headOf p)) := by
 have h24 := jg hl
 have hlen := congrArg List.length hb
 simp only [List.length_drop, List.length_append, h24, xi] at hlen
 refine ⟨by omega, ?_, ?_⟩
 ·rw [headAt, hb, List.append_assoc, ← h24, List.take_left]
 ·rw [sumAt, ← List.drop_drop, hb, List.append_assoc, ← h24, List.drop_left, ← xi (fnv s.seed (headOf p)), List.take_left]
theorem qc3 {p : Nat × List UInt8} (hp : p.1 = 1 ∨ p.1 = 2) : kindOf (headOf p) = p.1 := by
 unfold kindOf headOf
 rcases hp with h | h <;> rw [h] <;> rfl
theorem qet {p : Nat × List UInt8} (hl : p.2.length ≤ 22) : numB (headOf p) = p.2.length := by
 unfold numB headOf
 simp only [List.cons_append, List.nil_append, List.getD_cons_succ, List.getD_cons_zero, UInt8.toNat_ofNat']
 omega
theorem qku (p : Nat × List UInt8) : ((headOf p).drop 2).take p.2.length = p.2 := by
 unfold headOf
 simp only [List.cons_append, List.nil_append, List.drop_succ_cons, List.drop_zero, List.take_left]
theorem qnq (p : Nat × List UInt8) : ((headOf p).drop (2 + p.2.length)).all (fun c => c == 0) = true := by
 rw [← List.drop_drop]
 unfold headOf
 simp only [List.cons_append, List.nil_append, List.drop_succ_cons, List.drop_zero, List.drop_left]
 simp
theorem qc4 {b rest : List UInt8} {s : Rds} {p : Nat × List UInt8} (hp : p.1 = 1 ∨ p.1 = 2) (hl : p.2.length ≤ 22) (h22 : p.1 = 1 → p.2.length = 22) (h0 : p.1 = 2 → p.2.length = 0 → s.now.length = 0) (hn : s.now.length + p.2.length ≤ 2000)
  (hb : b.drop s.pos = headOf p ++ be8 (fnv s.seed (headOf p)) ++ rest) :
  wRead b s = wRead b (if p.1 = 2 then ⟨s.pos + 32, fnv s.seed (headOf p), [], s.recs ++ [s.now ++ p.2], s.ends ++ [s.pos + 32]⟩ else ⟨s.pos + 32, fnv s.seed (headOf p), s.now ++ p.2, s.recs, s.ends⟩) := by
 obtain ⟨h1, h2, h3⟩ := qil hp hl hb
 have he : cErr b s = none := by
  unfold cErr
  rw [h2, h3, if_pos rfl, if_pos]
  refine xz.2 ?_
  rw [qc3 hp, qet hl]
  exact ⟨hp, hl, hn, h22, h0, qnq p⟩
 rw [vz h1 he]
 unfold cNext cNow
 rw [h2, qc3 hp, qet hl, qku]
theorem qlx : ∀ (n : Nat) {r b rest : List UInt8} {s : Rds}, r.length ≤ n → (s.now.length = 0 ∨ 0 < r.length) → s.now.length + r.length ≤ 2000 → b.drop s.pos = cBytes s.seed (partsOf r) ++ rest →
  wRead b s = wRead b ⟨s.pos + 32 * (partsOf r).length, cHash s.seed (partsOf r), [], s.recs ++ [s.now ++ r], s.ends ++ [s.pos + 32 * (partsOf r).length]⟩
 | n, r, b, rest, s, hr, h0, hn, hb => by
  by_cases h : r.length > 22
  ·have ht : (r.take 22).length = 22 := by rw [List.length_take]; omega
   rw [xx h] at hb ⊢
   rw [cBytes, List.append_assoc] at hb
   have hc := qc4 (p := (1, r.take 22)) (s := s) (b := b) (.inl rfl) (by simp only; omega) (fun _ => ht) (fun h => by cases h) (by simp only; omega) hb
   rw [hc]
   simp only [show ¬ (1 : Nat) = 2 by decide, if_false]
   cases n with
   | zero => omega
   | succ n =>
    have hd := (qil (p := (1, r.take 22)) (.inl rfl) (by simp only; omega) hb).1
    have hb2 : b.drop (s.pos + 32) = cBytes (fnv s.seed (headOf (1, r.take 22))) (partsOf (r.drop 22)) ++ rest := by
     have h24 := jg (p := (1, r.take 22)) (by simp only; omega)
     rw [← List.drop_drop, hb]
     exact List.drop_left' (by rw [List.length_append, h24, xi])
    have ih := qlx n (r := r.drop 22) (b := b) (rest := rest) (s := ⟨s.pos + 32, fnv s.seed (headOf (1, r.take 22)), s.now ++ r.take 22, s.recs, s.ends⟩) (by rw [List.length_drop]; omega) (.inr (by rw [List.length_drop]; omega))
     (by simp only [List.length_append, List.length_drop, ht]; omega) (by simp only; exact hb2)
    rw [ih]
    simp only [List.append_assoc, List.take_append_drop, List.length_cons, cHash]
    have e : s.pos + 32 + 32 * (partsOf (r.drop 22)).length = s.pos + 32 * ((partsOf (r.drop 22)).length + 1) := by omega
    rw [e]
  ·rw [xy h] at hb ⊢
   rw [cBytes, List.append_assoc] at hb
   have hc := qc4 (p := (2, r)) (s := s) (b := b) (.inr rfl) (by simp only; omega) (fun h => by cases h) (fun _ h1 => by simp only at h1; omega) hn hb
   rw [hc]
   simp only [if_true, List.length_singleton, cHash, Nat.mul_one]
theorem qqb : ∀ (n : Nat) {r b : List UInt8} {m : Nat} {s : Rds}, r.length ≤ n → (s.now.length = 0 ∨ 0 < r.length) → s.now.length + r.length ≤ 2000 → b.drop s.pos = (cBytes s.seed (partsOf r)).take m → s.pos ≤ b.length → m < (cBytes s.seed (partsOf r)).length →
  (wRead b s).1.recs = s.recs ∧ (wRead b s).1.ends = s.ends ∧ ((wRead b s).2 = 0 ∨ (wRead b s).2 = 4)
 | n, r, b, m, s, hr, h0, hn, hb, hpos, hm => by
  have hps := x9 _ r (Nat.le_refl _)
  have hlen := congrArg List.length hb
  rw [List.length_drop, List.length_take, Nat.min_eq_left (Nat.le_of_lt hm)] at hlen
  rw [qar (fun p hp => (hps p hp).2)] at hm
  by_cases h32 : m < 32
  ·rw [kf (by omega)]
   exact ⟨rfl, rfl, by simp only; split <;> simp⟩
  ·by_cases h : r.length > 22
   ·have ht : (r.take 22).length = 22 := by rw [List.length_take]; omega
    rw [xx h] at hb hm
    rw [cBytes] at hb
    have h24 := jg (p := (1, r.take 22)) (by simp only; omega)
    have h8 : (headOf (1, r.take 22) ++ be8 (fnv s.seed (headOf (1, r.take 22)))).length = 32 := by rw [List.length_append, h24, xi]
    rw [List.take_append, List.take_of_length_le (by omega), h8] at hb
    have hc := qc4 (p := (1, r.take 22)) (s := s) (b := b) (.inl rfl) (by simp only; omega) (fun _ => ht) (fun h => by cases h) (by simp only; omega) hb
    rw [hc]
    simp only [show ¬ (1 : Nat) = 2 by decide, if_false]
    cases n with
    | zero => omega
    | succ n =>
     have hb2 : b.drop (s.pos + 32) = (cBytes (fnv s.seed (headOf (1, r.take 22))) (partsOf (r.drop 22))).take (m - 32) := by
      rw [← List.drop_drop, hb]
      exact List.drop_left' h8
     have hps2 := x9 _ (r.drop 22) (Nat.le_refl _)
     exact qqb n (r := r.drop 22) (b := b) (m := m - 32) (s := ⟨s.pos + 32, fnv s.seed (headOf (1, r.take 22)), s.now ++ r.take 22, s.recs, s.ends⟩) (by rw [List.length_drop]; omega) (.inr (by rw [List.length_drop]; omega))
      (by simp only [List.length_append, List.length_drop, ht]; omega) (by simp only; exact hb2) (by simp only; omega) (by rw [qar (fun p hp => (hps2 p hp).2)]; rw [List.length_cons] at hm; omega)
   ·rw [xy h] at hm
    simp at hm
    omega
end Go.Proofs.YtinnaedmdoengaaGreat
namespace Go.Proofs.YtinnaedmdoengaaGreat
open Go.Abs
set_option linter.unusedSimpArgs false
set_option linter.unusedVariables false
theorem qqc {h : Nat} (hh : h < 18446744073709551616) : numOf (be8 h) = h := by
 have e : ∀ x : Nat, (UInt8.ofNat x).toNat = x % 256 := fun x => UInt8.toNat_ofNat'
 simp only [numOf, be8, List.foldl_cons, List.foldl_nil, num1, e]
 have p0 : (256 : Nat) ^ 0 = 1 := rfl
 have p1 : (256 : Nat) ^ 1 = 256 := rfl
 have p2 : (256 : Nat) ^ 2 = 65536 := rfl
 have p3 : (256 : Nat) ^ 3 = 16777216 := rfl
 have p4 : (256 : Nat) ^ 4 = 4294967296 := rfl
 have p5 : (256 : Nat) ^ 5 = 1099511627776 := rfl
 have p6 : (256 : Nat) ^ 6 = 281474976710656 := rfl
 have p7 : (256 : Nat) ^ 7 = 72057594037927936 := rfl
 rw [p0, p1, p2, p3, p4, p5, p6, p7]
 omega
theorem qc5 : ∀ (l : List (Nat × List UInt8)) {h : Nat}, l ≠ [] → ∃ q, cBytes h l = q ++ be8 (cHash h l)
 | [], _, hn => (hn rfl).elim
 | [p], h, _ => ⟨headOf p, by simp [cBytes, cHash]⟩
 | p :: p' :: l, h, _ => by
  obtain ⟨q, hq⟩ := qc5 (p' :: l) (h := fnv h (headOf p)) (by simp)
  refine ⟨headOf p ++ be8 (fnv h (headOf p)) ++ q, ?_⟩
  have e : cHash h (p :: p' :: l) = cHash (fnv h (headOf p)) (p' :: l) := by rw [cHash]
  rw [cBytes, hq, e, ← List.append_assoc]
theorem qly (r : List UInt8) : partsOf r ≠ [] := by
 by_cases h : r.length > 22
 ·rw [xx h]; simp
 ·rw [xy h]; simp
theorem qas (f r : List UInt8) : wAppend f r = f ++ cBytes (wSeed f) (partsOf r) := by rw [wAppend, qnp]
theorem qim (f r : List UInt8) : wSeed (wAppend f r) = cHash (wSeed f) (partsOf r) := by
 obtain ⟨q, hq⟩ := qc5 (partsOf r) (h := wSeed f) (qly r)
 have hh := qtl (qlq f) (partsOf r)
 rw [qas, hq, wSeed, if_neg (by simp [xi]; omega)]
 have e : (f ++ (q ++ be8 (cHash (wSeed f) (partsOf r)))).length - 8 = (f ++ q).length := by simp only [List.length_append, xi]; omega
 rw [e, ← List.append_assoc, List.drop_left, qqc hh]
def fileOf (rs : List (List UInt8)) : List UInt8 := rs.foldl wAppend []
theorem xn (rs : List (List UInt8)) (r : List UInt8) : fileOf (rs ++ [r]) = fileOf rs ++ cBytes (wSeed (fileOf rs)) (partsOf r) := by
 have : fileOf (rs ++ [r]) = wAppend (fileOf rs) r := by unfold fileOf; rw [List.foldl_append, List.foldl_cons, List.foldl_nil]
 rw [this, qas]
theorem qnr (rs : List (List UInt8)) (r : List UInt8) : fileOf (rs ++ [r]) = wAppend (fileOf rs) r := by rw [xn, qas]
theorem qc6 (f r : List UInt8) : (cBytes (wSeed f) (partsOf r)).length = 32 * (partsOf r).length := qar fun p hp => (x9 _ r (Nat.le_refl _) p hp).2
theorem qqd (f r : List UInt8) : 0 < (cBytes (wSeed f) (partsOf r)).length := by
 rw [qc6]
 have := List.length_pos_iff.2 (qly r)
 omega
def endsOf : Nat → List (List UInt8) → List Nat
 | _, [] => []
 | n, r :: l => (n + 32 * (partsOf r).length) :: endsOf (n + 32 * (partsOf r).length) l
theorem qbt {α : Type} {P : List α → Prop} (h0 : P []) (h1 : ∀ l x, P l → P (l ++ [x])) : ∀ (n : Nat) (l : List α), l.length = n → P l
 | 0, l, h => by cases l with
  | nil => exact h0
  | cons a l => simp at h
 | n + 1, l, h => by
  rcases List.eq_nil_or_concat l with rfl | ⟨t, c, rfl⟩
  ·simp at h
  ·rw [List.concat_eq_append] at h ⊢
   exact h1 _ _ (qbt h0 h1 n t (by simpa using h))
structure Behind (rs : List (List UInt8)) (s : Rds) : Prop where
 pos : s.pos = (fileOf rs).length
 seed : s.seed = wSeed (fileOf rs)
 now : s.now = []
 recs : s.recs = rs
 used : s.used = (fileOf rs).length
theorem qin (rs : List (List UInt8)) : ∀ (b rest : List UInt8), (∀ r ∈ rs, r.length ≤ 2000) → b = fileOf rs ++ rest → ∃ s, Behind rs s ∧ wRead b rds0 = wRead b s := by
 refine qbt (P := fun rs => ∀ (b rest : List UInt8), (∀ r ∈ rs, r.length ≤ 2000) → b = fileOf rs ++ rest → ∃ s, Behind rs s ∧ wRead b rds0 = wRead b s) ?_ ?_ _ rs rfl
 ·intro b rest _ _
  exact ⟨rds0, ⟨rfl, rfl, rfl, rfl, rfl⟩, rfl⟩
 ·intro rs r ih b rest hr hb
  rw [xn, List.append_assoc] at hb
  obtain ⟨s, ⟨b1, b2, b3, b4, b5⟩, hs⟩ := ih b _ (fun x hx => hr x (List.mem_append_left _ hx)) hb
  have hd : b.drop s.pos = cBytes s.seed (partsOf r) ++ rest := by rw [b1, b2, hb, List.drop_left]
  have := qlx _ (r := r) (b := b) (s := s) (Nat.le_refl _) (.inl (by rw [b3]; rfl)) (by rw [b3]; have := hr r (by simp); simpa using this) hd
  refine ⟨_, ?_, hs.trans this⟩
  refine ⟨?_, ?_, rfl, ?_, ?_⟩
  ·rw [xn, List.length_append, qc6, b1]
  ·rw [qnr, qim, b2]
  ·rw [b4, b3, List.nil_append]
  ·rw [Rds.used, yz, xn, List.length_append, qc6, b1]
theorem qdx (rs : List (List UInt8)) : ∀ i j : Nat, i ≤ j → (fileOf (rs.take i)).length ≤ (fileOf (rs.take j)).length := by
 intro i j hij
 induction j with
 | zero =>
  have : i = 0 := by omega
  subst this
  exact Nat.le_refl _
 | succ j ih =>
  by_cases h : i ≤ j
  ·refine Nat.le_trans (ih h) ?_
   by_cases hj : j < rs.length
   ·rw [List.take_succ_eq_append_getElem hj, xn, List.length_append]; omega
   ·rw [List.take_of_length_le (by omega), List.take_of_length_le (by omega)]; omega
  ·have : i = j + 1 := by omega
   subst this
   exact Nat.le_refl _
theorem qw0 (rs : List (List UInt8)) : ∀ i : Nat, i ≤ rs.length → (fileOf rs).take (fileOf (rs.take i)).length = fileOf (rs.take i) := by
 refine qbt (P := fun rs => ∀ i : Nat, i ≤ rs.length → (fileOf rs).take (fileOf (rs.take i)).length = fileOf (rs.take i)) ?_ ?_ _ rs rfl
 ·intro i hi
  simp at hi; subst hi; rfl
 ·intro rs r ih i hi
  by_cases h : i ≤ rs.length
  ·have h1 := qdx rs i rs.length h
   rw [List.take_length] at h1
   rw [List.take_append_of_le_length h, xn, List.take_append_of_le_length h1, ih i h]
  ·have : i = (rs ++ [r]).length := by simp at hi ⊢; omega
   subst this
   rw [List.take_length, List.take_length]
structure ReadOf (rs : List (List UInt8)) (k j : Nat) (x : Rds × Int) : Prop where
 le : j ≤ rs.length
 recs : x.1.recs = rs.take j
 used : x.1.used = (fileOf (rs.take j)).length
 fit : (fileOf (rs.take j)).length ≤ k
 all : ∀ i, i ≤ rs.length → (fileOf (rs.take i)).length ≤ k → i ≤ j
theorem qw1 (rs : List (List UInt8)) : ∀ k : Nat, (∀ r ∈ rs, r.length ≤ 2000) → ∃ j, ReadOf rs k j (wRead ((fileOf rs).take k) rds0) := by
 refine qbt (P := fun rs => ∀ k : Nat, (∀ r ∈ rs, r.length ≤ 2000) → ∃ j, ReadOf rs k j (wRead ((fileOf rs).take k) rds0)) ?_ ?_ _ rs rfl
 ·intro k _
  refine ⟨0, ?_⟩
  have hb : (fileOf []).take k = [] := by simp [fileOf]
  rw [hb, kf (by simp [rds0])]
  exact ⟨Nat.le_refl _, rfl, rfl, Nat.zero_le _, fun i hi _ => by simpa using hi⟩
 ·intro rs r ih k hr
  have hr' : ∀ x ∈ rs, x.length ≤ 2000 := fun x hx => hr x (List.mem_append_left _ hx)
  have hrr : r.length ≤ 2000 := hr r (by simp)
  have hln : (fileOf (rs ++ [r])).length = (fileOf rs).length + (cBytes (wSeed (fileOf rs)) (partsOf r)).length := by rw [xn, List.length_append]
  have hps := qqd (fileOf rs) r
  by_cases h1 : (fileOf (rs ++ [r])).length ≤ k
  ·rw [List.take_of_length_le h1]
   obtain ⟨s, ⟨b1, b2, b3, b4, b5⟩, hs⟩ := qin (rs ++ [r]) (fileOf (rs ++ [r])) [] hr (by simp)
   rw [hs, kf (by rw [b1]; omega)]
   refine ⟨(rs ++ [r]).length, ⟨Nat.le_refl _, by rw [List.take_length]; exact b4, by rw [List.take_length]; exact b5, by rw [List.take_length]; exact h1, fun i hi _ => hi⟩⟩
  ·have hall : ∀ i, i ≤ (rs ++ [r]).length → (fileOf ((rs ++ [r]).take i)).length ≤ k → i ≤ rs.length := by
    intro i hi hk
    rcases Nat.lt_or_ge rs.length i with h | h
    ·have : i = (rs ++ [r]).length := by simp at hi ⊢; omega
     rw [this, List.take_length] at hk
     exact (h1 hk).elim
    ·exact h
   have htk : ∀ i, i ≤ rs.length → (rs ++ [r]).take i = rs.take i := fun i hi => List.take_append_of_le_length hi
   by_cases h2 : k ≤ (fileOf rs).length
   ·rw [xn, List.take_append_of_le_length h2]
    obtain ⟨j, j1, j2, j3, j4, j5⟩ := ih k hr'
    refine ⟨j, ⟨by simp; omega, by rw [htk j j1]; exact j2, by rw [htk j j1]; exact j3, by rw [htk j j1]; exact j4, fun i hi hk => ?_⟩⟩
    have := hall i hi hk
    rw [htk i this] at hk
    exact j5 i this hk
   ·have hb : (fileOf (rs ++ [r])).take k = fileOf rs ++ (cBytes (wSeed (fileOf rs)) (partsOf r)).take (k - (fileOf rs).length) := by
     rw [xn, List.take_append, List.take_of_length_le (by omega)]
    rw [hb]
    obtain ⟨s, ⟨b1, b2, b3, b4, b5⟩, hs⟩ := qin rs (fileOf rs ++ (cBytes (wSeed (fileOf rs)) (partsOf r)).take (k - (fileOf rs).length)) _ hr' rfl
    have hd : (fileOf rs ++ (cBytes (wSeed (fileOf rs)) (partsOf r)).take (k - (fileOf rs).length)).drop s.pos = (cBytes s.seed (partsOf r)).take (k - (fileOf rs).length) := by rw [b1, b2, List.drop_left]
    obtain ⟨c1, c2, c3⟩ := qqb _ (r := r) (s := s) (Nat.le_refl _) (.inl (by rw [b3]; rfl)) (by rw [b3]; simpa using hrr) hd (by rw [b1, List.length_append]; omega) (by rw [b2]; omega)
    rw [hs]
    refine ⟨rs.length, ⟨by simp, ?_, ?_, ?_, hall⟩⟩
    ·rw [c1, b4, htk _ (Nat.le_refl _), List.take_length]
    ·rw [Rds.used, c2, htk _ (Nat.le_refl _), List.take_length]
     exact b5
    ·rw [htk _ (Nat.le_refl _), List.take_length]; omega
end Go.Proofs.YtinnaedmdoengaaGreat
namespace Go.Proofs.YtinnaedmdoengaaGreat
open Go.Abs
set_option linter.unusedSimpArgs false
set_option linter.unusedVariables false
theorem kw {α β : Type} (f : α → β) (l : List α) {i : Nat} (h : i < l.length) : (l.take (i + 1)).map f = (l.take i).map f ++ [f l[i]] := by
 rw [List.take_succ_eq_append_getElem h, List.map_append]; rfl
theorem wg (w : List UInt8) : rowsBytes (byteRows w) = w := by
 induction w with
 | nil => rfl
 | cons c w ih => simp_all [rowsBytes, byteRows]
theorem qvl (w : List UInt8) : (∃ l, byteRows w = byteRows l) = True := eq_true ⟨w, rfl⟩
theorem q02 : (∃ l, ([] : List (List D)) = byteRows l) = True := eq_true ⟨[], rfl⟩
theorem qgc : rowsBytes [] = [] := rfl
attribute [go_sem] wg qvl q02 qgc
noncomputable section
set_option maxRecDepth 100000
def s31r0 : List SOper := [
 ⟨some 2, .mov (.k (.d .nilsl)), none⟩]
def s31r1 : List SOper := [
 ⟨some 3, .mov (.k (.d .nilsl)), none⟩]
def s31r2 : List SOper := [
 ⟨some 4, .mov (.k (.d (.int .i64 0))), none⟩]
def s31r3 : List SOper := [
 ⟨some 5, .mov (.t 4), none⟩,
 ⟨some 6, .mov (.t 0), none⟩,
 ⟨some 7, .len (.t 6), none⟩,
 ⟨some 8, .bin .lss (.t 5) (.t 7), none⟩]
def s31r4 : List SOper := [
 ⟨some 11, .mov (.t 3), none⟩,
 ⟨some 12, .mov (.t 0), none⟩,
 ⟨some 13, .mov (.t 4), none⟩,
 ⟨some 14, .iaddr 3 (.t 12) (.t 13), none⟩,
 ⟨some 15, .faddr 0 (.t 14), none⟩,
 ⟨some 16, .load none (.t 15), none⟩,
 ⟨some 17, .mov (.t 0), none⟩,
 ⟨some 18, .mov (.t 4), none⟩,
 ⟨some 19, .iaddr 3 (.t 17) (.t 18), none⟩,
 ⟨some 20, .faddr 1 (.t 19), none⟩,
 ⟨some 21, .load none (.t 20), none⟩,
 ⟨some 22, .buildSlice false 1 0 [(.int .u8 0)] [], none⟩,
 ⟨some 23, .mov (.t 0), none⟩,
 ⟨some 24, .mov (.t 4), none⟩,
 ⟨some 25, .iaddr 3 (.t 23) (.t 24), none⟩,
 ⟨some 26, .faddr 2 (.t 25), none⟩,
 ⟨some 27, .load none (.t 26), none⟩,
 ⟨some 28, .append false 1 1 (.t 22) (.t 27), none⟩,
 ⟨some 29, .build [(.str []), (.bool false), .nilsl] [(0, 1, (.t 16)), (1, 1, (.t 21)), (2, 1, (.t 28))], none⟩,
 ⟨some 30, .buildSlice false 3 1 [(.str []), (.bool false), .nilsl] [(0, 3, (.t 29))], none⟩,
 ⟨some 31, .append false 3 48 (.t 11) (.t 30), none⟩,
 ⟨some 3, .mov (.t 31), none⟩]
def s31r5 : List SOper := [
 ⟨some 9, .mov (.t 4), none⟩,
 ⟨some 10, .bin .add (.t 9) (.k (.d (.int .i64 1))), none⟩,
 ⟨some 4, .mov (.t 10), none⟩]
def s31l6 : SCode := (.seq (.seq (.region s31r3 0 []) (.cond (.t 8) .skip (.exit 0))) (.seq (.block 1 (.region s31r4 0 [])) (.region s31r5 0 [])))
theorem xb1 : CodeIs s31l6.eq_1 := qc s31l6.eq_1
def s31r7 : List SOper := [
 ⟨some 32, .mov (.t 3), none⟩,
 ⟨some 2, .mov (.t 32), none⟩]
def s31 : SCode := (.seq (.region s31r0 0 []) (.seq (.region s31r1 0 []) (.seq (.seq (.region s31r2 0 []) (.block 0 (.loop s31l6))) (.seq (.region s31r7 0 []) .ret))))
theorem e31 : CodeIs s31.eq_1 := qc s31.eq_1
theorem xb2 : RegIs s31r0.eq_1 := qa
theorem xb3 : RegIs s31r1.eq_1 := qa
theorem xb4 : RegIs s31r2.eq_1 := qa
theorem xb5 : RegIs s31r3.eq_1 := qa
theorem xb6 : RegIs s31r4.eq_1 := qa
theorem xb7 : RegIs s31r5.eq_1 := qa
theorem xb8 : RegIs s31r7.eq_1 := qa
attribute [go_sem] xb2 xb3 xb4 xb5 xb6 xb7 xb1 xb8 e31
theorem F31 : FnIs Tryz.prog 31 Tryz.f31 [] news s31 [.tmp 2] 33 := qz follows Tryz.func31
def s21r0 : List SOper := [
 ⟨some 4, .mov (.k (.d .nilsl)), none⟩]
def s21r1 : List SOper := [
 ⟨some 8, .mov (.t 0), none⟩,
 ⟨some 9, .mov (.t 1), none⟩,
 ⟨some 10, .call (.k (.d (.func (.func 33) [] []))) [(.t 8), (.t 9)], none⟩,
 ⟨some 5, .mov (.t 10), none⟩]
def s21r2 : List SOper := [
 ⟨some 6, .mov (.k (.d .nilsl)), none⟩]
def s21r3 : List SOper := [
 ⟨some 7, .mov (.k (.d (.int .i64 0))), none⟩]
def s21r4 : List SOper := [
 ⟨some 11, .mov (.t 7), none⟩,
 ⟨some 12, .mov (.t 5), none⟩,
 ⟨some 13, .len (.t 12), none⟩,
 ⟨some 14, .bin .lss (.t 11) (.t 13), none⟩]
def s21r5 : List SOper := [
 ⟨some 17, .mov (.t 6), none⟩,
 ⟨some 18, .mov (.t 5), none⟩,
 ⟨some 19, .mov (.t 7), none⟩,
 ⟨some 20, .iaddr 2 (.t 18) (.t 19), none⟩,
 ⟨some 21, .load (some 2) (.t 20), none⟩,
 ⟨some 22, .buildSlice false 2 1 [(.str []), .nilsl] [(0, 2, (.t 21))], none⟩,
 ⟨some 23, .append false 2 40 (.t 17) (.t 22), none⟩,
 ⟨some 6, .mov (.t 23), none⟩]
def s21r6 : List SOper := [
 ⟨some 15, .mov (.t 7), none⟩,
 ⟨some 16, .bin .add (.t 15) (.k (.d (.int .i64 1))), none⟩,
 ⟨some 7, .mov (.t 16), none⟩]
def s21l7 : SCode := (.seq (.seq (.region s21r4 0 []) (.cond (.t 14) .skip (.exit 0))) (.seq (.block 1 (.region s21r5 0 [])) (.region s21r6 0 [])))
theorem xb9 : CodeIs s21l7.eq_1 := qc s21l7.eq_1
def s21r8 : List SOper := [
 ⟨some 24, .mov (.t 6), none⟩,
 ⟨some 4, .mov (.t 24), none⟩]
def s21 : SCode := (.seq (.region s21r0 0 []) (.seq (.region s21r1 0 []) (.seq (.region s21r2 0 []) (.seq (.seq (.region s21r3 0 []) (.block 0 (.loop s21l7))) (.seq (.region s21r8 0 []) .ret)))))
theorem e21 : CodeIs s21.eq_1 := qc s21.eq_1
theorem xca : RegIs s21r0.eq_1 := qa
theorem xcb : RegIs s21r1.eq_1 := qa
theorem xcc : RegIs s21r2.eq_1 := qa
theorem xcd : RegIs s21r3.eq_1 := qa
theorem xce : RegIs s21r4.eq_1 := qa
theorem xcf : RegIs s21r5.eq_1 := qa
theorem xcg : RegIs s21r6.eq_1 := qa
theorem xch : RegIs s21r8.eq_1 := qa
attribute [go_sem] xca xcb xcc xcd xce xcf xcg xb9 xch e21
theorem F21 : FnIs Tryz.prog 21 Tryz.f21 [] news s21 [.tmp 4] 25 := qz follows Tryz.func21
def s29r0 : List SOper := [
 ⟨some 2, .mov (.k (.d (.bool false))), none⟩]
def s29r1 : List SOper := [
 ⟨some 3, .mov (.k (.d (.int .i64 0))), none⟩]
def s29r2 : List SOper := [
 ⟨some 4, .mov (.k (.d (.int .i64 0))), none⟩]
def s29r3 : List SOper := [
 ⟨some 5, .mov (.t 4), none⟩,
 ⟨some 6, .mov (.t 0), none⟩,
 ⟨some 7, .len (.t 6), none⟩,
 ⟨some 8, .bin .lss (.t 5) (.t 7), none⟩]
def s29r4 : List SOper := [
 ⟨some 11, .mov (.t 0), none⟩,
 ⟨some 12, .mov (.t 4), none⟩,
 ⟨some 13, .iaddr 3 (.t 11) (.t 12), none⟩,
 ⟨some 14, .faddr 0 (.t 13), none⟩,
 ⟨some 15, .load none (.t 14), none⟩,
 ⟨some 16, .lenS (.t 15), none⟩,
 ⟨some 17, .bin .gtr (.t 16) (.k (.d (.int .i64 100))), none⟩,
 ⟨some 18, .mov (.t 17), none⟩,
 ⟨some 19, .mov (.t 0), some (18, false)⟩,
 ⟨some 20, .mov (.t 4), some (18, false)⟩,
 ⟨some 21, .iaddr 3 (.t 19) (.t 20), some (18, false)⟩,
 ⟨some 22, .faddr 2 (.t 21), some (18, false)⟩,
 ⟨some 23, .load none (.t 22), some (18, false)⟩,
 ⟨some 24, .len (.t 23), some (18, false)⟩,
 ⟨some 25, .bin .gtr (.t 24) (.k (.d (.int .i64 1000))), some (18, false)⟩,
 ⟨some 26, .pick (.t 18) (.k (.d (.bool true))) (.t 25), none⟩]
def s29r5 : List SOper := [
 ⟨some 2, .mov (.k (.d (.bool false))), none⟩]
def s29r6 : List SOper := [
 ⟨some 27, .mov (.t 3), none⟩,
 ⟨some 28, .mov (.t 0), none⟩,
 ⟨some 29, .mov (.t 4), none⟩,
 ⟨some 30, .iaddr 3 (.t 28) (.t 29), none⟩,
 ⟨some 31, .faddr 2 (.t 30), none⟩,
 ⟨some 32, .load none (.t 31), none⟩,
 ⟨some 33, .len (.t 32), none⟩,
 ⟨some 34, .bin .add (.t 27) (.t 33), none⟩,
 ⟨some 3, .mov (.t 34), none⟩]
def s29r7 : List SOper := [
 ⟨some 9, .mov (.t 4), none⟩,
 ⟨some 10, .bin .add (.t 9) (.k (.d (.int .i64 1))), none⟩,
 ⟨some 4, .mov (.t 10), none⟩]
def s29l8 : SCode := (.seq (.seq (.region s29r3 0 []) (.cond (.t 8) .skip (.exit 0))) (.seq (.block 1 (.seq (.seq (.region s29r4 0 []) (.cond (.t 26) (.seq (.region s29r5 0 []) .ret) .skip)) (.region s29r6 0 []))) (.region s29r7 0 [])))
theorem xci : CodeIs s29l8.eq_1 := qc s29l8.eq_1
def s29r9 : List SOper := [
 ⟨some 35, .mov (.t 0), none⟩,
 ⟨some 36, .len (.t 35), none⟩,
 ⟨some 37, .bin .leq (.t 36) (.k (.d (.int .i64 30))), none⟩,
 ⟨some 38, .mov (.t 37), none⟩,
 ⟨some 39, .mov (.t 3), some (38, true)⟩,
 ⟨some 40, .bin .leq (.t 39) (.k (.d (.int .i64 3000))), some (38, true)⟩,
 ⟨some 41, .pick (.t 38) (.t 40) (.k (.d (.bool false))), none⟩,
 ⟨some 2, .mov (.t 41), none⟩]
def s29 : SCode := (.seq (.region s29r0 0 []) (.seq (.region s29r1 0 []) (.seq (.seq (.region s29r2 0 []) (.block 0 (.loop s29l8))) (.seq (.region s29r9 0 []) .ret))))
theorem e29 : CodeIs s29.eq_1 := qc s29.eq_1
theorem xcj : RegIs s29r0.eq_1 := qa
theorem xck : RegIs s29r1.eq_1 := qa
theorem xcl : RegIs s29r2.eq_1 := qa
theorem xcm : RegIs s29r3.eq_1 := qa
theorem xcn : RegIs s29r4.eq_1 := qa
theorem xco : RegIs s29r5.eq_1 := qa
theorem xcp : RegIs s29r6.eq_1 := qa
theorem xcq : RegIs s29r7.eq_1 := qa
theorem xcr : RegIs s29r9.eq_1 := qa
attribute [go_sem] xcj xck xcl xcm xcn xco xcp xcq xci xcr e29
theorem F29 : FnIs Tryz.prog 29 Tryz.f29 [] news s29 [.tmp 2] 42 := qz follows Tryz.func29
def s23r0 : List SOper := [
 ⟨some 2, .mov (.k (.d (.bool false))), none⟩]
def s23r1 : List SOper := [
 ⟨some 3, .mov (.k (.d (.int .i64 0))), none⟩]
def s23r2 : List SOper := [
 ⟨some 4, .mov (.t 3), none⟩,
 ⟨some 5, .mov (.t 0), none⟩,
 ⟨some 6, .len (.t 5), none⟩,
 ⟨some 7, .bin .lss (.t 4) (.t 6), none⟩]
def s23r3 : List SOper := [
 ⟨some 10, .mov (.t 0), none⟩,
 ⟨some 11, .mov (.t 3), none⟩,
 ⟨some 12, .iaddr 2 (.t 10) (.t 11), none⟩,
 ⟨some 13, .faddr 1 (.t 12), none⟩,
 ⟨some 14, .load none (.t 13), none⟩,
 ⟨some 15, .call (.k (.d (.func (.func 29) [] []))) [(.t 14)], none⟩,
 ⟨some 16, .not (.t 15), none⟩]
def s23r4 : List SOper := [
 ⟨some 2, .mov (.k (.d (.bool false))), none⟩]
def s23r5 : List SOper := [
 ⟨some 8, .mov (.t 3), none⟩,
 ⟨some 9, .bin .add (.t 8) (.k (.d (.int .i64 1))), none⟩,
 ⟨some 3, .mov (.t 9), none⟩]
def s23l6 : SCode := (.seq (.seq (.region s23r2 0 []) (.cond (.t 7) .skip (.exit 0))) (.seq (.block 1 (.seq (.region s23r3 0 []) (.cond (.t 16) (.seq (.region s23r4 0 []) .ret) .skip))) (.region s23r5 0 [])))
theorem xcs : CodeIs s23l6.eq_1 := qc s23l6.eq_1
def s23r7 : List SOper := [
 ⟨some 17, .mov (.t 0), none⟩,
 ⟨some 18, .len (.t 17), none⟩,
 ⟨some 19, .bin .leq (.t 18) (.k (.d (.int .i64 15))), none⟩,
 ⟨some 2, .mov (.t 19), none⟩]
def s23 : SCode := (.seq (.region s23r0 0 []) (.seq (.seq (.region s23r1 0 []) (.block 0 (.loop s23l6))) (.seq (.region s23r7 0 []) .ret)))
theorem e23 : CodeIs s23.eq_1 := qc s23.eq_1
theorem xct : RegIs s23r0.eq_1 := qa
theorem xcu : RegIs s23r1.eq_1 := qa
theorem xcv : RegIs s23r2.eq_1 := qa
theorem xcw : RegIs s23r3.eq_1 := qa
theorem xcx : RegIs s23r4.eq_1 := qa
theorem xcy : RegIs s23r5.eq_1 := qa
theorem xcz : RegIs s23r7.eq_1 := qa
attribute [go_sem] xct xcu xcv xcw xcx xcy xcs xcz e23
theorem F23 : FnIs Tryz.prog 23 Tryz.f23 [] news s23 [.tmp 2] 20 := qz follows Tryz.func23
end
def SfTo (l : List OpS) (i : { i : Nat // i ≤ l.length }) : St :=
 ⟨[(0, true, .d (.sl 3 (l.map encOp))), (3, true, .own 0 3 ((l.take i.val).map encOp)), (4, true, .d (.int .i64 (i.val : Nat)))], [], [0], 1⟩
theorem xhz (l : List OpS) (hl : l.length ≤ 100000) (hv : ∀ o ∈ l, o.val.length ≤ 1000000) : ACall Tryz.prog 31 [.d (.sl 3 (l.map encOp))] [] (.d (.sl 3 (l.map encOp))) [] := by
 refine F31.go ?_
 try (refine ev ?_; try exact True.intro)
 refine qm (SfTo l) (fun i => l.length - i.val) ⟨0, Nat.zero_le _⟩ ?_ (fun i => ?_)
 ·try (refine ev2 @SfTo.eq_1 @List.take_zero.{0} ?_; try exact True.intro)
 obtain ⟨i, hi⟩ := i
 try (refine ev1 @SfTo.eq_1 ?_; try exact True.intro)
 (repeat (with_reducible refine ob ?_)); refine xf _ (fun h => ?_) (fun h => ?_)
 ·have hil : i < l.length := by simpa using h
  have hx := hv _ (List.getElem_mem hil)
  try (refine ev2 (qq encOp l hil) @encOp.eq_1 ?_; try exact True.intro)
  (repeat (with_reducible refine ob ?_))
  refine ⟨⟨i + 1, hil⟩, ?_, by dsimp only; omega⟩
  try (refine ev4 @SfTo.eq_1 (kw encOp l hil) @encOp.eq_1 (qk (show i < 9223372036854775807 by omega)) ?_; try exact True.intro)
 ·have hil : i = l.length := by
   have : l.length ≤ i := by simpa using h
   omega
  subst hil
  try (refine ev1 @List.take_length.{0} ?_; try exact True.intro)
theorem qqe (m : Cont) (p : List UInt8) : (sList m p).length ≤ m.l.length := by
 rw [sList, (xm _).length_eq]
 simp only [preL, List.length_map]
 exact List.length_filter_le _ _
def Scon (s : Sto) (l : List En) (i : { i : Nat // i ≤ l.length }) : St :=
 ⟨[(5, true, .d (.sl 2 (l.map encEn))), (6, true, .own 0 2 ((l.take i.val).map encEn)), (7, true, .d (.int .i64 (i.val : Nat)))], [stoO s 1, mapO s.m], [0], 1⟩
theorem qeu (s : Sto) (p : List UInt8) (n : Nat) (hs : s.Ok n) :
  ACall Tryz.prog 21 [.d (.ptr 0 0), .d (.str p)] [stoO s 1, mapO s.m] (.d (.sl 2 ((sList s.m p).map encEn))) [stoO s 1, mapO s.m] := by
 have hls := qvk s p hs.good.ok (by have := hs.good.few; omega) (fun x hx => by have := (hs.good.small x hx).2.2; omega)
 have hln := qqe s.m p
 have hfew := hs.good.few
 refine F21.go ?_
 try (refine ev2 @stoO.eq_1 @mapO.eq_1 ?_; try exact True.intro)
 simp only [stoO, mapO] at hls
 (repeat (with_reducible refine ob ?_)); refine clO [0, 1] xgj (hls) ?_ (hfit := by first | exact ⟨qb, trivial⟩ | exact ⟨qb, qb, trivial⟩ | simp only [encOp, encEn, go_sem, Nat.reduceAdd, Nat.reduceMul, Nat.reduceSub, Nat.reduceEqDiff, Nat.reduceLT, Nat.reduceLeDiff, Nat.reduceBEq, reduceIte, reduceCtorEq, Int.reduceAdd, Int.reduceLT, Int.reduceLE, Int.reduceGT, Int.reduceGE, Int.reduceEq, Int.reduceNe, Int.reduceBEq, Int.reduceBNe, Int.reduceToNat, Int.reduceNeg])
 generalize sList s.m p = l at hln ⊢
 try (refine ev ?_; try exact True.intro)
 refine qm (Scon s l) (fun i => l.length - i.val) ⟨0, Nat.zero_le _⟩ ?_ (fun i => ?_)
 ·try (refine ev4 @Scon.eq_1 @List.take_zero.{0} @stoO.eq_1 @mapO.eq_1 ?_; try exact True.intro)
 obtain ⟨i, hi⟩ := i
 try (refine ev3 @Scon.eq_1 @stoO.eq_1 @mapO.eq_1 ?_; try exact True.intro)
 (repeat (with_reducible refine ob ?_)); refine xf _ (fun h => ?_) (fun h => ?_)
 ·have hil : i < l.length := by simpa using h
  try (refine ev2 (qq encEn l hil) @encEn.eq_1 ?_; try exact True.intro)
  (repeat (with_reducible refine ob ?_))
  refine ⟨⟨i + 1, hil⟩, ?_, by dsimp only; omega⟩
  try (refine ev6 @Scon.eq_1 @stoO.eq_1 @mapO.eq_1 (kw encEn l hil) @encEn.eq_1 (qk (show i < 9223372036854775807 by omega)) ?_; try exact True.intro)
 ·have hil : i = l.length := by
   have : l.length ≤ i := by simpa using h
   omega
  subst hil
  try (refine ev1 @List.take_length.{0} ?_; try exact True.intro)
def vSum (l : List OpS) : Nat := (l.map fun o => o.val.length).sum
def sFew (l : List OpS) : Bool := l.all (fun o => decide (o.key.length ≤ 100) && decide (o.val.length ≤ 1000)) && decide (l.length ≤ 30) && decide (vSum l ≤ 3000)
theorem qqf (a b : Int) : IntKind.i64.wrap (IntKind.i64.wrap a + b) = IntKind.i64.wrap (a + b) := by
 simp only [IntKind.wrap, IntKind.bits, IntKind.signed, if_true]
 simp
 omega
theorem qqg (l : List OpS) {i : Nat} (h : i < l.length) : vSum (l.take (i + 1)) = vSum (l.take i) + l[i].val.length := by
 unfold vSum
 rw [List.take_succ_eq_append_getElem h, List.map_append, List.sum_append]; simp
theorem kx {α : Type} {f : α → Bool} {l : List α} {i : Nat} (h : (l.take i).all f = true) (hil : i < l.length) (hf : f l[i] = true) : (l.take (i + 1)).all f = true := by
 rw [List.take_succ_eq_append_getElem hil, List.all_append, h]; simp [hf]
theorem qqh {α : Type} {f : α → Bool} {l : List α} {i : Nat} (hil : i < l.length) (hf : f l[i] = false) : l.all f = false := by
 rw [List.all_eq_false]; exact ⟨l[i], List.getElem_mem hil, by simp [hf]⟩
theorem qvm (l : List OpS) : (l.all fun o => decide (o.key.length ≤ 100) && decide (o.val.length ≤ 1000)) = true → vSum l ≤ 1000 * l.length := by
 induction l with
 | nil => intro _; simp [vSum]
 | cons o l ih =>
  intro h
  simp only [List.all_cons, Bool.and_eq_true, decide_eq_true_eq] at h
  have := ih (by simpa using h.2)
  simp only [vSum, List.map_cons, List.sum_cons, List.length_cons] at this ⊢
  omega
def Sfew (l : List OpS) (i : { i : Nat // i ≤ l.length ∧ (l.take i).all (fun o => decide (o.key.length ≤ 100) && decide (o.val.length ≤ 1000)) = true }) : St :=
 ⟨[(0, true, .d (.sl 3 (l.map encOp))), (3, true, .d (.int .i64 (IntKind.i64.wrap (vSum (l.take i.val) : Nat)))), (4, true, .d (.int .i64 (i.val : Nat)))], [], [], 1⟩
theorem qua (l : List OpS) (hl : l.length ≤ maxLen) : ACall Tryz.prog 29 [.d (.sl 3 (l.map encOp))] [] (.d (.bool (sFew l))) [] := by
 have hl : l.length ≤ 9223372036854775807 := hl
 refine F29.go ?_
 try (refine ev ?_; try exact True.intro)
 refine qm (Sfew l) (fun i => l.length - i.val) ⟨0, Nat.zero_le _, rfl⟩ ?_ (fun i => ?_)
 ·have w0 : IntKind.i64.wrap 0 = 0 := rfl
  try (refine ev6 @Sfew.eq_1 @List.take_zero.{0} @vSum.eq_1 @List.sum_nil.{0} @Int.ofNat_zero @w0 ?_; try exact True.intro)
 obtain ⟨i, hi, ha⟩ := i
 try (refine ev1 @Sfew.eq_1 ?_; try exact True.intro)
 (repeat (with_reducible refine ob ?_)); refine xf _ (fun h => ?_) (fun h => ?_)
 ·have hil : i < l.length := by simpa using h
  try (refine ev2 (qq encOp l hil) @encOp.eq_1 ?_; try exact True.intro)
  refine ⟨by omega, fun h => ⟨h, h, by omega⟩, fun h => by rw [h]; rfl, ?_⟩
  have hd1 : decide ((l[i].key.length : Int) > 100) = !decide (l[i].key.length ≤ 100) := by rw [← decide_not]; exact decide_eq_decide.2 (by omega)
  have hd2 : decide ((l[i].val.length : Int) > 1000) = !decide (l[i].val.length ≤ 1000) := by rw [← decide_not]; exact decide_eq_decide.2 (by omega)
  have hd : (decide ((l[i].key.length : Int) > 100) || decide ((l[i].val.length : Int) > 1000)) = !(decide (l[i].key.length ≤ 100) && decide (l[i].val.length ≤ 1000)) := by rw [hd1, hd2, Bool.not_and]
  refine xf _ (fun h => ?_) (fun h => ?_)
  ·rw [hd, Bool.not_eq_true'] at h
   have : sFew l = false := by rw [sFew, qqh hil h]; rfl
   try (refine ev1 @this ?_; try exact True.intro)
  ·rw [hd, Bool.not_eq_false'] at h
   try (refine ev2 (qq encOp l hil) @encOp.eq_1 ?_; try exact True.intro)
   (repeat (with_reducible refine ob ?_))
   refine ⟨⟨i + 1, hil, kx ha hil h⟩, ?_, by dsimp only; omega⟩
   try (refine ev4 @Sfew.eq_1 (qqg l hil) @qqf (qk (show i < 9223372036854775807 by omega)) ?_; try exact True.intro)
 ·have hil : i = l.length := by
   have : l.length ≤ i := by simpa using h
   omega
  subst hil
  rw [List.take_length] at ha
  have hv := qvm l ha
  try (refine ev3 @List.take_length.{0} @sFew.eq_1 @ha ?_; try exact True.intro)
  by_cases h30 : l.length ≤ 30
  ·rw [wrap_i64 (by omega) (by omega)]
   have e1 : decide ((l.length : Int) ≤ 30) = true := by simp; omega
   have e2 : decide (((vSum l : Nat) : Int) ≤ 3000) = decide (vSum l ≤ 3000) := decide_eq_decide.2 (by omega)
   simp only [e1, e2, h30, decide_true, Bool.true_and]
  ·have : decide ((l.length : Int) ≤ 30) = false := by simp; omega
   rw [this]
   simp [h30]
structure StepS where
 kind : Int
 ops : List OpS
 deriving DecidableEq, Inhabited
def encStep (x : StepS) : List D := [.int .i64 x.kind, .sl 3 (x.ops.map encOp)]
theorem y4 (o : StepS) : D.noPtrL (encStep o) = true := by simp only [encStep, D.noPtrL, D.noPtr, qh5, Bool.and_self]
theorem qkv (l : List StepS) : D.noPtrR (l.map encStep) = true := qr y4 l
attribute [go_sem] y4 qkv
def sFews (l : List StepS) : Bool := l.all (fun x => sFew x.ops) && decide (l.length ≤ 15)
def Sfews (l : List StepS) (i : { i : Nat // i ≤ l.length ∧ (l.take i).all (fun x => sFew x.ops) = true }) : St :=
 ⟨[(0, true, .d (.sl 2 (l.map encStep))), (3, true, .d (.int .i64 (i.val : Nat)))], [], [], 1⟩
theorem xc0 (l : List StepS) (hl : l.length ≤ maxLen) (hx : ∀ x ∈ l, x.ops.length ≤ maxLen) : ACall Tryz.prog 23 [.d (.sl 2 (l.map encStep))] [] (.d (.bool (sFews l))) [] := by
 have hl : l.length ≤ 9223372036854775807 := hl
 refine F23.go ?_
 try (refine ev ?_; try exact True.intro)
 refine qm (Sfews l) (fun i => l.length - i.val) ⟨0, Nat.zero_le _, rfl⟩ ?_ (fun i => ?_)
 ·try (refine ev1 @Sfews.eq_1 ?_; try exact True.intro)
 obtain ⟨i, hi, ha⟩ := i
 try (refine ev1 @Sfews.eq_1 ?_; try exact True.intro)
 (repeat (with_reducible refine ob ?_)); refine xf _ (fun h => ?_) (fun h => ?_)
 ·have hil : i < l.length := by simpa using h
  try (refine ev2 (qq encStep l hil) @encStep.eq_1 ?_; try exact True.intro)
  (repeat (with_reducible refine ob ?_))
  (repeat (with_reducible refine ob ?_)); first | refine cl F29 (qua l[i].ops (hx _ (List.getElem_mem hil))) ?_ | refine clF F29 (qua l[i].ops (hx _ (List.getElem_mem hil))) (fun _ => by simp only [encOp, encEn, go_sem, Nat.reduceAdd, Nat.reduceMul, Nat.reduceSub, Nat.reduceEqDiff, Nat.reduceLT, Nat.reduceLeDiff, Nat.reduceBEq, reduceIte, reduceCtorEq, Int.reduceAdd, Int.reduceLT, Int.reduceLE, Int.reduceGT, Int.reduceGE, Int.reduceEq, Int.reduceNe, Int.reduceBEq, Int.reduceBNe, Int.reduceToNat, Int.reduceNeg]) ?_
  try (refine ev ?_; try exact True.intro)
  (repeat (with_reducible refine ob ?_)); refine xf _ (fun h => ?_) (fun h => ?_)
  ·have : sFews l = false := by rw [sFews, qqh hil (by simpa using h)]; rfl
   try (refine ev1 @this ?_; try exact True.intro)
  ·try (refine ev ?_; try exact True.intro)
   refine ⟨⟨i + 1, hil, kx ha hil (by simpa using h)⟩, ?_, by dsimp only; omega⟩
   try (refine ev2 @Sfews.eq_1 (qk (show i < 9223372036854775807 by omega)) ?_; try exact True.intro)
 ·have hil : i = l.length := by
   have : l.length ≤ i := by simpa using h
   omega
  subst hil
  rw [List.take_length] at ha
  have : sFews l = decide ((l.length : Int) ≤ 15) := by rw [sFews, ha, Bool.true_and]; exact decide_eq_decide.2 (by omega)
  try (refine ev1 @this ?_; try exact True.intro)
theorem q8q {l : List OpS} (h : sFew l = true) : l.length ≤ 30 ∧ ∀ o ∈ l, o.key.length ≤ 100 ∧ o.val.length ≤ 1000 := by
 unfold sFew at h
 simp only [Bool.and_eq_true, List.all_eq_true, decide_eq_true_eq] at h
 exact ⟨h.1.2, fun o ho => h.1.1 o ho⟩
theorem q03 {l : List StepS} (h : sFews l = true) : l.length ≤ 15 ∧ ∀ x ∈ l, sFew x.ops = true := by
 unfold sFews at h
 simp only [Bool.and_eq_true, List.all_eq_true, decide_eq_true_eq] at h
 exact ⟨h.2, h.1⟩
noncomputable section
set_option maxRecDepth 100000
def s17r0 : List SOper := [
 ⟨some 0, .mov (.k (.d (.bool false))), none⟩]
def s17r1 : List SOper := [
 ⟨some 5, .call (.k (.d (.func (.func 10) [] []))) [], none⟩,
 ⟨some 1, .mov (.t 5), none⟩]
def s17r2 : List SOper := [
 ⟨some 6, .mov (.t 1), none⟩,
 ⟨some 7, .buildSlice false 1 1 [(.int .u8 0)] [(0, 1, (.k (.d (.int .u8 1))))], none⟩,
 ⟨some 8, .build [(.str []), (.bool false), .nilsl] [(0, 1, (.k (.d (.str [97])))), (2, 1, (.t 7))], none⟩,
 ⟨some 9, .buildSlice false 1 1 [(.int .u8 0)] [(0, 1, (.k (.d (.int .u8 2))))], none⟩,
 ⟨some 10, .build [(.str []), (.bool false), .nilsl] [(0, 1, (.k (.d (.str [98])))), (2, 1, (.t 9))], none⟩,
 ⟨some 11, .buildSlice false 3 2 [(.str []), (.bool false), .nilsl] [(0, 3, (.t 8)), (3, 3, (.t 10))], none⟩,
 ⟨some 12, .call (.k (.d (.func (.func 14) [] []))) [(.t 6), (.t 11)], none⟩,
 ⟨some 2, .mov (.t 12), none⟩]
def s17r3 : List SOper := [
 ⟨some 13, .mov (.t 1), none⟩,
 ⟨some 14, .build [(.str []), (.bool false), .nilsl] [(0, 1, (.k (.d (.str [97])))), (1, 1, (.k (.d (.bool true))))], none⟩,
 ⟨some 15, .buildSlice false 3 1 [(.str []), (.bool false), .nilsl] [(0, 3, (.t 14))], none⟩,
 ⟨some 16, .call (.k (.d (.func (.func 14) [] []))) [(.t 13), (.t 15)], none⟩,
 ⟨some 3, .mov (.t 16), none⟩]
def s17r4 : List SOper := [
 ⟨some 17, .mov (.t 1), none⟩,
 ⟨some 18, .call (.k (.d (.func (.func 21) [] []))) [(.t 17), (.k (.d (.str [])))], none⟩,
 ⟨some 4, .mov (.t 18), none⟩]
def s17r5 : List SOper := [
 ⟨some 19, .mov (.t 2), none⟩,
 ⟨some 20, .bin .eql (.t 19) (.k (.d (.int .i64 0))), none⟩,
 ⟨some 21, .mov (.t 20), none⟩,
 ⟨some 22, .mov (.t 3), some (21, true)⟩,
 ⟨some 23, .bin .eql (.t 22) (.k (.d (.int .i64 0))), some (21, true)⟩,
 ⟨some 24, .pick (.t 21) (.t 23) (.k (.d (.bool false))), none⟩,
 ⟨some 25, .mov (.t 24), none⟩,
 ⟨some 26, .mov (.t 4), some (25, true)⟩,
 ⟨some 27, .len (.t 26), some (25, true)⟩,
 ⟨some 28, .bin .eql (.t 27) (.k (.d (.int .i64 1))), some (25, true)⟩,
 ⟨some 29, .pick (.t 25) (.t 28) (.k (.d (.bool false))), none⟩,
 ⟨some 30, .mov (.t 29), none⟩,
 ⟨some 31, .mov (.t 4), some (30, true)⟩,
 ⟨some 32, .iaddr 2 (.t 31) (.k (.d (.int .i64 0))), some (30, true)⟩,
 ⟨some 33, .faddr 0 (.t 32), some (30, true)⟩,
 ⟨some 34, .load none (.t 33), some (30, true)⟩,
 ⟨some 35, .bin .eql (.t 34) (.k (.d (.str [98]))), some (30, true)⟩,
 ⟨some 36, .pick (.t 30) (.t 35) (.k (.d (.bool false))), none⟩,
 ⟨some 37, .mov (.t 36), none⟩,
 ⟨some 38, .mov (.t 4), some (37, true)⟩,
 ⟨some 39, .iaddr 2 (.t 38) (.k (.d (.int .i64 0))), some (37, true)⟩,
 ⟨some 40, .faddr 1 (.t 39), some (37, true)⟩,
 ⟨some 41, .load none (.t 40), some (37, true)⟩,
 ⟨some 42, .b2s (.t 41), some (37, true)⟩,
 ⟨some 43, .bin .eql (.t 42) (.k (.d (.str [2]))), some (37, true)⟩,
 ⟨some 44, .pick (.t 37) (.t 43) (.k (.d (.bool false))), none⟩,
 ⟨some 0, .mov (.t 44), none⟩]
def s17 : SCode := (.seq (.region s17r0 0 []) (.seq (.region s17r1 2 []) (.seq (.region s17r2 1 []) (.seq (.region s17r3 1 []) (.seq (.region s17r4 0 []) (.seq (.region s17r5 0 []) .ret))))))
theorem e17 : CodeIs s17.eq_1 := qc s17.eq_1
theorem xc1 : RegIs s17r0.eq_1 := qa
theorem xc2 : RegIs s17r1.eq_1 := qa
theorem xc3 : RegIs s17r2.eq_1 := qa
theorem xc4 : RegIs s17r3.eq_1 := qa
theorem xc5 : RegIs s17r4.eq_1 := qa
theorem xc6 : RegIs s17r5.eq_1 := qa
attribute [go_sem] xc1 xc2 xc3 xc4 xc5 xc6 e17
theorem F17 : FnIs Tryz.prog 17 Tryz.f17 [] news s17 [.tmp 0] 45 := qz follows Tryz.func17
end
def ops1 : List OpS := [⟨[97], false, [1]⟩, ⟨[98], false, [2]⟩]
def ops2 : List OpS := [⟨[97], true, []⟩]
def st1 : Sto := (sCommit newS ops1).1
def st2 : Sto := (sCommit st1 ops2).1
theorem c1 : (sCommit newS ops1).2 = 0 := by decide +kernel
theorem c2 : (sCommit st1 ops2).2 = 0 := by decide +kernel
theorem c3 : sList st2.m [] = [([98], [2])] := by decide +kernel
theorem qqi : ACall Tryz.prog 10 [] [] (.d (.ptr 1 0)) [mapO newS.m, stoO newS 0] := q0i
theorem qev : ACall Tryz.prog 17 [] [] (.d (.bool true)) [] := by
 have s1 : st1.Ok 1 := qc1 (qp7 0) ops1
 have s2 : st2.Ok 2 := qc1 s1 ops2
 have k0 := qqi
 have k1 := qer (by decide) (by decide) c1
 have k2 := qer (s := st1) (by decide) (by have := s1.file; omega) c2
 have k3 := qeu st2 [] 2 s2
 rw [c3] at k3
 change ACall _ _ _ _ _ [stoO st1 2, mapO newS.m, mapO st1.m] at k1
 change ACall _ _ _ _ _ [stoO st2 2, mapO st1.m, mapO st2.m] at k2
 have o1 : ops1.map encOp = [[.str [97], .bool false, .sl 1 [[.int .u8 1]]], [.str [98], .bool false, .sl 1 [[.int .u8 2]]]] := rfl
 have o2 : ops2.map encOp = [[.str [97], .bool true, .sl 1 []]] := rfl
 have o3 : [(([98], [2]) : En)].map encEn = [[.str [98], .sl 1 [[.int .u8 2]]]] := rfl
 rw [o1] at k1; rw [o2] at k2; rw [o3] at k3
 clear s1 s2 o1 o2 o3
 generalize newS = s0, st1 = s1, st2 = s2 at k0 k1 k2 k3
 simp only [stoO, mapO] at k0 k1 k2 k3
 refine F17.go ?_
 try (refine ev ?_; try exact True.intro)
 refine clO [0, 1] F10 k0 ?_
 try (refine ev ?_; try exact True.intro)
 refine clO [1, 0, 2] F14 k1 ?_
 try (refine ev ?_; try exact True.intro)
 refine clO [1, 2, 3] F14 k2 ?_
 try (refine ev ?_; try exact True.intro)
 refine clO [1, 3] F21 k3 ?_
 try (refine ev ?_; try exact True.intro)
 exact ⟨⟨[2], rfl⟩, by decide⟩
end Go.Proofs.YtinnaedmdoengaaGreat
namespace Go.Proofs.YtinnaedmdoengaaGreat
open Go.Abs
set_option linter.unusedSimpArgs false
set_option linter.unusedVariables false
noncomputable section
set_option maxRecDepth 100000
def s214r0 : List SOper := [
 ⟨some 2, .mov (.k (.d (.bool false))), none⟩]
def s214r1 : List SOper := [
 ⟨some 3, .mov (.t 0), none⟩,
 ⟨some 4, .bin .neq (.t 3) (.k (.d (.int .u8 0))), none⟩,
 ⟨some 2, .mov (.t 4), none⟩]
def s214 : SCode := (.seq (.region s214r0 0 []) (.seq (.region s214r1 0 []) .ret))
theorem xh0 : CodeIs s214.eq_1 := qc s214.eq_1
theorem q04 : RegIs s214r0.eq_1 := qa
theorem q05 : RegIs s214r1.eq_1 := qa
attribute [go_sem] q04 q05 xh0
theorem xgk : FnIs Tryz.prog 214 Tryz.f214 [] news s214 [.tmp 2] 5 := qz follows Tryz.func214
def s216r0 : List SOper := [
 ⟨some 4, .mov (.k (.d (.int .i64 0))), none⟩]
def s216r1 : List SOper := [
 ⟨some 6, .mov (.t 0), none⟩,
 ⟨some 7, .len (.t 6), none⟩,
 ⟨some 8, .mov (.k (.d (.int .i64 0))), none⟩]
def s216r2 : List SOper := [
 ⟨some 9, .bin .lss (.t 8) (.t 7), none⟩]
def s216r3 : List SOper := [
 ⟨some 10, .mov (.t 8), none⟩,
 ⟨some 5, .mov (.t 10), none⟩]
def s216r4 : List SOper := [
 ⟨some 11, .mov (.t 1), none⟩,
 ⟨some 12, .mov (.t 0), none⟩,
 ⟨some 13, .mov (.t 5), none⟩,
 ⟨some 14, .iaddr 1 (.t 12) (.t 13), none⟩,
 ⟨some 15, .load none (.t 14), none⟩,
 ⟨some 16, .call (.t 11) [(.t 15)], none⟩]
def s216r5 : List SOper := [
 ⟨some 17, .mov (.t 5), none⟩,
 ⟨some 4, .mov (.t 17), none⟩]
def s216r6 : List SOper := [
 ⟨some 18, .bin .add (.t 8) (.k (.d (.int .i64 1))), none⟩,
 ⟨some 8, .mov (.t 18), none⟩]
def s216l7 : SCode := (.seq (.region s216r2 0 []) (.seq (.cond (.t 9) .skip (.exit 0)) (.seq (.block 1 (.seq (.region s216r3 0 []) (.seq (.region s216r4 0 []) (.cond (.t 16) (.seq (.region s216r5 0 []) .ret) .skip)))) (.region s216r6 0 []))))
theorem q06 : CodeIs s216l7.eq_1 := qc s216l7.eq_1
def s216r8 : List SOper := [
 ⟨some 4, .mov (.k (.d (.int .i64 (-1)))), none⟩]
def s216 : SCode := (.seq (.region s216r0 0 []) (.seq (.seq (.region s216r1 0 []) (.block 0 (.loop s216l7))) (.seq (.region s216r8 0 []) .ret)))
theorem xh1 : CodeIs s216.eq_1 := qc s216.eq_1
theorem q07 : RegIs s216r0.eq_1 := qa
theorem q08 : RegIs s216r1.eq_1 := qa
theorem q09 : RegIs s216r2.eq_1 := qa
theorem q1a : RegIs s216r3.eq_1 := qa
theorem q1b : RegIs s216r4.eq_1 := qa
theorem q1c : RegIs s216r5.eq_1 := qa
theorem q1d : RegIs s216r6.eq_1 := qa
theorem q1e : RegIs s216r8.eq_1 := qa
attribute [go_sem] q07 q08 q09 q1a q1b q1c q1d q06 q1e xh1
theorem xgl : FnIs Tryz.prog 216 Tryz.f216 [] news s216 [.tmp 4] 19 := qz follows Tryz.func216
def s213r0 : List SOper := [
 ⟨some 4, .mov (.k (.d (.bool false))), none⟩]
def s213r1 : List SOper := [
 ⟨some 5, .mov (.t 0), none⟩,
 ⟨some 6, .mov (.t 1), none⟩,
 ⟨some 7, .call (.k (.d (.func (.func 216) [] []))) [(.t 5), (.t 6)], none⟩,
 ⟨some 8, .bin .geq (.t 7) (.k (.d (.int .i64 0))), none⟩,
 ⟨some 4, .mov (.t 8), none⟩]
def s213 : SCode := (.seq (.region s213r0 0 []) (.seq (.region s213r1 0 []) .ret))
theorem xh2 : CodeIs s213.eq_1 := qc s213.eq_1
theorem q1f : RegIs s213r0.eq_1 := qa
theorem q1g : RegIs s213r1.eq_1 := qa
attribute [go_sem] q1f q1g xh2
theorem xgm : FnIs Tryz.prog 213 Tryz.f213 [] news s213 [.tmp 4] 9 := qz follows Tryz.func213
def s204r0 : List SOper := [
 ⟨some 4, .mov (.k (.d (.bool false))), none⟩]
def s204r1 : List SOper := [
 ⟨some 7, .mov (.t 0), none⟩,
 ⟨some 8, .iaddr 1 (.t 7) (.k (.d (.int .i64 0))), none⟩,
 ⟨some 9, .load none (.t 8), none⟩,
 ⟨some 10, .mov (.t 0), none⟩,
 ⟨some 11, .iaddr 1 (.t 10) (.k (.d (.int .i64 1))), none⟩,
 ⟨some 12, .load none (.t 11), none⟩,
 ⟨some 13, .conv .i64 (.t 12), none⟩,
 ⟨some 5, .mov (.t 9), none⟩,
 ⟨some 6, .mov (.t 13), none⟩]
def s204r2 : List SOper := [
 ⟨some 15, .mov (.t 5), none⟩,
 ⟨some 16, .bin .neq (.t 15) (.k (.d (.int .u8 1))), none⟩,
 ⟨some 17, .mov (.t 16), none⟩,
 ⟨some 18, .mov (.t 5), some (17, true)⟩,
 ⟨some 19, .bin .neq (.t 18) (.k (.d (.int .u8 2))), some (17, true)⟩,
 ⟨some 20, .pick (.t 17) (.t 19) (.k (.d (.bool false))), none⟩,
 ⟨some 21, .mov (.t 20), none⟩,
 ⟨some 22, .mov (.t 6), some (21, false)⟩,
 ⟨some 23, .bin .gtr (.t 22) (.k (.d (.int .i64 22))), some (21, false)⟩,
 ⟨some 24, .pick (.t 21) (.k (.d (.bool true))) (.t 23), none⟩,
 ⟨some 25, .mov (.t 24), none⟩,
 ⟨some 26, .mov (.t 1), some (25, false)⟩,
 ⟨some 27, .mov (.t 6), some (25, false)⟩,
 ⟨some 28, .bin .add (.t 26) (.t 27), some (25, false)⟩,
 ⟨some 29, .bin .gtr (.t 28) (.k (.d (.int .i64 2000))), some (25, false)⟩,
 ⟨some 30, .pick (.t 25) (.k (.d (.bool true))) (.t 29), none⟩,
 ⟨some 14, .mov (.t 30), none⟩]
def s204r3 : List SOper := [
 ⟨some 4, .mov (.k (.d (.bool false))), none⟩]
def s204r4 : List SOper := [
 ⟨some 32, .mov (.t 5), none⟩,
 ⟨some 33, .bin .eql (.t 32) (.k (.d (.int .u8 1))), none⟩,
 ⟨some 34, .mov (.t 33), none⟩,
 ⟨some 35, .mov (.t 6), some (34, true)⟩,
 ⟨some 36, .bin .neq (.t 35) (.k (.d (.int .i64 22))), some (34, true)⟩,
 ⟨some 37, .pick (.t 34) (.t 36) (.k (.d (.bool false))), none⟩,
 ⟨some 38, .mov (.t 37), none⟩,
 ⟨some 39, .mov (.t 5), some (38, false)⟩,
 ⟨some 40, .bin .eql (.t 39) (.k (.d (.int .u8 2))), some (38, false)⟩,
 ⟨some 41, .mov (.t 40), some (38, false)⟩,
 ⟨some 42, .mov (.t 6), some (41, true)⟩,
 ⟨some 43, .bin .eql (.t 42) (.k (.d (.int .i64 0))), some (41, true)⟩,
 ⟨some 44, .pick (.t 41) (.t 43) (.k (.d (.bool false))), some (38, false)⟩,
 ⟨some 45, .mov (.t 44), some (38, false)⟩,
 ⟨some 46, .mov (.t 1), some (45, true)⟩,
 ⟨some 47, .bin .gtr (.t 46) (.k (.d (.int .i64 0))), some (45, true)⟩,
 ⟨some 48, .pick (.t 45) (.t 47) (.k (.d (.bool false))), some (38, false)⟩,
 ⟨some 49, .pick (.t 38) (.k (.d (.bool true))) (.t 48), none⟩,
 ⟨some 31, .mov (.t 49), none⟩]
def s204r5 : List SOper := [
 ⟨some 4, .mov (.k (.d (.bool false))), none⟩]
def s204r6 : List SOper := [
 ⟨some 50, .mov (.t 0), none⟩,
 ⟨some 51, .mov (.t 6), none⟩,
 ⟨some 52, .bin .add (.k (.d (.int .i64 2))) (.t 51), none⟩,
 ⟨some 53, .slice 1 (.t 50) (some (.t 52)) none none, none⟩,
 ⟨some 54, .call (.k (.d (.func (.func 213) [] []))) [(.t 53), (.k (.d (.func (.func 214) [] [])))], none⟩,
 ⟨some 55, .not (.t 54), none⟩,
 ⟨some 4, .mov (.t 55), none⟩]
def s204 : SCode := (.seq (.region s204r0 0 []) (.seq (.region s204r1 0 []) (.seq (.block 0 (.seq (.region s204r2 0 []) (.cond (.t 14) (.seq (.region s204r3 0 []) .ret) (.seq (.region s204r4 0 []) (.cond (.t 31) (.seq (.region s204r5 0 []) .ret) .skip))))) (.seq (.region s204r6 0 []) .ret))))
theorem xh3 : CodeIs s204.eq_1 := qc s204.eq_1
theorem q1h : RegIs s204r0.eq_1 := qa
theorem q1i : RegIs s204r1.eq_1 := qa
theorem q1j : RegIs s204r2.eq_1 := qa
theorem q1k : RegIs s204r3.eq_1 := qa
theorem q1l : RegIs s204r4.eq_1 := qa
theorem q1m : RegIs s204r5.eq_1 := qa
theorem q1n : RegIs s204r6.eq_1 := qa
attribute [go_sem] q1h q1i q1j q1k q1l q1m q1n xh3
theorem xgn : FnIs Tryz.prog 204 Tryz.f204 [] news s204 [.tmp 4] 56 := qz follows Tryz.func204
def s57r0 : List SOper := [
 ⟨some 4, .mov (.k (.d (.bool false))), none⟩]
def s57r1 : List SOper := [
 ⟨some 5, .mov (.t 0), none⟩,
 ⟨some 6, .b2s (.t 5), none⟩,
 ⟨some 7, .mov (.t 1), none⟩,
 ⟨some 8, .b2s (.t 7), none⟩,
 ⟨some 9, .bin .eql (.t 6) (.t 8), none⟩,
 ⟨some 4, .mov (.t 9), none⟩]
def s57 : SCode := (.seq (.region s57r0 0 []) (.seq (.region s57r1 0 []) .ret))
theorem e57 : CodeIs s57.eq_1 := qc s57.eq_1
theorem xc7 : RegIs s57r0.eq_1 := qa
theorem xc8 : RegIs s57r1.eq_1 := qa
attribute [go_sem] xc7 xc8 e57
theorem F57 : FnIs Tryz.prog 57 Tryz.f57 [] news s57 [.tmp 4] 10 := qz follows Tryz.func57
def s167r0 : List SOper := [
 ⟨some 2, .mov (.k (.d (.int .i64 0))), none⟩]
def s167r1 : List SOper := [
 ⟨some 3, .mov (.t 0), none⟩,
 ⟨some 4, .len (.t 3), none⟩,
 ⟨some 5, .bin .eql (.t 4) (.k (.d (.int .i64 0))), none⟩]
def s167r2 : List SOper := [
 ⟨some 2, .mov (.k (.d (.int .i64 0))), none⟩]
def s167r3 : List SOper := [
 ⟨some 6, .mov (.t 0), none⟩,
 ⟨some 7, .mov (.t 0), none⟩,
 ⟨some 8, .len (.t 7), none⟩,
 ⟨some 9, .bin .sub (.t 8) (.k (.d (.int .i64 1))), none⟩,
 ⟨some 10, .iaddr 1 (.t 6) (.t 9), none⟩,
 ⟨some 11, .load none (.t 10), none⟩,
 ⟨some 2, .mov (.t 11), none⟩]
def s167 : SCode := (.seq (.region s167r0 0 []) (.seq (.seq (.region s167r1 0 []) (.cond (.t 5) (.seq (.region s167r2 0 []) .ret) .skip)) (.seq (.region s167r3 0 []) .ret)))
theorem xh4 : CodeIs s167.eq_1 := qc s167.eq_1
theorem q1o : RegIs s167r0.eq_1 := qa
theorem q1p : RegIs s167r1.eq_1 := qa
theorem q1q : RegIs s167r2.eq_1 := qa
theorem q1r : RegIs s167r3.eq_1 := qa
attribute [go_sem] q1o q1p q1q q1r xh4
theorem xc9 : FnIs Tryz.prog 167 Tryz.f167 [] news s167 [.tmp 2] 12 := qz follows Tryz.func167
end
theorem qns (c : UInt8) : ACall Tryz.prog 214 [.d (.int .u8 (c.toNat : Nat))] [] (.d (.bool (!(c == 0)))) [] := by
 have e : (((c.toNat : Nat) : Int) != 0) = !(c == 0) := by
  show (!(((c.toNat : Nat) : Int) == 0)) = !(c == 0)
  congr 1
  rw [Bool.eq_iff_iff]
  simp only [beq_iff_eq]
  constructor
  ·intro h
   apply UInt8.toNat_inj.1
   show c.toNat = 0
   omega
  ·rintro rfl; rfl
 refine xgk.go ?_
 try (refine ev1 @e ?_; try exact True.intro)
def SidxB (k : FuncId) (l : List UInt8) (f : UInt8 → Bool) (i : { i : Nat // (l.take i).any f = false }) : St :=
 ⟨[(0, true, .d (.sl 1 (byteRows l))), (1, true, .d (.func (.func k) [] [])), (7, true, .d (.int .i64 l.length)), (8, true, .d (.int .i64 (i.val : Nat)))], [], [], 1⟩
theorem qqj {k : FuncId} {f : UInt8 → Bool} (hb : (Tryz.prog.funcs[k]?).any (fun fn => fn.body.isSome && !(fn.name == "runtime.NumGoroutine")) = true)
  (hf : ∀ v : UInt8, ACall Tryz.prog k [.d (.int .u8 (v.toNat : Nat))] [] (.d (.bool (f v))) []) (l : List UInt8) (hl : l.length ≤ maxLen) :
  ACall Tryz.prog 216 [.d (.sl 1 (byteRows l)), .d (.func (.func k) [] [])] [] (.d (.int .i64 (idx f l))) [] := by
 refine xgl.go ?_
 try (refine ev ?_; try exact True.intro)
 refine qm (SidxB k l f) (fun i => l.length - i.val) ⟨0, rfl⟩ ?_ (fun i => ?_)
 ·try (refine ev1 @SidxB.eq_1 ?_; try exact True.intro)
 obtain ⟨i, hi⟩ := i
 try (refine ev1 @SidxB.eq_1 ?_; try exact True.intro)
 (repeat (with_reducible refine ob ?_)); refine xf _ (fun h => ?_) (fun h => ?_)
 ·have hil : i < l.length := by simpa using h
  try (refine ev1 (ql l hil) ?_; try exact True.intro)
  (repeat (with_reducible refine ob ?_))
  refine qo (hf l[i]) hb (fun h => h) (fun _ => ⟨qb, trivial⟩) rfl rfl rfl ?_
  try (refine ev ?_; try exact True.intro)
  (repeat (with_reducible refine ob ?_)); refine xf _ (fun h => ?_) (fun h => ?_)
  ·try (refine ev1 (qbp hi hil h) ?_; try exact True.intro)
  ·try (refine ev ?_; try exact True.intro)
   refine ⟨⟨i + 1, zy hi hil (by simpa using h)⟩, ?_, by dsimp only; omega⟩
   try (refine ev2 @SidxB.eq_1 (qk (show i < 9223372036854775807 by unfold maxLen at hl; omega)) ?_; try exact True.intro)
 ·have hil : l.length ≤ i := by simpa using h
  try (refine ev1 (qbo hi hil) ?_; try exact True.intro)
theorem qio {k : FuncId} {f : UInt8 → Bool} (hb : (Tryz.prog.funcs[k]?).any (fun fn => fn.body.isSome && !(fn.name == "runtime.NumGoroutine")) = true)
  (hf : ∀ v : UInt8, ACall Tryz.prog k [.d (.int .u8 (v.toNat : Nat))] [] (.d (.bool (f v))) []) (l : List UInt8) (hl : l.length ≤ maxLen) :
  ACall Tryz.prog 213 [.d (.sl 1 (byteRows l)), .d (.func (.func k) [] [])] [] (.d (.bool (l.any f))) [] := by
 refine xgm.go ?_
 try (refine ev ?_; try exact True.intro)
 (repeat (with_reducible refine ob ?_)); refine cl xgl (qqj hb hf l hl) ?_
 try (refine ev1 @qln ?_; try exact True.intro)
theorem qip : (Tryz.prog.funcs[214]?).any (fun fn => fn.body.isSome && !(fn.name == "runtime.NumGoroutine")) = true := xgk.body
theorem qgd {h : List UInt8} (hl : 0 < h.length) : kindOf h = h[0].toNat := by simp [kindOf, List.getD_eq_getElem?_getD, hl]
theorem qiq {h : List UInt8} (hl : 1 < h.length) : numB h = h[1].toNat := by simp [numB, List.getD_eq_getElem?_getD, hl]
theorem q1s (l : List UInt8) : l.any (fun c => !(c == 0)) = !l.all (fun c => c == 0) := by induction l <;> simp_all
theorem qir (h : List UInt8) (n : Nat) (hl : h.length = 24) (hn : n ≤ 100000) : ACall Tryz.prog 204 [.d (.sl 1 (byteRows h)), .d (.int .i64 n)] [] (.d (.bool (cProper h n))) [] := by
 have h0 : 0 < h.length := by omega
 have h1 : 1 < h.length := by omega
 have hk := qgd h0
 have hm := qiq h1
 have l0 := zf h[0]
 have l1 := zf h[1]
 refine xgn.go ?_
 try (refine ev3 (ql h h0) (ql h h1) (qt (n := (h[1].toNat : Int)) (by unfold I64; omega)) ?_; try exact True.intro)
 rw [← hk, ← hm]
 rw [← hk] at l0
 rw [← hm] at l1
 (repeat (with_reducible refine ob ?_))
 generalize hkk : kindOf h = k at *
 generalize hmm : numB h = m at *
 have w1 : IntKind.i64.wrap ((n : Int) + (m : Int)) = ((n + m : Nat) : Int) := by rw [qt (by unfold I64; omega)]; omega
 have w2 : IntKind.i64.wrap (2 + (m : Int)) = ((2 + m : Nat) : Int) := by rw [qt (by unfold I64; omega)]; omega
 try (refine ev2 @w1 @w2 ?_; try exact True.intro)
 refine xf _ (fun hc => ?_) (fun hc => ?_)
 ·have hb : cProper h n = false := by
   rw [Bool.eq_false_iff]; intro hp
   obtain ⟨a1, a2, a3, a4, a5, a6⟩ := xz.1 hp
   rw [hkk] at a1; rw [hmm] at a2 a3
   simp only [Bool.or_eq_true, Bool.and_eq_true, decide_eq_true_eq, bne_iff_ne] at hc; omega
  try (refine ev1 @hb ?_; try exact True.intro)
 have hc1 : (k = 1 ∨ k = 2) ∧ m ≤ 22 ∧ n + m ≤ 2000 := by
  simp only [Bool.or_eq_false_iff, Bool.and_eq_false_iff, decide_eq_false_iff_not, bne_eq_false_iff_eq] at hc; omega
 try (refine ev ?_; try exact True.intro)
 (repeat (with_reducible refine ob ?_))
 refine xf _ (fun hd => ?_) (fun hd => ?_)
 ·have hb : cProper h n = false := by
   rw [Bool.eq_false_iff]; intro hp
   obtain ⟨a1, a2, a3, a4, a5, a6⟩ := xz.1 hp
   rw [hkk] at a4 a5; rw [hmm] at a4 a5
   simp only [Bool.or_eq_true, Bool.and_eq_true, decide_eq_true_eq, bne_iff_ne, beq_iff_eq] at hd; omega
  try (refine ev1 @hb ?_; try exact True.intro)
 have hb : cProper h n = (h.drop (2 + m)).all (fun c => c == 0) := by
  rw [Bool.eq_iff_iff, xz, hkk, hmm]
  simp only [Bool.or_eq_false_iff, Bool.and_eq_false_iff, decide_eq_false_iff_not, bne_eq_false_iff_eq, beq_eq_false_iff_ne] at hd
  exact ⟨fun x => x.2.2.2.2.2, fun x => ⟨hc1.1, hc1.2.1, hc1.2.2, by omega, by omega, x⟩⟩
 have hx : ((byteRows h).drop (2 + m)).take (h.length - (2 + m)) = byteRows (h.drop (2 + m)) := by rw [qw, qp, List.take_of_length_le (by rw [List.length_drop]; omega)]
 have e2 : (2 + (m : Int)).toNat = 2 + m := by omega
 try (refine ev3 @w2 @e2 @hx ?_; try exact True.intro)
 refine ⟨by omega, ?_⟩
 (repeat (with_reducible refine ob ?_)); refine cl xgm (qio qip qns (h.drop (2 + m)) (by rw [List.length_drop]; unfold maxLen; omega)) ?_
 try (refine ev2 @q1s @hb ?_; try exact True.intro)
theorem qqk (a b : List UInt8) : ACall Tryz.prog 57 [.d (.ref 0 0 1 a.length), .d (.sl 1 (byteRows b))] [.row ((a.map byteD).map .d)] (.d (.bool (a == b))) [.row ((a.map byteD).map .d)] := by
 refine F57.go ?_
 try (refine ev ?_; try exact True.intro)
 rw [Nat.mul_one, qao (s := a) rfl rfl, List.take_of_length_le (by simp)]
 exact ⟨⟨⟨Nat.le_refl _, wt a⟩, a, rfl⟩, by rw [wg]⟩
theorem q8r (a b : List UInt8) : ACall Tryz.prog 57 [.d (.sl 1 (byteRows a)), .d (.sl 1 (byteRows b))] [] (.d (.bool (a == b))) [] := by
 refine F57.go ?_
 try (refine ev ?_; try exact True.intro)
def endRows (l : List Nat) : List (List D) := l.map fun n => [.int .i64 (n : Nat)]
theorem qql (l : List Nat) (hl : l.length ≤ 1000000000) : ACall Tryz.prog 167 [.d (.sl 1 (endRows l))] [] (.d (.int .i64 (l.getLastD 0 : Nat))) [] := by
 refine xc9.go ?_
 try (refine ev ?_; try exact True.intro)
 have hel : (endRows l).length = l.length := by simp [endRows]
 refine xf _ (fun hc => ?_) (fun hc => ?_)
 ·have : l = [] := by simpa [hel] using hc
  subst this
  try (refine ev2 @List.getLastD_nil.{0} @Int.ofNat_zero ?_; try exact True.intro)
 ·have hne : 0 < l.length := by simp only [hel, beq_eq_false_iff_ne] at hc; omega
  have e1 : IntKind.i64.wrap (((endRows l).length : Int) - 1) = ((l.length - 1 : Nat) : Int) := by rw [hel, qt (by unfold I64; omega)]; omega
  have e2 : (endRows l).getD (l.length - 1) [] = [.int .i64 (l.getLastD 0 : Nat)] := by
   rw [endRows, qq (fun n : Nat => [D.int .i64 (n : Int)]) l (by omega) [], List.getLastD_eq_getLast?, List.getLast?_eq_getElem?, List.getElem?_eq_getElem (by omega)]
   rfl
  try (refine ev3 @e1 @Int.toNat_natCast @e2 ?_; try exact True.intro)
  rw [hel]
  omega
end Go.Proofs.YtinnaedmdoengaaGreat
namespace Go.Proofs.YtinnaedmdoengaaGreat
open Go.Abs
set_option linter.unusedSimpArgs false
set_option linter.unusedVariables false
noncomputable section
set_option maxRecDepth 100000
def s166r0 : List SOper := [
 ⟨some 2, .mov (.k (.d .nilsl)), none⟩,
 ⟨some 3, .mov (.k (.d .nilsl)), none⟩,
 ⟨some 4, .mov (.k (.d (.int .i64 0))), none⟩]
def s166r1 : List SOper := [
 ⟨some 5, .mov (.k (.d (.int .u64 14695981039346656037))), none⟩]
def s166r2 : List SOper := [
 ⟨some 6, .mov (.k (.d .nilsl)), none⟩]
def s166r3 : List SOper := [
 ⟨some 7, .mov (.k (.d (.int .i64 0))), none⟩]
def s166r4 : List SOper := [
 ⟨some 11, .mov (.t 7), none⟩,
 ⟨some 12, .bin .add (.t 11) (.k (.d (.int .i64 32))), none⟩,
 ⟨some 13, .mov (.t 0), none⟩,
 ⟨some 14, .len (.t 13), none⟩,
 ⟨some 15, .bin .leq (.t 12) (.t 14), none⟩]
def s166r5 : List SOper := [
 ⟨some 16, .mov (.t 0), none⟩,
 ⟨some 17, .mov (.t 7), none⟩,
 ⟨some 18, .mov (.t 7), none⟩,
 ⟨some 19, .bin .add (.t 18) (.k (.d (.int .i64 24))), none⟩,
 ⟨some 20, .slice 1 (.t 16) (some (.t 17)) (some (.t 19)) none, none⟩,
 ⟨some 8, .mov (.t 20), none⟩]
def s166r6 : List SOper := [
 ⟨some 22, .mov (.t 5), none⟩,
 ⟨some 23, .mov (.t 8), none⟩,
 ⟨some 24, .call (.k (.d (.func (.func 103) [] []))) [(.t 22), (.t 23)], none⟩,
 ⟨some 21, .mov (.t 24), none⟩,
 ⟨some 25, .extract 0 (.t 21), none⟩,
 ⟨some 26, .extract 1 (.t 21), none⟩,
 ⟨some 10, .alloc 1 [(.d (.int .u8 0)), (.d (.int .u8 0)), (.d (.int .u8 0)), (.d (.int .u8 0)), (.d (.int .u8 0)), (.d (.int .u8 0)), (.d (.int .u8 0)), (.d (.int .u8 0))], none⟩,
 ⟨some 9, .mov (.t 25), none⟩,
 ⟨none, .store (some 8) (.t 10) (.t 26), none⟩]
def s166r7 : List SOper := [
 ⟨some 27, .sliceA 8 1 (.t 10) none none none, none⟩,
 ⟨some 28, .mov (.t 0), none⟩,
 ⟨some 29, .mov (.t 7), none⟩,
 ⟨some 30, .bin .add (.t 29) (.k (.d (.int .i64 24))), none⟩,
 ⟨some 31, .mov (.t 7), none⟩,
 ⟨some 32, .bin .add (.t 31) (.k (.d (.int .i64 32))), none⟩,
 ⟨some 33, .slice 1 (.t 28) (some (.t 30)) (some (.t 32)) none, none⟩,
 ⟨some 34, .call (.k (.d (.func (.func 57) [] []))) [(.t 27), (.t 33)], none⟩,
 ⟨some 35, .not (.t 34), none⟩]
def s166r8 : List SOper := [
 ⟨some 36, .mov (.t 2), none⟩,
 ⟨some 37, .mov (.t 3), none⟩,
 ⟨some 2, .mov (.t 36), none⟩,
 ⟨some 3, .mov (.t 37), none⟩,
 ⟨some 4, .mov (.k (.d (.int .i64 5))), none⟩]
def s166r9 : List SOper := [
 ⟨some 38, .mov (.t 8), none⟩,
 ⟨some 39, .mov (.t 6), none⟩,
 ⟨some 40, .len (.t 39), none⟩,
 ⟨some 41, .call (.k (.d (.func (.func 204) [] []))) [(.t 38), (.t 40)], none⟩,
 ⟨some 42, .not (.t 41), none⟩]
def s166r10 : List SOper := [
 ⟨some 43, .mov (.t 2), none⟩,
 ⟨some 44, .mov (.t 3), none⟩,
 ⟨some 2, .mov (.t 43), none⟩,
 ⟨some 3, .mov (.t 44), none⟩,
 ⟨some 4, .mov (.k (.d (.int .i64 4))), none⟩]
def s166r11 : List SOper := [
 ⟨some 45, .mov (.t 6), none⟩,
 ⟨some 46, .mov (.t 8), none⟩,
 ⟨some 47, .mov (.t 8), none⟩,
 ⟨some 48, .iaddr 1 (.t 47) (.k (.d (.int .i64 1))), none⟩,
 ⟨some 49, .load none (.t 48), none⟩,
 ⟨some 50, .conv .i64 (.t 49), none⟩,
 ⟨some 51, .bin .add (.k (.d (.int .i64 2))) (.t 50), none⟩,
 ⟨some 52, .slice 1 (.t 46) (some (.k (.d (.int .i64 2)))) (some (.t 51)) none, none⟩,
 ⟨some 53, .append false 1 1 (.t 45) (.t 52), none⟩,
 ⟨some 6, .mov (.t 53), none⟩]
def s166r12 : List SOper := [
 ⟨some 54, .mov (.t 7), none⟩,
 ⟨some 55, .bin .add (.t 54) (.k (.d (.int .i64 32))), none⟩,
 ⟨some 56, .mov (.t 9), none⟩,
 ⟨some 7, .mov (.t 55), none⟩,
 ⟨some 5, .mov (.t 56), none⟩]
def s166r13 : List SOper := [
 ⟨some 57, .mov (.t 8), none⟩,
 ⟨some 58, .iaddr 1 (.t 57) (.k (.d (.int .i64 0))), none⟩,
 ⟨some 59, .load none (.t 58), none⟩,
 ⟨some 60, .bin .eql (.t 59) (.k (.d (.int .u8 2))), none⟩]
def s166r14 : List SOper := [
 ⟨some 61, .mov (.t 2), none⟩,
 ⟨some 62, .buildSlice false 1 0 [(.int .u8 0)] [], none⟩,
 ⟨some 63, .mov (.t 6), none⟩,
 ⟨some 64, .append false 1 1 (.t 62) (.t 63), none⟩,
 ⟨some 65, .buildSlice false 1 1 [.nilsl] [(0, 1, (.t 64))], none⟩,
 ⟨some 66, .append false 1 24 (.t 61) (.t 65), none⟩,
 ⟨some 67, .mov (.t 3), none⟩,
 ⟨some 68, .mov (.t 7), none⟩,
 ⟨some 69, .buildSlice false 1 1 [(.int .i64 0)] [(0, 1, (.t 68))], none⟩,
 ⟨some 70, .append false 1 8 (.t 67) (.t 69), none⟩,
 ⟨some 2, .mov (.t 66), none⟩,
 ⟨some 3, .mov (.t 70), none⟩,
 ⟨some 6, .mov (.k (.d .nilsl)), none⟩]
def s166l15 : SCode := (.seq (.seq (.region s166r4 0 []) (.cond (.t 15) .skip (.exit 0))) (.block 1 (.seq (.region s166r5 0 []) (.seq (.region s166r6 1 []) (.seq (.seq (.region s166r7 0 []) (.cond (.t 35) (.seq (.region s166r8 0 []) .ret) .skip)) (.seq (.seq (.region s166r9 0 []) (.cond (.t 42) (.seq (.region s166r10 0 []) .ret) .skip)) (.seq (.region s166r11 0 []) (.seq (.region s166r12 0 []) (.seq (.region s166r13 0 []) (.cond (.t 60) (.region s166r14 0 []) .skip))))))))))
theorem qvn : CodeIs s166l15.eq_1 := qc s166l15.eq_1
def s166r16 : List SOper := [
 ⟨some 71, .mov (.t 3), none⟩,
 ⟨some 72, .call (.k (.d (.func (.func 167) [] []))) [(.t 71)], none⟩,
 ⟨some 73, .mov (.t 0), none⟩,
 ⟨some 74, .len (.t 73), none⟩,
 ⟨some 75, .bin .neq (.t 72) (.t 74), none⟩]
def s166r17 : List SOper := [
 ⟨some 76, .mov (.t 2), none⟩,
 ⟨some 77, .mov (.t 3), none⟩,
 ⟨some 2, .mov (.t 76), none⟩,
 ⟨some 3, .mov (.t 77), none⟩,
 ⟨some 4, .mov (.k (.d (.int .i64 4))), none⟩]
def s166r18 : List SOper := [
 ⟨some 78, .mov (.t 2), none⟩,
 ⟨some 79, .mov (.t 3), none⟩,
 ⟨some 2, .mov (.t 78), none⟩,
 ⟨some 3, .mov (.t 79), none⟩,
 ⟨some 4, .mov (.k (.d (.int .i64 0))), none⟩]
def s166 : SCode := (.seq (.region s166r0 0 []) (.seq (.region s166r1 0 []) (.seq (.region s166r2 0 []) (.seq (.region s166r3 0 []) (.seq (.block 0 (.loop s166l15)) (.seq (.seq (.region s166r16 0 []) (.cond (.t 75) (.seq (.region s166r17 0 []) .ret) .skip)) (.seq (.region s166r18 0 []) .ret)))))))
theorem xh5 : CodeIs s166.eq_1 := qc s166.eq_1
theorem q1t : RegIs s166r0.eq_1 := qa
theorem q1u : RegIs s166r1.eq_1 := qa
theorem q1v : RegIs s166r2.eq_1 := qa
theorem q1w : RegIs s166r3.eq_1 := qa
theorem q1x : RegIs s166r4.eq_1 := qa
theorem q1y : RegIs s166r5.eq_1 := qa
theorem q1z : RegIs s166r6.eq_1 := qa
theorem q11 : RegIs s166r7.eq_1 := qa
theorem q12 : RegIs s166r8.eq_1 := qa
theorem q13 : RegIs s166r9.eq_1 := qa
theorem qvo : RegIs s166r10.eq_1 := qa
theorem qvp : RegIs s166r11.eq_1 := qa
theorem qvq : RegIs s166r12.eq_1 := qa
theorem qvr : RegIs s166r13.eq_1 := qa
theorem qvs : RegIs s166r14.eq_1 := qa
theorem qvt : RegIs s166r16.eq_1 := qa
theorem qvu : RegIs s166r17.eq_1 := qa
theorem qvv : RegIs s166r18.eq_1 := qa
attribute [go_sem] q1t q1u q1v q1w q1x q1y q1z q11 q12 q13 qvo qvp qvq qvr qvs qvn qvt qvu qvv xh5
theorem xgo : FnIs Tryz.prog 166 Tryz.f166 [] news s166 [.tmp 2, .tmp 3, .tmp 4] 80 := qz follows Tryz.func166
def s111r0 : List SOper := [
 ⟨some 2, .mov (.k (.d .nilsl)), none⟩,
 ⟨some 3, .mov (.k (.d (.int .i64 0))), none⟩,
 ⟨some 4, .mov (.k (.d (.int .i64 0))), none⟩]
def s111r1 : List SOper := [
 ⟨some 7, .mov (.t 0), none⟩,
 ⟨some 8, .call (.k (.d (.func (.func 166) [] []))) [(.t 7)], none⟩,
 ⟨some 6, .mov (.t 8), none⟩,
 ⟨some 9, .extract 0 (.t 6), none⟩,
 ⟨some 10, .extract 1 (.t 6), none⟩,
 ⟨some 11, .extract 2 (.t 6), none⟩,
 ⟨some 2, .mov (.t 9), none⟩,
 ⟨some 5, .mov (.t 10), none⟩,
 ⟨some 4, .mov (.t 11), none⟩]
def s111r2 : List SOper := [
 ⟨some 12, .mov (.t 2), none⟩,
 ⟨some 13, .mov (.t 5), none⟩,
 ⟨some 14, .call (.k (.d (.func (.func 167) [] []))) [(.t 13)], none⟩,
 ⟨some 15, .mov (.t 4), none⟩,
 ⟨some 2, .mov (.t 12), none⟩,
 ⟨some 3, .mov (.t 14), none⟩,
 ⟨some 4, .mov (.t 15), none⟩]
def s111 : SCode := (.seq (.region s111r0 0 []) (.seq (.region s111r1 0 []) (.seq (.region s111r2 0 []) .ret)))
theorem xh6 : CodeIs s111.eq_1 := qc s111.eq_1
theorem q14 : RegIs s111r0.eq_1 := qa
theorem q15 : RegIs s111r1.eq_1 := qa
theorem q16 : RegIs s111r2.eq_1 := qa
attribute [go_sem] q14 q15 q16 xh6
theorem xgp : FnIs Tryz.prog 111 Tryz.f111 [] news s111 [.tmp 2, .tmp 3, .tmp 4] 16 := qz follows Tryz.func111
def s58r0 : List SOper := [
 ⟨some 2, .alloc 1 [(.d .nilsl), (.d (.int .i64 0))], none⟩,
 ⟨some 3, .mov (.k (.d .nilsl)), none⟩]
def s58r1 : List SOper := [
 ⟨some 8, .mov (.t 0), none⟩,
 ⟨some 9, .call (.k (.d (.func (.func 111) [] []))) [(.t 8)], none⟩,
 ⟨some 7, .mov (.t 9), none⟩,
 ⟨some 10, .extract 0 (.t 7), none⟩,
 ⟨some 11, .extract 1 (.t 7), none⟩,
 ⟨some 12, .extract 2 (.t 7), none⟩,
 ⟨some 4, .mov (.t 10), none⟩,
 ⟨some 5, .mov (.t 11), none⟩,
 ⟨some 6, .mov (.t 12), none⟩]
def s58r2 : List SOper := [
 ⟨some 13, .mov (.t 0), none⟩,
 ⟨some 14, .mov (.t 5), none⟩,
 ⟨some 15, .slice 1 (.t 13) none (some (.t 14)) none, none⟩,
 ⟨some 16, .call (.k (.d (.func (.func 63) [] []))) [(.t 15)], none⟩,
 ⟨some 17, .mov (.t 5), none⟩,
 ⟨some 18, .build [.nilsl, (.int .i64 0)] [(0, 1, (.t 16)), (1, 1, (.t 17))], none⟩,
 ⟨some 19, .mov (.t 4), none⟩,
 ⟨none, .store (some 2) (.t 2) (.t 18), none⟩,
 ⟨some 3, .mov (.t 19), none⟩]
def s58 : SCode := (.seq (.region s58r0 1 []) (.seq (.region s58r1 0 []) (.seq (.region s58r2 0 []) .ret)))
theorem e58 : CodeIs s58.eq_1 := qc s58.eq_1
theorem xda : RegIs s58r0.eq_1 := qa
theorem xdb : RegIs s58r1.eq_1 := qa
theorem xdc : RegIs s58r2.eq_1 := qa
attribute [go_sem] xda xdb xdc e58
theorem F58 : FnIs Tryz.prog 58 Tryz.f58 [] news s58 [.cell 2 (some 2), .tmp 3] 20 := qz follows Tryz.func58
end
def recRows (l : List (List UInt8)) : List (List D) := l.map fun r => [.sl 1 (byteRows r)]
theorem qge (l : List (List UInt8)) : D.noPtrR (recRows l) = true := qr (fun r => by simp only [D.noPtrL, D.noPtr, xa, Bool.and_self]) l
theorem qkw (l : List (List UInt8)) : (recRows l).length = l.length := by simp [recRows]
theorem qkx : recRows [] = [] := rfl
theorem qbc (l : List (List UInt8)) (r : List UInt8) : recRows l ++ [[.sl 1 (byteRows r)]] = recRows (l ++ [r]) := by simp [recRows]
theorem qgf (l : List Nat) : D.noPtrR (endRows l) = true := qr (fun _ => rfl) l
theorem qky (l : List Nat) : (endRows l).length = l.length := by simp [endRows]
theorem qkz : endRows [] = [] := rfl
theorem qub (l : List Nat) (n : Nat) : endRows l ++ [[.int .i64 (n : Nat)]] = endRows (l ++ [n]) := by simp [endRows]
attribute [go_sem] qge qkw qkx qgf qky qkz
def Sread (b : List UInt8) (s : Rds) : St :=
 ⟨[(0, true, .d (.sl 1 (byteRows b))), (2, true, .own 0 1 (recRows s.recs)), (3, true, .own 1 1 (endRows s.ends)), (4, true, .d (.int .i64 0)), (5, true, .d (.int .u64 (s.seed : Nat))), (6, true, .own 2 1 (byteRows s.now)), (7, true, .d (.int .i64 (s.pos : Nat)))], [], [0, 1, 2], 1⟩
set_option maxRecDepth 10000 in
theorem qvw (b : List UInt8) (hb : b.length ≤ 1000000000) : ACall Tryz.prog 166 [.d (.sl 1 (byteRows b))] [] (.tup [.d (.sl 1 (recRows (wRead b rds0).1.recs)), .d (.sl 1 (endRows (wRead b rds0).1.ends)), .d (.int .i64 (wRead b rds0).2)]) [] := by
 refine xgo.goT ?_
 try (refine ev ?_; try exact True.intro)
 refine qm (fun i : { s : Rds // s.Ok b ∧ wRead b s = wRead b rds0 } => Sread b i.val) (fun i => b.length - i.val.pos) ⟨rds0, vo b, rfl⟩ ?_ (fun i => ?_)
 ·try (refine ev5 @Sread.eq_1 @rds0.eq_1 @basis.eq_1 @Int.ofNat_zero @qj ?_; try exact True.intro)
 obtain ⟨s, hs, hx⟩ := i
 obtain ⟨q1, q2, q3, q4, q5, q6, q7⟩ := hs
 have w1 : IntKind.i64.wrap ((s.pos : Int) + 32) = ((s.pos + 32 : Nat) : Int) := by rw [qt (by unfold I64; omega)]; omega
 have w2 : IntKind.i64.wrap ((s.pos : Int) + 24) = ((s.pos + 24 : Nat) : Int) := by rw [qt (by unfold I64; omega)]; omega
 try (refine ev2 @Sread.eq_1 @w1 ?_; try exact True.intro)
 refine xf _ (fun hc => ?_) (fun hc => ?_)
 ·have hil : s.pos + 32 ≤ b.length := by simp at hc; omega
  have hh : (headAt b s.pos).length = 24 := by rw [headAt, List.length_take, List.length_drop]; omega
  have e1 : ((s.pos : Int) + 24).toNat - s.pos = 24 := by omega
  have e2 : ((s.pos : Int) + 32).toNat - ((s.pos : Int) + 24).toNat = 8 := by omega
  have e5 : ((s.pos : Int) + 24).toNat = s.pos + 24 := by omega
  have e3 : ((byteRows b).drop s.pos).take 24 = byteRows (headAt b s.pos) := by rw [qw, qp]; rfl
  have e4 : ((byteRows b).drop (s.pos + 24)).take 8 = byteRows (sumAt b s.pos) := by rw [qw, qp]; rfl
  try (refine ev6 @w2 @e1 @e2 @e3 @e4 @Int.toNat_natCast ?_; try exact True.intro)
  (repeat (with_reducible refine ob ?_))
  (repeat (with_reducible refine ob ?_)); refine cl q8m (qtb s.seed (headAt b s.pos) q2 (by omega)) ?_
  try (refine ev5 @qib @e1 @e2 @e4 @e5 ?_; try exact True.intro)
  have hq := qqk (be8 (fnv s.seed (headAt b s.pos))) (sumAt b s.pos)
  rw [xi] at hq
  have e4b : ((byteRows b).drop ((s.pos : Int) + 24).toNat).take 8 = byteRows (sumAt b s.pos) := by rw [e5]; exact e4
  try (refine ev5 @w1 @w2 @xi @e2 @e4b ?_; try exact True.intro)
  refine ⟨by omega, ?_⟩
  refine clO [0] F57 hq ?_
  try (refine ev ?_; try exact True.intro)
  refine xf _ (fun hd => ?_) (fun hd => ?_)
  ·have he : cErr b s = some 5 := by
    unfold cErr
    rw [if_neg (by simpa using hd)]
   have hr := hx.symm.trans (vn hil he)
   try (refine ev1 @hr ?_; try exact True.intro)
  have hd1 : be8 (fnv s.seed (headAt b s.pos)) = sumAt b s.pos := by simpa using hd
  try (refine ev ?_; try exact True.intro)
  (repeat (with_reducible refine ob ?_)); refine cl xgn (qir (headAt b s.pos) s.now.length hh (by omega)) ?_
  try (refine ev ?_; try exact True.intro)
  refine xf _ (fun hd => ?_) (fun hd => ?_)
  ·have he : cErr b s = some 4 := by
    unfold cErr
    rw [if_pos hd1, if_neg (by simpa using hd)]
   have hr := hx.symm.trans (vn hil he)
   try (refine ev1 @hr ?_; try exact True.intro)
  have hd2 : cProper (headAt b s.pos) s.now.length = true := by simpa using hd
  have he : cErr b s = none := by
   unfold cErr
   rw [if_pos hd1, if_pos hd2]
  obtain ⟨p1, p2, p3, p4, p5, p6⟩ := xz.1 hd2
  have hk0 := qgd (h := headAt b s.pos) (by omega)
  have hm0 := qiq (h := headAt b s.pos) (by omega)
  have w3 : IntKind.i64.wrap ((numB (headAt b s.pos) : Nat) : Int) = (numB (headAt b s.pos) : Nat) := qt (by unfold I64; omega)
  have w4 : IntKind.i64.wrap (2 + ((numB (headAt b s.pos) : Nat) : Int)) = ((2 + numB (headAt b s.pos) : Nat) : Int) := by rw [qt (by unfold I64; omega)]; omega
  have e6 : (2 + ((numB (headAt b s.pos) : Nat) : Int)).toNat - 2 = numB (headAt b s.pos) := by omega
  have e7 : ((byteRows (headAt b s.pos)).drop 2).take (numB (headAt b s.pos)) = byteRows (((headAt b s.pos).drop 2).take (numB (headAt b s.pos))) := by rw [qw, qp]
  have hln : (((headAt b s.pos).drop 2).take (numB (headAt b s.pos))).length ≤ 22 := by rw [List.length_take]; omega
  try (refine ev5 (ql (headAt b s.pos) (show 0 < (headAt b s.pos).length by omega)) (ql (headAt b s.pos) (show 1 < (headAt b s.pos).length by omega)) hm0.symm hk0.symm @w3 ?_; try exact True.intro)
  try (refine ev4 @w4 @e6 @e7 @qn ?_; try exact True.intro)
  refine ⟨by omega, by omega, by omega, by omega, ?_⟩
  have hcn : s.now ++ ((headAt b s.pos).drop 2).take (numB (headAt b s.pos)) = cNow b s := rfl
  rw [hcn]
  have hcl := qga he
  have hok := qgb ⟨q1, q2, q3, q4, q5, q6, q7⟩ hil he
  have hnx := (vz hil he).symm.trans hx
  refine xf _ (fun hd => ?_) (fun hd => ?_)
  ·have hk2 : kindOf (headAt b s.pos) = 2 := by simp at hd; omega
   have hn : cNext b s = ⟨s.pos + 32, fnv s.seed (headAt b s.pos), [], s.recs ++ [cNow b s], s.ends ++ [s.pos + 32]⟩ := by rw [cNext, if_pos hk2]
   try (refine ev1 @qbc ?_; try exact True.intro)
   (repeat (with_reducible refine ob ?_))
   refine ⟨⟨cNext b s, hok, hnx⟩, ?_, by dsimp only; rw [hn]; dsimp only; omega⟩
   have hes : endRows s.ends ++ [[.int .i64 ((s.pos : Int) + 32)]] = endRows (s.ends ++ [s.pos + 32]) := by simp [endRows]
   try (refine ev5 @Sread.eq_1 @hn @w1 @hes @qj ?_; try exact True.intro)
  ·have hk2 : ¬ kindOf (headAt b s.pos) = 2 := by simp at hd; omega
   have hn : cNext b s = ⟨s.pos + 32, fnv s.seed (headAt b s.pos), cNow b s, s.recs, s.ends⟩ := by rw [cNext, if_neg hk2]
   try (refine ev ?_; try exact True.intro)
   refine ⟨⟨cNext b s, hok, hnx⟩, ?_, by dsimp only; rw [hn]; dsimp only; omega⟩
   try (refine ev3 @Sread.eq_1 @hn @w1 ?_; try exact True.intro)
 ·have hxe := hx.symm.trans (kf (b := b) (s := s) (by simp at hc; omega))
  try (refine ev ?_; try exact True.intro)
  (repeat (with_reducible refine ob ?_)); refine cl xc9 (qql s.ends (by omega)) ?_
  try (refine ev ?_; try exact True.intro)
  have hu : s.ends.getLastD 0 = s.used := rfl
  refine xf _ (fun hd => ?_) (fun hd => ?_)
  ·have hr : wRead b rds0 = (s, 4) := by
    rw [hxe, if_neg]
    intro h
    rw [← hu] at h
    rw [h] at hd
    simp at hd
   try (refine ev1 @hr ?_; try exact True.intro)
  ·have hr : wRead b rds0 = (s, 0) := by
    rw [hxe, if_pos]
    rw [← hu]
    simp only [bne_eq_false_iff_eq] at hd
    omega
   try (refine ev1 @hr ?_; try exact True.intro)
theorem qnt (b : List UInt8) (hb : b.length ≤ 1000000000) : ACall Tryz.prog 111 [.d (.sl 1 (byteRows b))] [] (.tup [.d (.sl 1 (recRows (wRead b rds0).1.recs)), .d (.int .i64 ((wRead b rds0).1.used : Nat)), .d (.int .i64 (wRead b rds0).2)]) [] := by
 have hok := kv (vo b)
 have h1 := hok.ends
 have h2 := hok.pos
 refine xgp.goT ?_
 try (refine ev ?_; try exact True.intro)
 (repeat (with_reducible refine ob ?_)); refine cl xgo (qvw b hb) ?_
 try (refine ev ?_; try exact True.intro)
 (repeat (with_reducible refine ob ?_)); refine cl xc9 (qql (wRead b rds0).1.ends (by omega)) ?_
 try (refine ev1 @Rds.used.eq_1 ?_; try exact True.intro)
def wRecs (b : List UInt8) : List (List UInt8) := (wRead b rds0).1.recs
def wUsed (b : List UInt8) : Nat := (wRead b rds0).1.used
theorem qlz (b : List UInt8) : wUsed b ≤ b.length := Nat.le_trans (kv (vo b)).used (kv (vo b)).pos
theorem qis (b : List UInt8) : (wRecs b).length ≤ b.length := Nat.le_trans (kv (vo b)).recs (kv (vo b)).pos
theorem wv (b : List UInt8) : ∀ r ∈ wRecs b, r.length ≤ 2000 := (kv (vo b)).small
theorem qew (b : List UInt8) (hb : b.length ≤ 1000000000) : ACall Tryz.prog 58 [.d (.sl 1 (byteRows b))] [] (.tup [.d (.agg (encLog (b.take (wUsed b)) (wUsed b))), .d (.sl 1 (recRows (wRecs b)))]) [] := by
 have hr := qnt b hb
 have hu := qlz b
 change ACall Tryz.prog 111 [.d (.sl 1 (byteRows b))] [] (.tup [.d (.sl 1 (recRows (wRecs b))), .d (.int .i64 (wUsed b : Nat)), .d (.int .i64 (wRead b rds0).2)]) [] at hr
 refine F58.goT ?_
 try (refine ev ?_; try exact True.intro)
 (repeat (with_reducible refine ob ?_)); refine cl xgp (hr) ?_
 have e1 : ((byteRows b).drop 0).take (wUsed b - 0) = byteRows (b.take (wUsed b)) := by rw [List.drop_zero, qp, Nat.sub_zero]
 try (refine ev2 @qp @Nat.sub_zero ?_; try exact True.intro)
 (repeat (with_reducible refine ob ?_))
 (repeat (with_reducible refine ob ?_)); refine cl F63 (xo (b.take (wUsed b)) (by rw [List.length_take]; omega)) ?_
 try (refine ev1 @encLog.eq_1 ?_; try exact True.intro)
end Go.Proofs.YtinnaedmdoengaaGreat
namespace Go.Proofs.YtinnaedmdoengaaGreat
open Go.Abs
set_option linter.unusedSimpArgs false
set_option linter.unusedVariables false
noncomputable section
set_option maxRecDepth 100000
def s175r0 : List SOper := [
 ⟨some 4, .mov (.k (.d (.int .u64 0))), none⟩]
def s175r1 : List SOper := [
 ⟨some 7, .mov (.t 0), none⟩,
 ⟨some 5, .mov (.t 7), none⟩]
def s175r2 : List SOper := [
 ⟨some 6, .mov (.k (.d (.int .i64 0))), none⟩]
def s175r3 : List SOper := [
 ⟨some 8, .mov (.t 6), none⟩,
 ⟨some 9, .mov (.t 1), none⟩,
 ⟨some 10, .len (.t 9), none⟩,
 ⟨some 11, .bin .lss (.t 8) (.t 10), none⟩]
def s175r4 : List SOper := [
 ⟨some 14, .mov (.t 5), none⟩,
 ⟨some 15, .mov (.t 1), none⟩,
 ⟨some 16, .mov (.t 6), none⟩,
 ⟨some 17, .iaddr 1 (.t 15) (.t 16), none⟩,
 ⟨some 18, .load none (.t 17), none⟩,
 ⟨some 19, .conv .u64 (.t 18), none⟩,
 ⟨some 20, .bin .xor (.t 14) (.t 19), none⟩,
 ⟨some 21, .bin .mul (.t 20) (.k (.d (.int .u64 1099511628211))), none⟩,
 ⟨some 5, .mov (.t 21), none⟩]
def s175r5 : List SOper := [
 ⟨some 12, .mov (.t 6), none⟩,
 ⟨some 13, .bin .add (.t 12) (.k (.d (.int .i64 1))), none⟩,
 ⟨some 6, .mov (.t 13), none⟩]
def s175l6 : SCode := (.seq (.seq (.region s175r3 0 []) (.cond (.t 11) .skip (.exit 0))) (.seq (.block 1 (.region s175r4 0 [])) (.region s175r5 0 [])))
theorem q17 : CodeIs s175l6.eq_1 := qc s175l6.eq_1
def s175r7 : List SOper := [
 ⟨some 22, .mov (.t 5), none⟩,
 ⟨some 4, .mov (.t 22), none⟩]
def s175 : SCode := (.seq (.region s175r0 0 []) (.seq (.region s175r1 0 []) (.seq (.seq (.region s175r2 0 []) (.block 0 (.loop s175l6))) (.seq (.region s175r7 0 []) .ret))))
theorem xh7 : CodeIs s175.eq_1 := qc s175.eq_1
theorem q18 : RegIs s175r0.eq_1 := qa
theorem q19 : RegIs s175r1.eq_1 := qa
theorem q2a : RegIs s175r2.eq_1 := qa
theorem q2b : RegIs s175r3.eq_1 := qa
theorem q2c : RegIs s175r4.eq_1 := qa
theorem q2d : RegIs s175r5.eq_1 := qa
theorem q2e : RegIs s175r7.eq_1 := qa
attribute [go_sem] q18 q19 q2a q2b q2c q2d q17 q2e xh7
theorem xgq : FnIs Tryz.prog 175 Tryz.f175 [] news s175 [.tmp 4] 23 := qz follows Tryz.func175
def s176ur0 : List SOper := [
 ⟨some 2, .mov (.k (.d .nilsl)), none⟩]
def s176ur1 : List SOper := [
 ⟨some 5, .makeSlice true 1 1 [(.int .u8 0)] (.k (.d (.int .i64 8))) (.k (.d (.int .i64 8))), none⟩,
 ⟨some 3, .mov (.t 5), none⟩]
def s176ur2 : List SOper := [
 ⟨some 4, .mov (.k (.d (.int .i64 7))), none⟩]
def s176ur3 : List SOper := [
 ⟨some 6, .mov (.t 4), none⟩,
 ⟨some 7, .bin .geq (.t 6) (.k (.d (.int .i64 0))), none⟩]
def s176ur4 : List SOper := [
 ⟨some 10, .mov (.t 3), none⟩,
 ⟨some 11, .mov (.t 4), none⟩,
 ⟨some 12, .mov (.t 0), none⟩,
 ⟨some 13, .bin .rem (.t 12) (.k (.d (.int .u64 256))), none⟩,
 ⟨some 14, .conv .u8 (.t 13), none⟩,
 ⟨some 15, .iaddr 1 (.t 10) (.t 11), none⟩,
 ⟨none, .store none (.t 15) (.t 14), none⟩]
def s176ur5 : List SOper := [
 ⟨some 16, .mov (.t 0), none⟩,
 ⟨some 17, .bin .quo (.t 16) (.k (.d (.int .u64 256))), none⟩,
 ⟨some 0, .mov (.t 17), none⟩]
def s176ur6 : List SOper := [
 ⟨some 8, .mov (.t 4), none⟩,
 ⟨some 9, .bin .sub (.t 8) (.k (.d (.int .i64 1))), none⟩,
 ⟨some 4, .mov (.t 9), none⟩]
def s176ul7 : SCode := (.seq (.seq (.region s176ur3 0 []) (.cond (.t 7) .skip (.exit 0))) (.seq (.block 1 (.seq (.region s176ur4 0 []) (.region s176ur5 0 []))) (.region s176ur6 0 [])))
theorem qvx : CodeIs s176ul7.eq_1 := qc s176ul7.eq_1
def s176ur8 : List SOper := [
 ⟨some 18, .mov (.t 3), none⟩,
 ⟨some 2, .mov (.t 18), none⟩]
def s176u : SCode := (.seq (.region s176ur0 0 []) (.seq (.region s176ur1 0 []) (.seq (.seq (.pause (.region s176ur2 0 [])) (.block 0 (.loop s176ul7))) (.seq (.region s176ur8 0 []) (.pause .ret)))))
theorem xdd : CodeIs s176u.eq_1 := qc s176u.eq_1
theorem qvy : RegIs s176ur0.eq_1 := qa
theorem qvz : RegIs s176ur1.eq_1 := qa
theorem qv0 : RegIs s176ur2.eq_1 := qa
theorem qv1 : RegIs s176ur3.eq_1 := qa
theorem qv2 : RegIs s176ur4.eq_1 := qa
theorem qv3 : RegIs s176ur5.eq_1 := qa
theorem qv4 : RegIs s176ur6.eq_1 := qa
theorem qv5 : RegIs s176ur8.eq_1 := qa
attribute [go_sem] qvy qvz qv0 qv1 qv2 qv3 qv4 qvx qv5 xdd
theorem q2f : FnIs Tryz.prog 176 Tryz.f176 [5] news s176u [.tmp 2] 19 := qz follows Tryz.func176
def s177r0 : List SOper := [
 ⟨some 2, .mov (.k (.d (.bool false))), none⟩]
def s177r1 : List SOper := [
 ⟨some 5, .mov (.t 0), none⟩,
 ⟨some 6, .iaddr 1 (.t 5) (.k (.d (.int .i64 1))), none⟩,
 ⟨some 7, .load none (.t 6), none⟩,
 ⟨some 8, .conv .i64 (.t 7), none⟩,
 ⟨some 3, .mov (.t 8), none⟩]
def s177r2 : List SOper := [
 ⟨some 9, .mov (.t 0), none⟩,
 ⟨some 10, .iaddr 1 (.t 9) (.k (.d (.int .i64 0))), none⟩,
 ⟨some 11, .load none (.t 10), none⟩,
 ⟨some 12, .bin .neq (.t 11) (.k (.d (.int .u8 1))), none⟩,
 ⟨some 13, .mov (.t 12), none⟩,
 ⟨some 14, .mov (.t 0), some (13, true)⟩,
 ⟨some 15, .iaddr 1 (.t 14) (.k (.d (.int .i64 0))), some (13, true)⟩,
 ⟨some 16, .load none (.t 15), some (13, true)⟩,
 ⟨some 17, .bin .neq (.t 16) (.k (.d (.int .u8 2))), some (13, true)⟩,
 ⟨some 18, .pick (.t 13) (.t 17) (.k (.d (.bool false))), none⟩,
 ⟨some 19, .mov (.t 18), none⟩,
 ⟨some 20, .mov (.t 3), some (19, false)⟩,
 ⟨some 21, .bin .gtr (.t 20) (.k (.d (.int .i64 22))), some (19, false)⟩,
 ⟨some 22, .pick (.t 19) (.k (.d (.bool true))) (.t 21), none⟩,
 ⟨some 23, .mov (.t 22), none⟩,
 ⟨some 24, .mov (.t 0), some (23, false)⟩,
 ⟨some 25, .iaddr 1 (.t 24) (.k (.d (.int .i64 0))), some (23, false)⟩,
 ⟨some 26, .load none (.t 25), some (23, false)⟩,
 ⟨some 27, .bin .eql (.t 26) (.k (.d (.int .u8 1))), some (23, false)⟩,
 ⟨some 28, .mov (.t 27), some (23, false)⟩,
 ⟨some 29, .mov (.t 3), some (28, true)⟩,
 ⟨some 30, .bin .neq (.t 29) (.k (.d (.int .i64 22))), some (28, true)⟩,
 ⟨some 31, .pick (.t 28) (.t 30) (.k (.d (.bool false))), some (23, false)⟩,
 ⟨some 32, .pick (.t 23) (.k (.d (.bool true))) (.t 31), none⟩]
def s177r3 : List SOper := [
 ⟨some 2, .mov (.k (.d (.bool false))), none⟩]
def s177r4 : List SOper := [
 ⟨some 33, .mov (.t 3), none⟩,
 ⟨some 34, .bin .add (.k (.d (.int .i64 2))) (.t 33), none⟩,
 ⟨some 4, .mov (.t 34), none⟩]
def s177r5 : List SOper := [
 ⟨some 35, .mov (.t 4), none⟩,
 ⟨some 36, .bin .lss (.t 35) (.k (.d (.int .i64 24))), none⟩]
def s177r6 : List SOper := [
 ⟨some 39, .mov (.t 0), none⟩,
 ⟨some 40, .mov (.t 4), none⟩,
 ⟨some 41, .iaddr 1 (.t 39) (.t 40), none⟩,
 ⟨some 42, .load none (.t 41), none⟩,
 ⟨some 43, .bin .neq (.t 42) (.k (.d (.int .u8 0))), none⟩]
def s177r7 : List SOper := [
 ⟨some 2, .mov (.k (.d (.bool false))), none⟩]
def s177r8 : List SOper := [
 ⟨some 37, .mov (.t 4), none⟩,
 ⟨some 38, .bin .add (.t 37) (.k (.d (.int .i64 1))), none⟩,
 ⟨some 4, .mov (.t 38), none⟩]
def s177l9 : SCode := (.seq (.seq (.region s177r5 0 []) (.cond (.t 36) .skip (.exit 0))) (.seq (.block 1 (.seq (.region s177r6 0 []) (.cond (.t 43) (.seq (.region s177r7 0 []) .ret) .skip))) (.region s177r8 0 [])))
theorem q2g : CodeIs s177l9.eq_1 := qc s177l9.eq_1
def s177r10 : List SOper := [
 ⟨some 2, .mov (.k (.d (.bool true))), none⟩]
def s177 : SCode := (.seq (.region s177r0 0 []) (.seq (.region s177r1 0 []) (.seq (.seq (.region s177r2 0 []) (.cond (.t 32) (.seq (.region s177r3 0 []) .ret) .skip)) (.seq (.seq (.region s177r4 0 []) (.block 0 (.loop s177l9))) (.seq (.region s177r10 0 []) .ret)))))
theorem xh8 : CodeIs s177.eq_1 := qc s177.eq_1
theorem q2h : RegIs s177r0.eq_1 := qa
theorem q2i : RegIs s177r1.eq_1 := qa
theorem q2j : RegIs s177r2.eq_1 := qa
theorem q2k : RegIs s177r3.eq_1 := qa
theorem q2l : RegIs s177r4.eq_1 := qa
theorem q2m : RegIs s177r5.eq_1 := qa
theorem q2n : RegIs s177r6.eq_1 := qa
theorem q2o : RegIs s177r7.eq_1 := qa
theorem q2p : RegIs s177r8.eq_1 := qa
theorem qv6 : RegIs s177r10.eq_1 := qa
attribute [go_sem] q2h q2i q2j q2k q2l q2m q2n q2o q2p q2g qv6 xh8
theorem xgr : FnIs Tryz.prog 177 Tryz.f177 [] news s177 [.tmp 2] 44 := qz follows Tryz.func177
def s116r0 : List SOper := [
 ⟨some 2, .mov (.k (.d .nilsl)), none⟩,
 ⟨some 3, .mov (.k (.d (.int .i64 0))), none⟩,
 ⟨some 4, .mov (.k (.d (.int .i64 0))), none⟩]
def s116r1 : List SOper := [
 ⟨some 5, .mov (.k (.d .nilsl)), none⟩]
def s116r2 : List SOper := [
 ⟨some 6, .mov (.k (.d .nilsl)), none⟩]
def s116r3 : List SOper := [
 ⟨some 7, .mov (.k (.d (.int .u64 14695981039346656037))), none⟩]
def s116r4 : List SOper := [
 ⟨some 8, .mov (.k (.d (.int .i64 0))), none⟩,
 ⟨some 9, .mov (.k (.d (.int .i64 0))), none⟩]
def s116r5 : List SOper := [
 ⟨some 13, .mov (.t 8), none⟩,
 ⟨some 14, .bin .add (.t 13) (.k (.d (.int .i64 32))), none⟩,
 ⟨some 15, .mov (.t 0), none⟩,
 ⟨some 16, .len (.t 15), none⟩,
 ⟨some 17, .bin .leq (.t 14) (.t 16), none⟩]
def s116r6 : List SOper := [
 ⟨some 18, .mov (.t 0), none⟩,
 ⟨some 19, .mov (.t 8), none⟩,
 ⟨some 20, .mov (.t 8), none⟩,
 ⟨some 21, .bin .add (.t 20) (.k (.d (.int .i64 32))), none⟩,
 ⟨some 22, .slice 1 (.t 18) (some (.t 19)) (some (.t 21)) none, none⟩,
 ⟨some 10, .mov (.t 22), none⟩]
def s116r7 : List SOper := [
 ⟨some 23, .mov (.t 7), none⟩,
 ⟨some 24, .mov (.t 10), none⟩,
 ⟨some 25, .slice 1 (.t 24) none (some (.k (.d (.int .i64 24)))) none, none⟩,
 ⟨some 26, .call (.k (.d (.func (.func 175) [] []))) [(.t 23), (.t 25)], none⟩,
 ⟨some 11, .mov (.t 26), none⟩]
def s116r8 : List SOper := [
 ⟨some 27, .mov (.t 11), none⟩,
 ⟨some 28, .call (.k (.d (.func (.func 176) [] []))) [(.t 27)], none⟩,
 ⟨some 29, .b2s (.t 28), none⟩,
 ⟨some 30, .mov (.t 10), none⟩,
 ⟨some 31, .slice 1 (.t 30) (some (.k (.d (.int .i64 24)))) none none, none⟩,
 ⟨some 32, .b2s (.t 31), none⟩,
 ⟨some 33, .bin .neq (.t 29) (.t 32), none⟩]
def s116r9 : List SOper := [
 ⟨some 34, .mov (.t 5), none⟩,
 ⟨some 35, .mov (.t 9), none⟩,
 ⟨some 2, .mov (.t 34), none⟩,
 ⟨some 3, .mov (.t 35), none⟩,
 ⟨some 4, .mov (.k (.d (.int .i64 5))), none⟩]
def s116r10 : List SOper := [
 ⟨some 36, .mov (.t 10), none⟩,
 ⟨some 37, .iaddr 1 (.t 36) (.k (.d (.int .i64 1))), none⟩,
 ⟨some 38, .load none (.t 37), none⟩,
 ⟨some 39, .conv .i64 (.t 38), none⟩,
 ⟨some 12, .mov (.t 39), none⟩]
def s116r11 : List SOper := [
 ⟨some 40, .mov (.t 10), none⟩,
 ⟨some 41, .call (.k (.d (.func (.func 177) [] []))) [(.t 40)], none⟩,
 ⟨some 42, .not (.t 41), none⟩,
 ⟨some 43, .mov (.t 42), none⟩,
 ⟨some 44, .mov (.t 10), some (43, false)⟩,
 ⟨some 45, .iaddr 1 (.t 44) (.k (.d (.int .i64 0))), some (43, false)⟩,
 ⟨some 46, .load none (.t 45), some (43, false)⟩,
 ⟨some 47, .bin .eql (.t 46) (.k (.d (.int .u8 2))), some (43, false)⟩,
 ⟨some 48, .mov (.t 47), some (43, false)⟩,
 ⟨some 49, .mov (.t 12), some (48, true)⟩,
 ⟨some 50, .bin .eql (.t 49) (.k (.d (.int .i64 0))), some (48, true)⟩,
 ⟨some 51, .pick (.t 48) (.t 50) (.k (.d (.bool false))), some (43, false)⟩,
 ⟨some 52, .mov (.t 51), some (43, false)⟩,
 ⟨some 53, .mov (.t 6), some (52, true)⟩,
 ⟨some 54, .len (.t 53), some (52, true)⟩,
 ⟨some 55, .bin .gtr (.t 54) (.k (.d (.int .i64 0))), some (52, true)⟩,
 ⟨some 56, .pick (.t 52) (.t 55) (.k (.d (.bool false))), some (43, false)⟩,
 ⟨some 57, .pick (.t 43) (.k (.d (.bool true))) (.t 56), none⟩,
 ⟨some 58, .mov (.t 57), none⟩,
 ⟨some 59, .mov (.t 6), some (58, false)⟩,
 ⟨some 60, .len (.t 59), some (58, false)⟩,
 ⟨some 61, .mov (.t 12), some (58, false)⟩,
 ⟨some 62, .bin .add (.t 60) (.t 61), some (58, false)⟩,
 ⟨some 63, .bin .gtr (.t 62) (.k (.d (.int .i64 2000))), some (58, false)⟩,
 ⟨some 64, .pick (.t 58) (.k (.d (.bool true))) (.t 63), none⟩]
def s116r12 : List SOper := [
 ⟨some 65, .mov (.t 5), none⟩,
 ⟨some 66, .mov (.t 9), none⟩,
 ⟨some 2, .mov (.t 65), none⟩,
 ⟨some 3, .mov (.t 66), none⟩,
 ⟨some 4, .mov (.k (.d (.int .i64 4))), none⟩]
def s116r13 : List SOper := [
 ⟨some 67, .mov (.t 6), none⟩,
 ⟨some 68, .mov (.t 10), none⟩,
 ⟨some 69, .mov (.t 12), none⟩,
 ⟨some 70, .bin .add (.k (.d (.int .i64 2))) (.t 69), none⟩,
 ⟨some 71, .slice 1 (.t 68) (some (.k (.d (.int .i64 2)))) (some (.t 70)) none, none⟩,
 ⟨some 72, .append false 1 1 (.t 67) (.t 71), none⟩,
 ⟨some 6, .mov (.t 72), none⟩]
def s116r14 : List SOper := [
 ⟨some 73, .mov (.t 8), none⟩,
 ⟨some 74, .bin .add (.t 73) (.k (.d (.int .i64 32))), none⟩,
 ⟨some 75, .mov (.t 11), none⟩,
 ⟨some 8, .mov (.t 74), none⟩,
 ⟨some 7, .mov (.t 75), none⟩]
def s116r15 : List SOper := [
 ⟨some 76, .mov (.t 10), none⟩,
 ⟨some 77, .iaddr 1 (.t 76) (.k (.d (.int .i64 0))), none⟩,
 ⟨some 78, .load none (.t 77), none⟩,
 ⟨some 79, .bin .eql (.t 78) (.k (.d (.int .u8 2))), none⟩]
def s116r16 : List SOper := [
 ⟨some 80, .mov (.t 5), none⟩,
 ⟨some 81, .buildSlice false 1 0 [(.int .u8 0)] [], none⟩,
 ⟨some 82, .mov (.t 6), none⟩,
 ⟨some 83, .append false 1 1 (.t 81) (.t 82), none⟩,
 ⟨some 84, .buildSlice false 1 1 [.nilsl] [(0, 1, (.t 83))], none⟩,
 ⟨some 85, .append false 1 24 (.t 80) (.t 84), none⟩,
 ⟨some 86, .mov (.t 8), none⟩,
 ⟨some 5, .mov (.t 85), none⟩,
 ⟨some 6, .mov (.k (.d .nilsl)), none⟩,
 ⟨some 9, .mov (.t 86), none⟩]
def s116l17 : SCode := (.seq (.seq (.region s116r5 0 []) (.cond (.t 17) .skip (.exit 0))) (.block 1 (.seq (.region s116r6 0 []) (.seq (.region s116r7 0 []) (.seq (.seq (.region s116r8 0 [(1, 5)]) (.cond (.t 33) (.seq (.region s116r9 0 []) .ret) .skip)) (.seq (.region s116r10 0 []) (.seq (.seq (.region s116r11 0 []) (.cond (.t 64) (.seq (.region s116r12 0 []) .ret) .skip)) (.seq (.region s116r13 0 []) (.seq (.region s116r14 0 []) (.seq (.region s116r15 0 []) (.cond (.t 79) (.region s116r16 0 []) .skip)))))))))))
theorem qv7 : CodeIs s116l17.eq_1 := qc s116l17.eq_1
def s116r18 : List SOper := [
 ⟨some 87, .mov (.t 9), none⟩,
 ⟨some 88, .mov (.t 0), none⟩,
 ⟨some 89, .len (.t 88), none⟩,
 ⟨some 90, .bin .neq (.t 87) (.t 89), none⟩]
def s116r19 : List SOper := [
 ⟨some 91, .mov (.t 5), none⟩,
 ⟨some 92, .mov (.t 9), none⟩,
 ⟨some 2, .mov (.t 91), none⟩,
 ⟨some 3, .mov (.t 92), none⟩,
 ⟨some 4, .mov (.k (.d (.int .i64 4))), none⟩]
def s116r20 : List SOper := [
 ⟨some 93, .mov (.t 5), none⟩,
 ⟨some 94, .mov (.t 9), none⟩,
 ⟨some 2, .mov (.t 93), none⟩,
 ⟨some 3, .mov (.t 94), none⟩,
 ⟨some 4, .mov (.k (.d (.int .i64 0))), none⟩]
def s116 : SCode := (.seq (.region s116r0 0 []) (.seq (.region s116r1 0 []) (.seq (.region s116r2 0 []) (.seq (.region s116r3 0 []) (.seq (.region s116r4 0 []) (.seq (.block 0 (.loop s116l17)) (.seq (.seq (.region s116r18 0 []) (.cond (.t 90) (.seq (.region s116r19 0 []) .ret) .skip)) (.seq (.region s116r20 0 []) .ret))))))))
theorem xh9 : CodeIs s116.eq_1 := qc s116.eq_1
theorem q2q : RegIs s116r0.eq_1 := qa
theorem q2r : RegIs s116r1.eq_1 := qa
theorem q2s : RegIs s116r2.eq_1 := qa
theorem q2t : RegIs s116r3.eq_1 := qa
theorem q2u : RegIs s116r4.eq_1 := qa
theorem q2v : RegIs s116r5.eq_1 := qa
theorem q2w : RegIs s116r6.eq_1 := qa
theorem q2x : RegIs s116r7.eq_1 := qa
theorem q2y : RegIs s116r8.eq_1 := qa
theorem q2z : RegIs s116r9.eq_1 := qa
theorem qv8 : RegIs s116r10.eq_1 := qa
theorem qv9 : RegIs s116r11.eq_1 := qa
theorem qwa : RegIs s116r12.eq_1 := qa
theorem qwb : RegIs s116r13.eq_1 := qa
theorem qwc : RegIs s116r14.eq_1 := qa
theorem qwd : RegIs s116r15.eq_1 := qa
theorem qwe : RegIs s116r16.eq_1 := qa
theorem qwf : RegIs s116r18.eq_1 := qa
theorem qwg : RegIs s116r19.eq_1 := qa
theorem qwh : RegIs s116r20.eq_1 := qa
attribute [go_sem] q2q q2r q2s q2t q2u q2v q2w q2x q2y q2z qv8 qv9 qwa qwb qwc qwd qwe qv7 qwf qwg qwh xh9
theorem xgs : FnIs Tryz.prog 116 Tryz.f116 [] news s116 [.tmp 2, .tmp 3, .tmp 4] 95 := qz follows Tryz.func116
def s60r0 : List SOper := [
 ⟨some 2, .alloc 1 [(.d .nilsl), (.d (.int .i64 0))], none⟩,
 ⟨some 3, .mov (.k (.d .nilsl)), none⟩]
def s60r1 : List SOper := [
 ⟨some 8, .mov (.t 0), none⟩,
 ⟨some 9, .call (.k (.d (.func (.func 116) [] []))) [(.t 8)], none⟩,
 ⟨some 7, .mov (.t 9), none⟩,
 ⟨some 10, .extract 0 (.t 7), none⟩,
 ⟨some 11, .extract 1 (.t 7), none⟩,
 ⟨some 12, .extract 2 (.t 7), none⟩,
 ⟨some 4, .mov (.t 10), none⟩,
 ⟨some 5, .mov (.t 11), none⟩,
 ⟨some 6, .mov (.t 12), none⟩]
def s60r2 : List SOper := [
 ⟨some 13, .buildSlice false 1 0 [(.int .u8 0)] [], none⟩,
 ⟨some 14, .mov (.t 0), none⟩,
 ⟨some 15, .mov (.t 5), none⟩,
 ⟨some 16, .slice 1 (.t 14) none (some (.t 15)) none, none⟩,
 ⟨some 17, .append false 1 1 (.t 13) (.t 16), none⟩,
 ⟨some 18, .mov (.t 5), none⟩,
 ⟨some 19, .build [.nilsl, (.int .i64 0)] [(0, 1, (.t 17)), (1, 1, (.t 18))], none⟩,
 ⟨some 20, .mov (.t 4), none⟩,
 ⟨none, .store (some 2) (.t 2) (.t 19), none⟩,
 ⟨some 3, .mov (.t 20), none⟩]
def s60 : SCode := (.seq (.region s60r0 1 []) (.seq (.region s60r1 0 []) (.seq (.region s60r2 0 []) .ret)))
theorem e60 : CodeIs s60.eq_1 := qc s60.eq_1
theorem xde : RegIs s60r0.eq_1 := qa
theorem xdf : RegIs s60r1.eq_1 := qa
theorem xdg : RegIs s60r2.eq_1 := qa
attribute [go_sem] xde xdf xdg e60
theorem F60 : FnIs Tryz.prog 60 Tryz.f60 [] news s60 [.cell 2 (some 2), .tmp 3] 21 := qz follows Tryz.func60
end
def SrFrom (h : Nat) (s : List UInt8) (i : { i : Nat // i ≤ s.length }) : St :=
 ⟨[(1, true, .d (.sl 1 (byteRows s))), (5, true, .d (.int .u64 (fnv h (s.take i.val) : Nat))), (6, true, .d (.int .i64 (i.val : Nat)))], [], [], 1⟩
theorem qtm (h : Nat) (s : List UInt8) (hh : h < 18446744073709551616) (hl : s.length ≤ 1000000000) : ACall Tryz.prog 175 [.d (.int .u64 h), .d (.sl 1 (byteRows s))] [] (.d (.int .u64 (fnv h s : Nat))) [] := by
 refine xgq.go ?_
 try (refine ev ?_; try exact True.intro)
 refine qm (SrFrom h s) (fun i => s.length - i.val) ⟨0, Nat.zero_le _⟩ ?_ (fun i => ?_)
 ·try (refine ev4 @SrFrom.eq_1 @List.take_zero.{0} @qf3 @Int.ofNat_zero ?_; try exact True.intro)
 obtain ⟨i, hi⟩ := i
 try (refine ev1 @SrFrom.eq_1 ?_; try exact True.intro)
 (repeat (with_reducible refine ob ?_)); refine xf _ (fun h => ?_) (fun h => ?_)
 ·have hil : i < s.length := by simpa using h
  try (refine ev1 (ql s hil) ?_; try exact True.intro)
  (repeat (with_reducible refine ob ?_))
  try simp only [qf4 _ _ (qcu hh (s.take i)) (zf s[i]), go_sem, Nat.reduceAdd, Nat.reduceMul, Nat.reduceSub, Nat.reduceEqDiff, Nat.reduceLT, Nat.reduceLeDiff, Nat.reduceBEq, reduceIte, reduceCtorEq, Int.reduceAdd, Int.reduceLT, Int.reduceLE, Int.reduceGT, Int.reduceGE, Int.reduceEq, Int.reduceNe, Int.reduceBEq, Int.reduceBNe, Int.reduceToNat, Int.reduceNeg]
  refine ⟨⟨i + 1, hil⟩, ?_, by dsimp only; omega⟩
  try (refine ev4 @SrFrom.eq_1 (qk (show i < 9223372036854775807 by omega)) (List.take_succ_eq_append_getElem hil) @qbr ?_; try exact True.intro)
 ·have hie : i = s.length := by simp at h; omega
  subst hie
  try (refine ev1 @List.take_length.{0} ?_; try exact True.intro)
theorem qqm (h : Nat) : ∀ {k : Nat}, k < 8 → ((List.replicate (8 - k) 0 ++ (be8 h).drop (8 - k)).map byteD).set (7 - k) (D.int .u8 ((UInt8.ofNat (h / 256 ^ k)).toNat : Int)) = (List.replicate (8 - (k + 1)) 0 ++ (be8 h).drop (8 - (k + 1))).map byteD
 | 0, _ => rfl
 | 1, _ => rfl
 | 2, _ => rfl
 | 3, _ => rfl
 | 4, _ => rfl
 | 5, _ => rfl
 | 6, _ => rfl
 | 7, _ => rfl
def Seight (h : Nat) (k : { k : Nat // k ≤ 8 }) : St :=
 ⟨[(0, true, .d (.int .u64 (h / 256 ^ k.val : Nat))), (3, true, .d (.ref 0 0 1 8)), (4, true, .d (.int .i64 (7 - (k.val : Int))))], [.row (((List.replicate (8 - k.val) 0 ++ (be8 h).drop (8 - k.val)).map byteD).map .d)], [], 1⟩
theorem qqn (h : Nat) (hh : h < 18446744073709551616) : ACall Tryz.prog 176 [.d (.int .u64 h)] [] (.d (.sl 1 (byteRows (be8 h)))) [] := by
 refine q2f.go ?_
 try (refine ev ?_; try exact True.intro)
 refine ⟨by decide, ?_⟩
 refine qt6 (.fr 3) 32 1 (List.replicate 8 [D.int .u8 0]) ?_
 refine pu ?_
 try (refine ev ?_; try exact True.intro)
 refine qm (Seight h) (fun k => 8 - k.val) ⟨0, by simp⟩ ?_ (fun k => ?_)
 ·try (refine ev8 @Seight.eq_1 @Nat.pow_zero @Nat.div_one @Nat.sub_zero @Int.ofNat_zero @Int.sub_zero @be8.eq_1 @byteD.eq_1 ?_; try exact True.intro)
  rfl
 obtain ⟨k, hk⟩ := k
 try (refine ev1 @Seight.eq_1 ?_; try exact True.intro)
 refine xf _ (fun hc => ?_) (fun hc => ?_)
 ·have hkl : k < 8 := by simp at hc; omega
  have e1 : (7 - (k : Int)).toNat = 7 - k := by omega
  have e2 : IntKind.u8.wrap (((h / 256 ^ k : Nat) : Int).tmod 256) = ((UInt8.ofNat (h / 256 ^ k)).toNat : Int) := by
   generalize h / 256 ^ k = x
   rw [Int.tmod_eq_emod_of_nonneg (by omega), qal, UInt8.toNat_ofNat']
   omega
  have e3 : IntKind.u64.wrap (((h / 256 ^ k : Nat) : Int).tdiv 256) = ((h / 256 ^ (k + 1) : Nat) : Int) := by
   have h1 : h / 256 ^ k ≤ h := Nat.div_le_self _ _
   have h2 : h / 256 ^ (k + 1) = h / 256 ^ k / 256 := by rw [Nat.pow_succ, Nat.div_div_eq_div_mul]
   rw [h2]
   generalize h / 256 ^ k = x at h1
   rw [Int.tdiv_eq_ediv_of_nonneg (by omega), show ((x : Int) / 256) = ((x / 256 : Nat) : Int) by omega, f2 _ (by omega)]
  have e4 : IntKind.i64.wrap (7 - (k : Int) - 1) = 7 - ((k + 1 : Nat) : Int) := by rw [qt (by unfold I64; omega)]; omega
  try (refine ev6 @Nat.mul_one @e1 @e2 @e3 @ko (qqm h hkl) ?_; try exact True.intro)
  refine ⟨by omega, by simp only [List.length_replicate, List.length_drop, xi]; omega, ⟨k + 1, hkl⟩, ?_, by dsimp only; omega⟩
  try (refine ev2 @Seight.eq_1 @e4 ?_; try exact True.intro)
 ·have : k = 8 := by simp at hc; omega
  subst this
  try (refine ev ?_; try exact True.intro)
  refine qt7 0 1 (byteRows (be8 h)) ?_ (hc := ?_) (hcc := ?_) (hes := ?_) (hok := D.okWR_noPtr (xa _))
  ·refine pu ?_
   try (refine ev1 @xi ?_; try exact True.intro)
  ·try (refine ev ?_; try exact True.intro)
   rw [ja]
  ·try (refine ev ?_; try exact True.intro)
  ·intro r hr
   obtain ⟨x, _, rfl⟩ := List.mem_map.1 hr
   rfl
def pr47 (h : List UInt8) : Bool := (decide (kindOf h = 1) || decide (kindOf h = 2)) && decide (numB h ≤ 22) && !(decide (kindOf h = 1) && decide (numB h ≠ 22)) && (h.drop (2 + numB h)).all (fun c => c == 0)
theorem qgg {h : List UInt8} : pr47 h = true ↔ (kindOf h = 1 ∨ kindOf h = 2) ∧ numB h ≤ 22 ∧ (kindOf h = 1 → numB h = 22) ∧ (h.drop (2 + numB h)).all (fun c => c == 0) = true := by
 unfold pr47
 simp only [Bool.and_eq_true, Bool.or_eq_true, Bool.not_eq_true', Bool.and_eq_false_iff, decide_eq_true_eq, decide_eq_false_iff_not]
 constructor
 ·rintro ⟨⟨⟨h1, h2⟩, h3⟩, h4⟩
  exact ⟨h1, h2, by omega, h4⟩
 ·rintro ⟨h1, h2, h3, h4⟩
  exact ⟨⟨⟨h1, h2⟩, by omega⟩, h4⟩
theorem qc7 (h : List UInt8) (n : Nat) : cProper h n = true ↔ pr47 h = true ∧ (kindOf h = 2 → numB h = 0 → n = 0) ∧ n + numB h ≤ 2000 := by
 rw [xz, qgg]
 constructor
 ·rintro ⟨h1, h2, h3, h4, h5, h6⟩
  exact ⟨⟨h1, h2, h4, h6⟩, h5, h3⟩
 ·rintro ⟨⟨h1, h2, h4, h6⟩, h5, h3⟩
  exact ⟨h1, h2, h3, h4, h5, h6⟩
theorem qwi {l : List UInt8} {m k : Nat} (h : m + k < l.length) : (l.drop m)[k]'(by rw [List.length_drop]; omega) = l[m + k] := by simp
def Spr47 (c : List UInt8) (m : Nat) (p : List UInt8) (k : { k : Nat // k ≤ p.length ∧ (p.take k).all (fun c => c == 0) = true }) : St :=
 ⟨[(0, true, .d (.sl 1 (byteRows c))), (4, true, .d (.int .i64 (m + k.val : Nat)))], [], [], 1⟩
theorem qit (h t : List UInt8) (hl : h.length = 24) (ht : t.length = 8) : ACall Tryz.prog 177 [.d (.sl 1 (byteRows (h ++ t)))] [] (.d (.bool (pr47 h))) [] := by
 have h0 : 0 < h.length := by omega
 have h1 : 1 < h.length := by omega
 have hcl : (h ++ t).length = 32 := by rw [List.length_append]; omega
 have hk := qgd h0
 have hm := qiq h1
 have l0 := zf h[0]
 have l1 := zf h[1]
 have g0 : (byteRows (h ++ t)).getD 0 [] = [.int .u8 (kindOf h : Nat)] := by rw [ql (h ++ t) (by omega), List.getElem_append_left h0, hk]
 have g1 : (byteRows (h ++ t)).getD 1 [] = [.int .u8 (numB h : Nat)] := by rw [ql (h ++ t) (by omega), List.getElem_append_left h1, hm]
 rw [← hk] at l0
 rw [← hm] at l1
 refine xgr.go ?_
 try (refine ev3 @g0 @g1 (qt (n := ((numB h : Nat) : Int)) (by unfold I64; omega)) ?_; try exact True.intro)
 (repeat (with_reducible refine ob ?_))
 generalize hkk : kindOf h = k at *
 generalize hmm : numB h = m at *
 refine xf _ (fun hc => ?_) (fun hc => ?_)
 ·have hb : pr47 h = false := by
   rw [Bool.eq_false_iff]; intro hp
   obtain ⟨a1, a2, a3, a4⟩ := qgg.1 hp
   rw [hkk] at a1 a3; rw [hmm] at a2 a3
   simp only [Bool.or_eq_true, Bool.and_eq_true, decide_eq_true_eq, bne_iff_ne, beq_iff_eq] at hc; omega
  try (refine ev1 @hb ?_; try exact True.intro)
 have hc1 : (k = 1 ∨ k = 2) ∧ m ≤ 22 ∧ (k = 1 → m = 22) := by
  simp only [Bool.or_eq_false_iff, Bool.and_eq_false_iff, decide_eq_false_iff_not, bne_eq_false_iff_eq, beq_eq_false_iff_ne] at hc; omega
 have hb : pr47 h = (h.drop (2 + m)).all (fun c => c == 0) := by
  rw [Bool.eq_iff_iff, qgg, hkk, hmm]
  exact ⟨fun x => x.2.2.2, fun x => ⟨hc1.1, hc1.2.1, hc1.2.2, x⟩⟩
 have w2 : IntKind.i64.wrap (2 + (m : Int)) = ((2 + m : Nat) : Int) := by rw [qt (by unfold I64; omega)]; omega
 have hpl : (h.drop (2 + m)).length = 22 - m := by rw [List.length_drop]; omega
 try (refine ev1 @w2 ?_; try exact True.intro)
 refine qm (Spr47 (h ++ t) (2 + m) (h.drop (2 + m))) (fun k => 22 - k.val) ⟨0, Nat.zero_le _, by simp⟩ ?_ (fun k => ?_)
 ·try (refine ev3 @Spr47.eq_1 @Int.ofNat_zero @Int.add_zero ?_; try exact True.intro)
 obtain ⟨j, hj, ha⟩ := k
 try (refine ev1 @Spr47.eq_1 ?_; try exact True.intro)
 refine xf _ (fun hd => ?_) (fun hd => ?_)
 ·have hil : 2 + m + j < h.length := by simp at hd; omega
  have hjp : j < (h.drop (2 + m)).length := by omega
  have e1 : (2 + (m : Int) + (j : Int)).toNat = 2 + m + j := by omega
  have g2 : (byteRows (h ++ t)).getD (2 + m + j) [] = [.int .u8 (((h.drop (2 + m))[j]).toNat : Nat)] := by rw [ql (h ++ t) (by omega), List.getElem_append_left hil, qwi hil]
  try (refine ev2 @e1 @g2 ?_; try exact True.intro)
  refine ⟨by omega, ?_⟩
  refine xf _ (fun hz => ?_) (fun hz => ?_)
  ·have : (h.drop (2 + m)).all (fun c => c == 0) = false := by
    refine qqh hjp ?_
    rw [beq_eq_false_iff_ne]
    intro h0
    rw [h0] at hz
    simp at hz
   rw [this] at hb
   try (refine ev1 @hb ?_; try exact True.intro)
  ·have h00 : ((h.drop (2 + m))[j] == 0) = true := by
    rw [beq_iff_eq]
    apply UInt8.toNat_inj.1
    simp only [bne_eq_false_iff_eq] at hz
    show _ = 0
    omega
   try (refine ev ?_; try exact True.intro)
   refine ⟨⟨j + 1, hjp, kx ha hjp h00⟩, ?_, by dsimp only; omega⟩
   have w5 : IntKind.i64.wrap (2 + (m : Int) + (j : Int) + 1) = ((2 + m + (j + 1) : Nat) : Int) := by rw [qt (by unfold I64; omega)]; omega
   try (refine ev2 @Spr47.eq_1 @w5 ?_; try exact True.intro)
 ·have : j = (h.drop (2 + m)).length := by simp at hd; omega
  rw [this, List.take_length] at ha
  rw [ha] at hb
  try (refine ev1 @hb ?_; try exact True.intro)
def SrRead (b : List UInt8) (s : Rds) : St :=
 ⟨[(0, true, .d (.sl 1 (byteRows b))), (5, true, .own 0 1 (recRows s.recs)), (6, true, .own 1 1 (byteRows s.now)), (7, true, .d (.int .u64 (s.seed : Nat))), (8, true, .d (.int .i64 (s.pos : Nat))), (9, true, .d (.int .i64 (s.used : Nat)))], [], [0, 1], 1⟩
theorem qnu (b : List UInt8) (p : Nat) : (b.drop p).take 32 = headAt b p ++ sumAt b p := by
 rw [headAt, sumAt, ← List.drop_drop, show (32 : Nat) = 24 + 8 from rfl, List.take_add]
set_option maxRecDepth 10000 in
theorem qtn (b : List UInt8) (hb : b.length ≤ 1000000000) : ACall Tryz.prog 116 [.d (.sl 1 (byteRows b))] [] (.tup [.d (.sl 1 (recRows (wRead b rds0).1.recs)), .d (.int .i64 ((wRead b rds0).1.used : Nat)), .d (.int .i64 (wRead b rds0).2)]) [] := by
 refine xgs.goT ?_
 try (refine ev ?_; try exact True.intro)
 refine qm (fun i : { s : Rds // s.Ok b ∧ wRead b s = wRead b rds0 } => SrRead b i.val) (fun i => b.length - i.val.pos) ⟨rds0, vo b, rfl⟩ ?_ (fun i => ?_)
 ·try (refine ev7 @SrRead.eq_1 @rds0.eq_1 @basis.eq_1 @Rds.used.eq_1 @List.getLastD_nil.{0} @Int.ofNat_zero @qj ?_; try exact True.intro)
 obtain ⟨s, hs, hx⟩ := i
 obtain ⟨q1, q2, q3, q4, q5, q6, q7⟩ := hs
 have w1 : IntKind.i64.wrap ((s.pos : Int) + 32) = ((s.pos + 32 : Nat) : Int) := by rw [qt (by unfold I64; omega)]; omega
 try (refine ev2 @SrRead.eq_1 @w1 ?_; try exact True.intro)
 refine xf _ (fun hc => ?_) (fun hc => ?_)
 ·have hil : s.pos + 32 ≤ b.length := by simp at hc; omega
  have hh : (headAt b s.pos).length = 24 := by rw [headAt, List.length_take, List.length_drop]; omega
  have ht : (sumAt b s.pos).length = 8 := by rw [sumAt, List.length_take, List.length_drop]; omega
  have hht : (headAt b s.pos ++ sumAt b s.pos).length = 32 := by rw [List.length_append]; omega
  have e1 : ((s.pos : Int) + 32).toNat - s.pos = 32 := by omega
  have e3 : ((byteRows b).drop s.pos).take 32 = byteRows (headAt b s.pos ++ sumAt b s.pos) := by rw [qw, qp, qnu]
  have e4 : (byteRows (headAt b s.pos ++ sumAt b s.pos)).take 24 = byteRows (headAt b s.pos) := by rw [qp, ← hh, List.take_left]
  have e5 : ((byteRows (headAt b s.pos ++ sumAt b s.pos)).drop 24).take (32 - 24) = byteRows (sumAt b s.pos) := by
   have : (headAt b s.pos ++ sumAt b s.pos).drop 24 = sumAt b s.pos := List.drop_left' hh
   rw [qw, this, qp, List.take_of_length_le (by omega)]
  have e6 : (headAt b s.pos).length + (sumAt b s.pos).length = 32 := by omega
  try (refine ev6 @w1 @e1 @e3 @e4 @hht @Int.toNat_natCast ?_; try exact True.intro)
  refine ⟨by omega, ?_⟩
  (repeat (with_reducible refine ob ?_)); refine cl xgq (qtm s.seed (headAt b s.pos) q2 (by omega)) ?_
  try (refine ev ?_; try exact True.intro)
  (repeat (with_reducible refine ob ?_)); refine cl q2f (qqn (fnv s.seed (headAt b s.pos)) (qcu q2 _)) ?_
  try (refine ev2 @e5 @hht ?_; try exact True.intro)
  refine xf _ (fun hd => ?_) (fun hd => ?_)
  ·have he : cErr b s = some 5 := by
    unfold cErr
    rw [if_neg (by simpa using hd)]
   have hr := hx.symm.trans (vn hil he)
   try (refine ev1 @hr ?_; try exact True.intro)
  have hd1 : be8 (fnv s.seed (headAt b s.pos)) = sumAt b s.pos := by simpa using hd
  have g0 : (byteRows (headAt b s.pos ++ sumAt b s.pos)).getD 0 [] = [.int .u8 (kindOf (headAt b s.pos) : Nat)] := by rw [ql _ (by omega), List.getElem_append_left (by omega), qgd (h := headAt b s.pos) (by omega)]
  have g1 : (byteRows (headAt b s.pos ++ sumAt b s.pos)).getD 1 [] = [.int .u8 (numB (headAt b s.pos) : Nat)] := by rw [ql _ (by omega), List.getElem_append_left (by omega), qiq (h := headAt b s.pos) (by omega)]
  have hnb : numB (headAt b s.pos) < 256 := by rw [qiq (h := headAt b s.pos) (by omega)]; exact zf _
  have w3 : IntKind.i64.wrap ((numB (headAt b s.pos) : Nat) : Int) = (numB (headAt b s.pos) : Nat) := qt (by unfold I64; omega)
  try (refine ev3 @g1 @hht @w3 ?_; try exact True.intro)
  (repeat (with_reducible refine ob ?_))
  (repeat (with_reducible refine ob ?_)); refine cl xgr (qit (headAt b s.pos) (sumAt b s.pos) hh ht) ?_
  have w6 : IntKind.i64.wrap ((s.now.length : Int) + ((numB (headAt b s.pos) : Nat) : Int)) = ((s.now.length + numB (headAt b s.pos) : Nat) : Int) := by rw [qt (by unfold I64; omega)]; omega
  try (refine ev3 @g0 @hht @w6 ?_; try exact True.intro)
  refine ⟨fun h => ⟨h, fun h2 => by rw [h, h2]; rfl⟩, fun h => ⟨h, fun h2 => by rw [h, h2]; rfl⟩, fun h => by simpa using h, fun h => by rw [h]; rfl, ?_⟩
  refine xf _ (fun hd => ?_) (fun hd => ?_)
  ·have he : cErr b s = some 4 := by
    unfold cErr
    rw [if_pos hd1, if_neg]
    rw [qc7]
    rintro ⟨k1, k2, k3⟩
    rw [k1] at hd
    simp only [Bool.not_true, Bool.false_or, Bool.or_eq_true, Bool.and_eq_true, beq_iff_eq, decide_eq_true_eq] at hd
    omega
   have hr := hx.symm.trans (vn hil he)
   try (refine ev1 @hr ?_; try exact True.intro)
  simp only [Bool.or_eq_false_iff, Bool.not_eq_false', Bool.and_eq_false_iff, beq_eq_false_iff_ne, decide_eq_false_iff_not] at hd
  have hd2 : cProper (headAt b s.pos) s.now.length = true := by rw [qc7]; exact ⟨hd.1.1, by omega, by omega⟩
  have he : cErr b s = none := by
   unfold cErr
   rw [if_pos hd1, if_pos hd2]
  obtain ⟨p1, p2, p3, p4, p5, p6⟩ := xz.1 hd2
  have w4 : IntKind.i64.wrap (2 + ((numB (headAt b s.pos) : Nat) : Int)) = ((2 + numB (headAt b s.pos) : Nat) : Int) := by rw [qt (by unfold I64; omega)]; omega
  have e6 : (2 + ((numB (headAt b s.pos) : Nat) : Int)).toNat - 2 = numB (headAt b s.pos) := by omega
  have e7 : ((byteRows (headAt b s.pos ++ sumAt b s.pos)).drop 2).take (numB (headAt b s.pos)) = byteRows (((headAt b s.pos).drop 2).take (numB (headAt b s.pos))) := by
   rw [qw, qp, List.drop_append_of_le_length (by omega), List.take_append_of_le_length (by rw [List.length_drop]; omega)]
  have hln : (((headAt b s.pos).drop 2).take (numB (headAt b s.pos))).length ≤ 22 := by rw [List.length_take]; omega
  try (refine ev7 @g0 @w1 @w4 @e6 @e7 @hht @qn ?_; try exact True.intro)
  have hcn : s.now ++ ((headAt b s.pos).drop 2).take (numB (headAt b s.pos)) = cNow b s := rfl
  rw [hcn]
  have hcl := qga he
  have hok := qgb ⟨q1, q2, q3, q4, q5, q6, q7⟩ hil he
  have hnx := (vz hil he).symm.trans hx
  refine ⟨by omega, by omega, ?_⟩
  refine xf _ (fun hd => ?_) (fun hd => ?_)
  ·have hk2 : kindOf (headAt b s.pos) = 2 := by simp at hd; omega
   have hn : cNext b s = ⟨s.pos + 32, fnv s.seed (headAt b s.pos), [], s.recs ++ [cNow b s], s.ends ++ [s.pos + 32]⟩ := by rw [cNext, if_pos hk2]
   try (refine ev1 @qbc ?_; try exact True.intro)
   (repeat (with_reducible refine ob ?_))
   refine ⟨⟨cNext b s, hok, hnx⟩, ?_, by dsimp only; rw [hn]; dsimp only; omega⟩
   try (refine ev6 @SrRead.eq_1 @hn @w1 @Rds.used.eq_1 @yz @qj ?_; try exact True.intro)
  ·have hk2 : ¬ kindOf (headAt b s.pos) = 2 := by simp at hd; omega
   have hn : cNext b s = ⟨s.pos + 32, fnv s.seed (headAt b s.pos), cNow b s, s.recs, s.ends⟩ := by rw [cNext, if_neg hk2]
   try (refine ev ?_; try exact True.intro)
   refine ⟨⟨cNext b s, hok, hnx⟩, ?_, by dsimp only; rw [hn]; dsimp only; omega⟩
   try (refine ev4 @SrRead.eq_1 @hn @w1 @Rds.used.eq_1 ?_; try exact True.intro)
 ·have hxe := hx.symm.trans (kf (b := b) (s := s) (by simp at hc; omega))
  try (refine ev ?_; try exact True.intro)
  refine xf _ (fun hd => ?_) (fun hd => ?_)
  ·have hr : wRead b rds0 = (s, 4) := by
    rw [hxe, if_neg]
    intro h
    rw [h] at hd
    simp at hd
   try (refine ev1 @hr ?_; try exact True.intro)
  ·have hr : wRead b rds0 = (s, 0) := by
    rw [hxe, if_pos]
    simp only [bne_eq_false_iff_eq] at hd
    omega
   try (refine ev1 @hr ?_; try exact True.intro)
theorem ql0 (b : List UInt8) (hb : b.length ≤ 1000000000) : ACall Tryz.prog 60 [.d (.sl 1 (byteRows b))] [] (.tup [.d (.agg (encLog (b.take (wUsed b)) (wUsed b))), .d (.sl 1 (recRows (wRecs b)))]) [] := by
 have hr := qtn b hb
 have hu := qlz b
 change ACall Tryz.prog 116 [.d (.sl 1 (byteRows b))] [] (.tup [.d (.sl 1 (recRows (wRecs b))), .d (.int .i64 (wUsed b : Nat)), .d (.int .i64 (wRead b rds0).2)]) [] at hr
 refine F60.goT ?_
 try (refine ev ?_; try exact True.intro)
 (repeat (with_reducible refine ob ?_)); refine cl xgs (hr) ?_
 try (refine ev2 @qp @Nat.sub_zero ?_; try exact True.intro)
 (repeat (with_reducible refine ob ?_))
 try (refine ev1 @encLog.eq_1 ?_; try exact True.intro)
end Go.Proofs.YtinnaedmdoengaaGreat
namespace Go.Proofs.YtinnaedmdoengaaGreat
open Go.Abs
set_option linter.unusedSimpArgs false
set_option linter.unusedVariables false
noncomputable section
set_option maxRecDepth 100000
def s125r0 : List SOper := [
 ⟨some 2, .mov (.k (.d .nilsl)), none⟩]
def s125r1 : List SOper := [
 ⟨some 5, .mov (.t 0), none⟩,
 ⟨some 6, .conv .u64 (.t 5), none⟩,
 ⟨some 7, .bin .mul (.t 6) (.k (.d (.int .u64 2))), none⟩,
 ⟨some 3, .mov (.t 7), none⟩]
def s125r2 : List SOper := [
 ⟨some 8, .mov (.t 0), none⟩,
 ⟨some 9, .bin .lss (.t 8) (.k (.d (.int .i64 0))), none⟩]
def s125r3 : List SOper := [
 ⟨some 10, .mov (.t 0), none⟩,
 ⟨some 11, .bin .add (.t 10) (.k (.d (.int .i64 1))), none⟩,
 ⟨some 12, .neg (.t 11), none⟩,
 ⟨some 13, .conv .u64 (.t 12), none⟩,
 ⟨some 14, .bin .mul (.t 13) (.k (.d (.int .u64 2))), none⟩,
 ⟨some 15, .bin .add (.t 14) (.k (.d (.int .u64 1))), none⟩,
 ⟨some 3, .mov (.t 15), none⟩]
def s125r4 : List SOper := [
 ⟨some 4, .mov (.k (.d .nilsl)), none⟩]
def s125r5 : List SOper := [
 ⟨some 16, .mov (.t 3), none⟩,
 ⟨some 17, .bin .geq (.t 16) (.k (.d (.int .u64 128))), none⟩]
def s125r6 : List SOper := [
 ⟨some 18, .mov (.t 4), none⟩,
 ⟨some 19, .mov (.t 3), none⟩,
 ⟨some 20, .bin .rem (.t 19) (.k (.d (.int .u64 128))), none⟩,
 ⟨some 21, .conv .u8 (.t 20), none⟩,
 ⟨some 22, .bin .add (.t 21) (.k (.d (.int .u8 128))), none⟩,
 ⟨some 23, .buildSlice false 1 1 [(.int .u8 0)] [(0, 1, (.t 22))], none⟩,
 ⟨some 24, .append false 1 1 (.t 18) (.t 23), none⟩,
 ⟨some 4, .mov (.t 24), none⟩]
def s125r7 : List SOper := [
 ⟨some 25, .mov (.t 3), none⟩,
 ⟨some 26, .bin .quo (.t 25) (.k (.d (.int .u64 128))), none⟩,
 ⟨some 3, .mov (.t 26), none⟩]
def s125l8 : SCode := (.seq (.seq (.region s125r5 0 []) (.cond (.t 17) .skip (.exit 0))) (.block 1 (.seq (.region s125r6 0 []) (.region s125r7 0 []))))
theorem q20 : CodeIs s125l8.eq_1 := qc s125l8.eq_1
def s125r9 : List SOper := [
 ⟨some 27, .mov (.t 4), none⟩,
 ⟨some 28, .mov (.t 3), none⟩,
 ⟨some 29, .conv .u8 (.t 28), none⟩,
 ⟨some 30, .buildSlice false 1 1 [(.int .u8 0)] [(0, 1, (.t 29))], none⟩,
 ⟨some 31, .append false 1 1 (.t 27) (.t 30), none⟩,
 ⟨some 2, .mov (.t 31), none⟩]
def s125 : SCode := (.seq (.region s125r0 0 []) (.seq (.region s125r1 0 []) (.seq (.seq (.region s125r2 0 []) (.cond (.t 9) (.region s125r3 0 []) .skip)) (.seq (.region s125r4 0 []) (.seq (.block 0 (.loop s125l8)) (.seq (.region s125r9 0 []) .ret))))))
theorem xia : CodeIs s125.eq_1 := qc s125.eq_1
theorem q21 : RegIs s125r0.eq_1 := qa
theorem q22 : RegIs s125r1.eq_1 := qa
theorem q23 : RegIs s125r2.eq_1 := qa
theorem q24 : RegIs s125r3.eq_1 := qa
theorem q25 : RegIs s125r4.eq_1 := qa
theorem q26 : RegIs s125r5.eq_1 := qa
theorem q27 : RegIs s125r6.eq_1 := qa
theorem q28 : RegIs s125r7.eq_1 := qa
theorem q29 : RegIs s125r9.eq_1 := qa
attribute [go_sem] q21 q22 q23 q24 q25 q26 q27 q28 q20 q29 xia
theorem xdh : FnIs Tryz.prog 125 Tryz.f125 [] news s125 [.tmp 2] 32 := qz follows Tryz.func125
def s130r0 : List SOper := [
 ⟨some 2, .mov (.k (.d .nilsl)), none⟩]
def s130r1 : List SOper := [
 ⟨some 3, .mov (.t 0), none⟩,
 ⟨some 4, .len (.t 3), none⟩,
 ⟨some 5, .call (.k (.d (.func (.func 125) [] []))) [(.t 4)], none⟩,
 ⟨some 6, .mov (.t 0), none⟩,
 ⟨some 7, .append false 1 1 (.t 5) (.t 6), none⟩,
 ⟨some 2, .mov (.t 7), none⟩]
def s130 : SCode := (.seq (.region s130r0 0 []) (.seq (.region s130r1 0 []) .ret))
theorem xib : CodeIs s130.eq_1 := qc s130.eq_1
theorem q3a : RegIs s130r0.eq_1 := qa
theorem q3b : RegIs s130r1.eq_1 := qa
attribute [go_sem] q3a q3b xib
theorem xdi : FnIs Tryz.prog 130 Tryz.f130 [] news s130 [.tmp 2] 8 := qz follows Tryz.func130
def s128r0 : List SOper := [
 ⟨some 2, .mov (.k (.d .nilsl)), none⟩]
def s128r1 : List SOper := [
 ⟨some 3, .mov (.t 0), none⟩,
 ⟨some 4, .s2b (.t 3), none⟩,
 ⟨some 5, .call (.k (.d (.func (.func 130) [] []))) [(.t 4)], none⟩,
 ⟨some 2, .mov (.t 5), none⟩]
def s128 : SCode := (.seq (.region s128r0 0 []) (.seq (.region s128r1 0 []) .ret))
theorem xic : CodeIs s128.eq_1 := qc s128.eq_1
theorem q3c : RegIs s128r0.eq_1 := qa
theorem q3d : RegIs s128r1.eq_1 := qa
attribute [go_sem] q3c q3d xic
theorem xgt : FnIs Tryz.prog 128 Tryz.f128 [] news s128 [.tmp 2] 6 := qz follows Tryz.func128
def s129r0 : List SOper := [
 ⟨some 2, .mov (.k (.d .nilsl)), none⟩]
def s129r1 : List SOper := [
 ⟨some 3, .mov (.t 0), none⟩]
def s129r2 : List SOper := [
 ⟨some 4, .buildSlice false 1 1 [(.int .u8 0)] [(0, 1, (.k (.d (.int .u8 1))))], none⟩,
 ⟨some 2, .mov (.t 4), none⟩]
def s129r3 : List SOper := [
 ⟨some 5, .buildSlice false 1 1 [(.int .u8 0)] [(0, 1, (.k (.d (.int .u8 0))))], none⟩,
 ⟨some 2, .mov (.t 5), none⟩]
def s129 : SCode := (.seq (.region s129r0 0 []) (.seq (.seq (.region s129r1 0 []) (.cond (.t 3) (.seq (.region s129r2 0 []) .ret) .skip)) (.seq (.region s129r3 0 []) .ret)))
theorem xid : CodeIs s129.eq_1 := qc s129.eq_1
theorem q3e : RegIs s129r0.eq_1 := qa
theorem q3f : RegIs s129r1.eq_1 := qa
theorem q3g : RegIs s129r2.eq_1 := qa
theorem q3h : RegIs s129r3.eq_1 := qa
attribute [go_sem] q3e q3f q3g q3h xid
theorem xdj : FnIs Tryz.prog 129 Tryz.f129 [] news s129 [.tmp 2] 6 := qz follows Tryz.func129
def s127r0 : List SOper := [
 ⟨some 1, .box 1 (.t 0), none⟩,
 ⟨some 2, .mov (.k (.d (.bool false))), none⟩]
def s127r1 : List SOper := [
 ⟨some 3, .faddr 0 (.t 1), none⟩,
 ⟨some 4, .load none (.t 3), none⟩,
 ⟨some 5, .lenS (.t 4), none⟩,
 ⟨some 6, .bin .geq (.t 5) (.k (.d (.int .i64 1))), none⟩,
 ⟨some 7, .mov (.t 6), none⟩,
 ⟨some 8, .faddr 0 (.t 1), some (7, true)⟩,
 ⟨some 9, .load none (.t 8), some (7, true)⟩,
 ⟨some 10, .lenS (.t 9), some (7, true)⟩,
 ⟨some 11, .bin .leq (.t 10) (.k (.d (.int .i64 40))), some (7, true)⟩,
 ⟨some 12, .pick (.t 7) (.t 11) (.k (.d (.bool false))), none⟩,
 ⟨some 13, .mov (.t 12), none⟩,
 ⟨some 14, .faddr 2 (.t 1), some (13, true)⟩,
 ⟨some 15, .load none (.t 14), some (13, true)⟩,
 ⟨some 16, .len (.t 15), some (13, true)⟩,
 ⟨some 17, .bin .leq (.t 16) (.k (.d (.int .i64 900))), some (13, true)⟩,
 ⟨some 18, .pick (.t 13) (.t 17) (.k (.d (.bool false))), none⟩,
 ⟨some 19, .mov (.t 18), none⟩,
 ⟨some 20, .faddr 1 (.t 1), some (19, true)⟩,
 ⟨some 21, .load none (.t 20), some (19, true)⟩,
 ⟨some 22, .not (.t 21), some (19, true)⟩,
 ⟨some 23, .mov (.t 22), some (19, true)⟩,
 ⟨some 24, .faddr 2 (.t 1), some (23, false)⟩,
 ⟨some 25, .load none (.t 24), some (23, false)⟩,
 ⟨some 26, .len (.t 25), some (23, false)⟩,
 ⟨some 27, .bin .eql (.t 26) (.k (.d (.int .i64 0))), some (23, false)⟩,
 ⟨some 28, .pick (.t 23) (.k (.d (.bool true))) (.t 27), some (19, true)⟩,
 ⟨some 29, .pick (.t 19) (.t 28) (.k (.d (.bool false))), none⟩,
 ⟨some 2, .mov (.t 29), none⟩]
def s127 : SCode := (.seq (.region s127r0 1 []) (.seq (.region s127r1 0 []) .ret))
theorem xie : CodeIs s127.eq_1 := qc s127.eq_1
theorem q3i : RegIs s127r0.eq_1 := qa
theorem q3j : RegIs s127r1.eq_1 := qa
attribute [go_sem] q3i q3j xie
theorem xdk : FnIs Tryz.prog 127 Tryz.f127 [] news s127 [.tmp 2] 30 := qz follows Tryz.func127
def s73r0 : List SOper := [
 ⟨some 2, .mov (.k (.d .nilsl)), none⟩,
 ⟨some 3, .mov (.k (.d (.int .i64 0))), none⟩]
def s73r1 : List SOper := [
 ⟨some 6, .mov (.t 0), none⟩,
 ⟨some 7, .len (.t 6), none⟩,
 ⟨some 8, .bin .eql (.t 7) (.k (.d (.int .i64 0))), none⟩]
def s73r2 : List SOper := [
 ⟨some 2, .mov (.k (.d .nilsl)), none⟩,
 ⟨some 3, .mov (.k (.d (.int .i64 1))), none⟩]
def s73r3 : List SOper := [
 ⟨some 9, .mov (.t 0), none⟩,
 ⟨some 10, .len (.t 9), none⟩,
 ⟨some 11, .call (.k (.d (.func (.func 125) [] []))) [(.t 10)], none⟩,
 ⟨some 4, .mov (.t 11), none⟩]
def s73r4 : List SOper := [
 ⟨some 5, .mov (.k (.d (.int .i64 0))), none⟩]
def s73r5 : List SOper := [
 ⟨some 12, .mov (.t 5), none⟩,
 ⟨some 13, .mov (.t 0), none⟩,
 ⟨some 14, .len (.t 13), none⟩,
 ⟨some 15, .bin .lss (.t 12) (.t 14), none⟩]
def s73r6 : List SOper := [
 ⟨some 18, .mov (.t 0), none⟩,
 ⟨some 19, .mov (.t 5), none⟩,
 ⟨some 20, .iaddr 3 (.t 18) (.t 19), none⟩,
 ⟨some 21, .load (some 3) (.t 20), none⟩,
 ⟨some 22, .call (.k (.d (.func (.func 127) [] []))) [(.t 21)], none⟩,
 ⟨some 23, .not (.t 22), none⟩]
def s73r7 : List SOper := [
 ⟨some 2, .mov (.k (.d .nilsl)), none⟩,
 ⟨some 3, .mov (.k (.d (.int .i64 1))), none⟩]
def s73r8 : List SOper := [
 ⟨some 24, .mov (.t 4), none⟩,
 ⟨some 25, .mov (.t 0), none⟩,
 ⟨some 26, .mov (.t 5), none⟩,
 ⟨some 27, .iaddr 3 (.t 25) (.t 26), none⟩,
 ⟨some 28, .faddr 0 (.t 27), none⟩,
 ⟨some 29, .load none (.t 28), none⟩,
 ⟨some 30, .call (.k (.d (.func (.func 128) [] []))) [(.t 29)], none⟩,
 ⟨some 31, .append false 1 1 (.t 24) (.t 30), none⟩,
 ⟨some 32, .mov (.t 0), none⟩,
 ⟨some 33, .mov (.t 5), none⟩,
 ⟨some 34, .iaddr 3 (.t 32) (.t 33), none⟩,
 ⟨some 35, .faddr 1 (.t 34), none⟩,
 ⟨some 36, .load none (.t 35), none⟩,
 ⟨some 37, .call (.k (.d (.func (.func 129) [] []))) [(.t 36)], none⟩,
 ⟨some 38, .append false 1 1 (.t 31) (.t 37), none⟩,
 ⟨some 4, .mov (.t 38), none⟩]
def s73r9 : List SOper := [
 ⟨some 39, .mov (.t 4), none⟩,
 ⟨some 40, .mov (.t 0), none⟩,
 ⟨some 41, .mov (.t 5), none⟩,
 ⟨some 42, .iaddr 3 (.t 40) (.t 41), none⟩,
 ⟨some 43, .faddr 2 (.t 42), none⟩,
 ⟨some 44, .load none (.t 43), none⟩,
 ⟨some 45, .call (.k (.d (.func (.func 130) [] []))) [(.t 44)], none⟩,
 ⟨some 46, .append false 1 1 (.t 39) (.t 45), none⟩,
 ⟨some 4, .mov (.t 46), none⟩]
def s73r10 : List SOper := [
 ⟨some 16, .mov (.t 5), none⟩,
 ⟨some 17, .bin .add (.t 16) (.k (.d (.int .i64 1))), none⟩,
 ⟨some 5, .mov (.t 17), none⟩]
def s73l11 : SCode := (.seq (.seq (.region s73r5 0 []) (.cond (.t 15) .skip (.exit 0))) (.seq (.block 1 (.seq (.seq (.region s73r6 0 []) (.cond (.t 23) (.seq (.region s73r7 0 []) .ret) .skip)) (.seq (.region s73r8 0 [(6, 12)]) (.region s73r9 0 [])))) (.region s73r10 0 [])))
theorem q3k : CodeIs s73l11.eq_1 := qc s73l11.eq_1
def s73r12 : List SOper := [
 ⟨some 47, .mov (.t 0), none⟩,
 ⟨some 48, .len (.t 47), none⟩,
 ⟨some 49, .bin .gtr (.t 48) (.k (.d (.int .i64 20))), none⟩,
 ⟨some 50, .mov (.t 49), none⟩,
 ⟨some 51, .mov (.t 4), some (50, false)⟩,
 ⟨some 52, .len (.t 51), some (50, false)⟩,
 ⟨some 53, .bin .gtr (.t 52) (.k (.d (.int .i64 2000))), some (50, false)⟩,
 ⟨some 54, .pick (.t 50) (.k (.d (.bool true))) (.t 53), none⟩]
def s73r13 : List SOper := [
 ⟨some 2, .mov (.k (.d .nilsl)), none⟩,
 ⟨some 3, .mov (.k (.d (.int .i64 6))), none⟩]
def s73r14 : List SOper := [
 ⟨some 55, .mov (.t 4), none⟩,
 ⟨some 2, .mov (.t 55), none⟩,
 ⟨some 3, .mov (.k (.d (.int .i64 0))), none⟩]
def s73 : SCode := (.seq (.region s73r0 0 []) (.seq (.seq (.region s73r1 0 []) (.cond (.t 8) (.seq (.region s73r2 0 []) .ret) .skip)) (.seq (.region s73r3 0 []) (.seq (.seq (.region s73r4 0 []) (.block 0 (.loop s73l11))) (.seq (.seq (.region s73r12 0 []) (.cond (.t 54) (.seq (.region s73r13 0 []) .ret) .skip)) (.seq (.region s73r14 0 []) .ret))))))
theorem e73 : CodeIs s73.eq_1 := qc s73.eq_1
theorem xdl : RegIs s73r0.eq_1 := qa
theorem xdm : RegIs s73r1.eq_1 := qa
theorem xdn : RegIs s73r2.eq_1 := qa
theorem xdo : RegIs s73r3.eq_1 := qa
theorem xdp : RegIs s73r4.eq_1 := qa
theorem xdq : RegIs s73r5.eq_1 := qa
theorem xdr : RegIs s73r6.eq_1 := qa
theorem xds : RegIs s73r7.eq_1 := qa
theorem xdt : RegIs s73r8.eq_1 := qa
theorem xdu : RegIs s73r9.eq_1 := qa
theorem q3l : RegIs s73r10.eq_1 := qa
theorem q3m : RegIs s73r12.eq_1 := qa
theorem q3n : RegIs s73r13.eq_1 := qa
theorem q3o : RegIs s73r14.eq_1 := qa
attribute [go_sem] xdl xdm xdn xdo xdp xdq xdr xds xdt xdu q3l q3k q3m q3n q3o e73
theorem F73 : FnIs Tryz.prog 73 Tryz.f73 [] news s73 [.tmp 2, .tmp 3] 56 := qz follows Tryz.func73
end
def SrefInt (n : Int) (i : { x : List UInt8 × Nat // x.1 ++ vbytes x.2 = wInt n ∧ x.2 < 18446744073709551616 }) : St :=
 ⟨[(3, true, .d (.int .u64 (i.val.2 : Nat))), (4, true, .own 0 1 (byteRows i.val.1))], [], [0], 1⟩
theorem qiu (n : Int) (hn : I64 n) : ACall Tryz.prog 125 [.d (.int .i64 n)] [] (.own 0 1 (byteRows (wInt n))) [] := by
 have hz := qs7 hn
 obtain ⟨hn1, hn2⟩ := hn
 have hrest : ∀ Q : SExit → St → Prop, True := fun _ => trivial
 refine xdh.go ?_
 try (refine ev ?_; try exact True.intro)
 have b128 : ∀ u : Nat, u < 18446744073709551616 → IntKind.u8.wrap (IntKind.u8.wrap ((u : Int).tmod 128) + 128) = ((UInt8.ofNat (u % 128 + 128)).toNat : Int) := by
  intro u hu
  rw [Int.tmod_eq_emod_of_nonneg (by omega), qal, qal, show ((u : Int) % 128 % 256 + 128) % 256 = ((u % 128 + 128 : Nat) : Int) by omega]
  simp [UInt8.toNat_ofNat]; omega
 have q128 : ∀ u : Nat, u < 18446744073709551616 → IntKind.u64.wrap ((u : Int).tdiv 128) = ((u / 128 : Nat) : Int) := by
  intro u hu
  rw [Int.tdiv_eq_ediv_of_nonneg (by omega), show ((u : Int) / 128) = ((u / 128 : Nat) : Int) by omega, f2 _ (by omega)]
 refine xf _ (fun h => ?_) (fun h => ?_)
 ·have e : IntKind.u64.wrap (IntKind.u64.wrap (IntKind.u64.wrap (IntKind.i64.wrap (0 - IntKind.i64.wrap (n + 1))) * 2) + 1) = ((zz n : Nat) : Int) := by
   simp at h
   rw [qt (n := n + 1) (by unfold I64; omega), qt (by unfold I64; omega)]
   simp only [ws]
   unfold zz; rw [if_neg (by omega)]; omega
  try (refine ev1 @e ?_; try exact True.intro)
  refine qm (SrefInt n) (fun i => i.val.2) ⟨([], zz n), by simp [wInt], hz⟩ ?_ (fun i => ?_)
  ·try (refine ev2 @SrefInt.eq_1 @qj ?_; try exact True.intro)
  obtain ⟨⟨p, u⟩, hi, hu⟩ := i
  simp only at hi hu
  have hl : p.length ≤ 10 := by
   have h1 := congrArg List.length hi
   have h2 := zx (n := n) ⟨hn1, hn2⟩
   simp at h1; omega
  try (refine ev1 @SrefInt.eq_1 ?_; try exact True.intro)
  refine xf _ (fun hc => ?_) (fun hc => ?_)
  ·have hc2 : ¬ u < 128 := by simp at hc; omega
   try (refine ev4 (b128 u hu) (q128 u hu) @za @qn ?_; try exact True.intro)
   (repeat (with_reducible refine ob ?_))
   refine ⟨⟨(p ++ [UInt8.ofNat (u % 128 + 128)], u / 128), ?_, by omega⟩, ?_, by simp only; omega⟩
   ·simp only at hi ⊢; rw [jp hc2] at hi; rw [← hi]; simp
   ·try (refine ev1 @SrefInt.eq_1 ?_; try exact True.intro)
  ·have hc2 : u < 128 := by simp at hc; omega
   try (refine ev3 @qf2 @za @qn ?_; try exact True.intro)
   (repeat (with_reducible refine ob ?_))
   simp only [jq hc2] at hi
   try (refine ev1 @hi ?_; try exact True.intro)
 ·have e : IntKind.u64.wrap (IntKind.u64.wrap n * 2) = ((zz n : Nat) : Int) := by
   simp at h
   simp only [ws]
   unfold zz; rw [if_pos (by omega)]; omega
  try (refine ev1 @e ?_; try exact True.intro)
  refine qm (SrefInt n) (fun i => i.val.2) ⟨([], zz n), by simp [wInt], hz⟩ ?_ (fun i => ?_)
  ·try (refine ev2 @SrefInt.eq_1 @qj ?_; try exact True.intro)
  obtain ⟨⟨p, u⟩, hi, hu⟩ := i
  simp only at hi hu
  have hl : p.length ≤ 10 := by
   have h1 := congrArg List.length hi
   have h2 := zx (n := n) ⟨hn1, hn2⟩
   simp at h1; omega
  try (refine ev1 @SrefInt.eq_1 ?_; try exact True.intro)
  refine xf _ (fun hc => ?_) (fun hc => ?_)
  ·have hc2 : ¬ u < 128 := by simp at hc; omega
   try (refine ev4 (b128 u hu) (q128 u hu) @za @qn ?_; try exact True.intro)
   (repeat (with_reducible refine ob ?_))
   refine ⟨⟨(p ++ [UInt8.ofNat (u % 128 + 128)], u / 128), ?_, by omega⟩, ?_, by simp only; omega⟩
   ·simp only at hi ⊢; rw [jp hc2] at hi; rw [← hi]; simp
   ·try (refine ev1 @SrefInt.eq_1 ?_; try exact True.intro)
  ·have hc2 : u < 128 := by simp at hc; omega
   try (refine ev3 @qf2 @za @qn ?_; try exact True.intro)
   (repeat (with_reducible refine ob ?_))
   simp only [jq hc2] at hi
   try (refine ev1 @hi ?_; try exact True.intro)
theorem qc8 (s : List UInt8) (hs : s.length ≤ 100000000) : ACall Tryz.prog 130 [.d (.sl 1 (byteRows s))] [] (.own 0 1 (byteRows (wText s))) [] := by
 have hw := zx (xh (n := s.length) (by omega))
 refine xdi.go ?_
 try (refine ev ?_; try exact True.intro)
 refine clA xdh (qiu s.length (xh (by omega))) ?_
 try (refine ev2 @qn @wText.eq_1 ?_; try exact True.intro)
 omega
theorem qnv (s : List UInt8) (hs : s.length ≤ 100000000) : ACall Tryz.prog 128 [.d (.str s)] [] (.own 0 1 (byteRows (wText s))) [] := by
 refine xgt.go ?_
 try (refine ev ?_; try exact True.intro)
 refine clA xdi (qc8 s hs) ?_
 try (refine ev ?_; try exact True.intro)
theorem qex (v : Bool) : ACall Tryz.prog 129 [.d (.bool v)] [] (.full 1 (byteRows [if v then 1 else 0])) [] := by
 refine xdj.go ?_
 try (refine ev ?_; try exact True.intro)
 have e1 : [[D.int .u8 1]] = byteRows [1] := rfl
 have e0 : [[D.int .u8 0]] = byteRows [0] := rfl
 cases v with
 | true =>
  (repeat (with_reducible refine ob ?_)); refine wx ?_
  try (refine ev1 @e1 ?_; try exact True.intro)
 | false =>
  (repeat (with_reducible refine ob ?_)); refine no_ ?_
  try (refine ev1 @e0 ?_; try exact True.intro)
def rProper (o : OpS) : Bool := decide ((o.key.length : Int) ≥ 1) && decide ((o.key.length : Int) ≤ 40) && decide ((o.val.length : Int) ≤ 900) && (!o.del || (o.val.length : Int) == 0)
theorem qnw (o : OpS) : rProper o = sProper o := by
 unfold rProper sProper
 congr 1
 cases o.del
 ·rfl
 ·rw [Bool.eq_iff_iff]; simp
theorem qnx (o : OpS) : ACall Tryz.prog 127 [.d (.agg (encOp o))] [] (.d (.bool (sProper o))) [] := by
 rw [← qnw]
 refine xdk.go ?_
 try (refine ev2 @encOp.eq_1 @rProper.eq_1 ?_; try exact True.intro)
 intro h
 exact ⟨h, fun h2 => by rw [h]; simpa using h2⟩
def SrEnc (l : List OpS) (i : { i : Nat // i ≤ l.length ∧ ∀ o ∈ l.take i, sProper o = true }) : St :=
 ⟨[(0, true, .d (.sl 3 (l.map encOp))), (4, true, .own 0 1 (byteRows (wInt l.length ++ (l.take i.val).flatMap wOp))), (5, true, .d (.int .i64 (i.val : Nat)))], [], [0], 1⟩
set_option maxRecDepth 10000 in
theorem qbd (l : List OpS) (hl : l.length ≤ 100000) : ACall Tryz.prog 73 [.d (.sl 3 (l.map encOp))] [] (.tup [.d (.sl 1 (byteRows (sEncode l).1)), .d (.int .i64 (sEncode l).2)]) [] := by
 refine F73.goT ?_
 try (refine ev ?_; try exact True.intro)
 (repeat (with_reducible refine ob ?_)); refine xf _ (fun h => ?_) (fun h => ?_)
 ·have hb : sEncode l = ([], 1) := by
   unfold sEncode
   rw [if_pos]
   simp at h ⊢
   exact .inl h
  try (refine ev2 @hb @qj ?_; try exact True.intro)
 have hw := zx (xh (n := l.length) (by omega))
 try (refine ev ?_; try exact True.intro)
 refine clA xdh (qiu l.length (xh (by omega))) ?_
 try (refine ev ?_; try exact True.intro)
 refine qm (SrEnc l) (fun i => l.length - i.val) ⟨0, Nat.zero_le _, by simp⟩ ?_ (fun i => ?_)
 ·try (refine ev4 @SrEnc.eq_1 @List.take_zero.{0} @List.flatMap_nil.{0,0} @List.append_nil.{0} ?_; try exact True.intro)
 obtain ⟨i, hi, hp⟩ := i
 try (refine ev1 @SrEnc.eq_1 ?_; try exact True.intro)
 refine xf _ (fun hc => ?_) (fun hc => ?_)
 ·have hil : i < l.length := by simpa using hc
  have hwl := qbq hp
  have hwt : (l.take i).length ≤ i := by rw [List.length_take]; omega
  try (refine ev2 (qq encOp l hil) @encOp.eq_1 ?_; try exact True.intro)
  (repeat (with_reducible refine ob ?_))
  have hpo := qnx l[i]
  simp only [encOp] at hpo
  (repeat (with_reducible refine ob ?_)); first | refine cl xdk (hpo) ?_ | refine clF xdk (hpo) (fun _ => by simp only [encOp, encEn, encStep, go_sem, Nat.reduceAdd, Nat.reduceMul, Nat.reduceSub, Nat.reduceEqDiff, Nat.reduceLT, Nat.reduceLeDiff, Nat.reduceBEq, reduceIte, reduceCtorEq, Int.reduceAdd, Int.reduceLT, Int.reduceLE, Int.reduceGT, Int.reduceGE, Int.reduceEq, Int.reduceNe, Int.reduceBEq, Int.reduceBNe, Int.reduceToNat, Int.reduceNeg]) ?_
  try (refine ev ?_; try exact True.intro)
  refine xf _ (fun hc => ?_) (fun hc => ?_)
  ·have hb : sEncode l = ([], 1) := by
    unfold sEncode
    rw [if_pos]
    simp only [Bool.or_eq_true, List.any_eq_true]
    exact .inr ⟨l[i], List.getElem_mem hil, hc⟩
   try (refine ev2 @hb @qj ?_; try exact True.intro)
  have hpi : sProper l[i] = true := by simpa using hc
  obtain ⟨q1, q2, q3, _⟩ := xl.1 hpi
  try (refine ev2 (qq encOp l hil) @encOp.eq_1 ?_; try exact True.intro)
  (repeat (with_reducible refine ob ?_))
  have hw2 := qpu hpi
  have hk := vl l[i].key (by omega)
  have hv := vl l[i].val (by omega)
  refine clA xgt (qnv l[i].key (by omega)) ?_
  try (refine ev1 @qn ?_; try exact True.intro)
  (repeat (with_reducible refine ob ?_))
  try (refine ev2 (qq encOp l hil) @encOp.eq_1 ?_; try exact True.intro)
  (repeat (with_reducible refine ob ?_))
  (repeat (with_reducible refine ob ?_)); first | refine cl xdj (qex l[i].del) ?_ | refine clF xdj (qex l[i].del) (fun _ => by simp only [encOp, encEn, encStep, go_sem, Nat.reduceAdd, Nat.reduceMul, Nat.reduceSub, Nat.reduceEqDiff, Nat.reduceLT, Nat.reduceLeDiff, Nat.reduceBEq, reduceIte, reduceCtorEq, Int.reduceAdd, Int.reduceLT, Int.reduceLE, Int.reduceGT, Int.reduceGE, Int.reduceEq, Int.reduceNe, Int.reduceBEq, Int.reduceBNe, Int.reduceToNat, Int.reduceNeg]) ?_
  try (refine ev1 @qn ?_; try exact True.intro)
  (repeat (with_reducible refine ob ?_))
  try (refine ev2 (qq encOp l hil) @encOp.eq_1 ?_; try exact True.intro)
  (repeat (with_reducible refine ob ?_))
  refine clA xdi (qc8 l[i].val (by omega)) ?_
  try (refine ev1 @qn ?_; try exact True.intro)
  (repeat (with_reducible refine ob ?_))
  have h1 : wInt l.length ++ (l.take (i + 1)).flatMap wOp = wInt l.length ++ List.flatMap wOp (List.take i l) ++ wText l[i].key ++ [if l[i].del = true then 1 else 0] ++ wText l[i].val := by
   rw [qh7 wOp l hil]; simp [wOp]
  refine ⟨⟨i + 1, hil, fun o ho => ?_⟩, ?_, by dsimp only; omega⟩
  ·rw [List.take_succ_eq_append_getElem hil] at ho
   rcases List.mem_append.1 ho with ho | ho
   ·exact hp o ho
   ·simp at ho; subst ho; exact hpi
  try (refine ev3 @SrEnc.eq_1 @h1 (qk (show i < 9223372036854775807 by omega)) ?_; try exact True.intro)
 ·have hil : i = l.length := by simp at hc; omega
  subst hil
  rw [List.take_length] at hp
  have hwl := qbq hp
  have hne : ¬ (decide (l.length = 0) || l.any (fun o => !sProper o)) = true := by
   simp only [Bool.or_eq_true, decide_eq_true_eq, not_or, List.any_eq_true, not_exists, not_and]
   exact ⟨by simp at h; simpa using h, fun o ho => by simp [hp o ho]⟩
  have hx : wInt l.length ++ l.flatMap wOp = wOps l := rfl
  try (refine ev2 @List.take_length.{0} @hx ?_; try exact True.intro)
  refine ⟨fun h => by rw [h]; rfl, ?_⟩
  refine xf _ (fun hc => ?_) (fun hc => ?_)
  ·have hb : sEncode l = ([], 6) := by
    unfold sEncode
    rw [if_neg hne, if_pos]
    simp only [Bool.or_eq_true, decide_eq_true_eq] at hc ⊢
    omega
   try (refine ev2 @hb @qj ?_; try exact True.intro)
  ·have hb : sEncode l = (wOps l, 0) := by
    unfold sEncode
    rw [if_neg hne, if_neg]
    simp only [Bool.or_eq_true, Bool.or_eq_false_iff, decide_eq_true_eq, decide_eq_false_iff_not] at hc ⊢
    omega
   try (refine ev1 @hb ?_; try exact True.intro)
end Go.Proofs.YtinnaedmdoengaaGreat
namespace Go.Proofs.YtinnaedmdoengaaGreat
open Go.Abs
set_option linter.unusedSimpArgs false
set_option linter.unusedVariables false
structure Rd where
 b : List UInt8
 pos : Nat
 failed : Bool
 deriving DecidableEq, Inhabited
def rdO (r : Rd) : AObj := .row [.d (.sl 1 (byteRows r.b)), .d (.int .i64 (r.pos : Nat)), .d (.bool r.failed)]
structure Rd.Ok (r : Rd) : Prop where
 len : r.b.length ≤ 1000000000
 pos : r.pos ≤ r.b.length
def rNext (n : Nat) (r : Rd) : List UInt8 × Rd := if r.failed || decide (r.b.length - r.pos < n) then ([], { r with failed := true }) else ((r.b.drop r.pos).take n, { r with pos := r.pos + n })
noncomputable section
set_option maxRecDepth 100000
def s54r0 : List SOper := [
 ⟨some 2, .mov (.k (.d .nilptr)), none⟩]
def s54r1 : List SOper := [
 ⟨some 3, .mov (.t 0), none⟩,
 ⟨some 4, .append false 1 1 (.k (.d .nilsl)) (.t 3), none⟩,
 ⟨some 5, .build [.nilsl, (.int .i64 0), (.bool false)] [(0, 1, (.t 4))], none⟩,
 ⟨some 6, .box 1 (.t 5), none⟩,
 ⟨some 2, .mov (.t 6), none⟩]
def s54 : SCode := (.seq (.region s54r0 0 []) (.seq (.region s54r1 1 []) .ret))
theorem e54 : CodeIs s54.eq_1 := qc s54.eq_1
theorem xdv : RegIs s54r0.eq_1 := qa
theorem xdw : RegIs s54r1.eq_1 := qa
attribute [go_sem] xdv xdw e54
theorem F54 : FnIs Tryz.prog 54 Tryz.f54 [] news s54 [.tmp 2] 7 := qz follows Tryz.func54
def s152r0 : List SOper := [
 ⟨some 4, .mov (.k (.d .nilsl)), none⟩]
def s152r1 : List SOper := [
 ⟨some 5, .mov (.t 0), none⟩,
 ⟨some 6, .nilCheck (.t 5), none⟩,
 ⟨some 7, .faddr 2 (.t 6), none⟩,
 ⟨some 8, .load none (.t 7), none⟩,
 ⟨some 9, .mov (.t 8), none⟩,
 ⟨some 10, .mov (.t 1), some (9, false)⟩,
 ⟨some 11, .mov (.t 0), some (9, false)⟩,
 ⟨some 12, .nilCheck (.t 11), some (9, false)⟩,
 ⟨some 13, .faddr 0 (.t 12), some (9, false)⟩,
 ⟨some 14, .load none (.t 13), some (9, false)⟩,
 ⟨some 15, .len (.t 14), some (9, false)⟩,
 ⟨some 16, .mov (.t 0), some (9, false)⟩,
 ⟨some 17, .nilCheck (.t 16), some (9, false)⟩,
 ⟨some 18, .faddr 1 (.t 17), some (9, false)⟩,
 ⟨some 19, .load none (.t 18), some (9, false)⟩,
 ⟨some 20, .bin .sub (.t 15) (.t 19), some (9, false)⟩,
 ⟨some 21, .bin .gtr (.t 10) (.t 20), some (9, false)⟩,
 ⟨some 22, .pick (.t 9) (.k (.d (.bool true))) (.t 21), none⟩]
def s152r2 : List SOper := [
 ⟨some 23, .mov (.t 0), none⟩,
 ⟨some 24, .nilCheck (.t 23), none⟩,
 ⟨some 25, .faddr 2 (.t 24), none⟩,
 ⟨none, .store none (.t 25) (.k (.d (.bool true))), none⟩]
def s152r3 : List SOper := [
 ⟨some 4, .mov (.k (.d .nilsl)), none⟩]
def s152r4 : List SOper := [
 ⟨some 26, .mov (.t 0), none⟩,
 ⟨some 27, .nilCheck (.t 26), none⟩,
 ⟨some 28, .faddr 1 (.t 27), none⟩,
 ⟨some 29, .load none (.t 28), none⟩,
 ⟨some 30, .mov (.t 1), none⟩,
 ⟨some 31, .bin .add (.t 29) (.t 30), none⟩,
 ⟨some 32, .nilCheck (.t 26), none⟩,
 ⟨some 33, .faddr 1 (.t 32), none⟩,
 ⟨none, .store none (.t 33) (.t 31), none⟩]
def s152r5 : List SOper := [
 ⟨some 34, .mov (.t 0), none⟩,
 ⟨some 35, .nilCheck (.t 34), none⟩,
 ⟨some 36, .faddr 0 (.t 35), none⟩,
 ⟨some 37, .load none (.t 36), none⟩,
 ⟨some 38, .mov (.t 0), none⟩,
 ⟨some 39, .nilCheck (.t 38), none⟩,
 ⟨some 40, .faddr 1 (.t 39), none⟩,
 ⟨some 41, .load none (.t 40), none⟩,
 ⟨some 42, .mov (.t 1), none⟩,
 ⟨some 43, .bin .sub (.t 41) (.t 42), none⟩,
 ⟨some 44, .mov (.t 0), none⟩,
 ⟨some 45, .nilCheck (.t 44), none⟩,
 ⟨some 46, .faddr 1 (.t 45), none⟩,
 ⟨some 47, .load none (.t 46), none⟩,
 ⟨some 48, .slice 1 (.t 37) (some (.t 43)) (some (.t 47)) none, none⟩,
 ⟨some 4, .mov (.t 48), none⟩]
def s152 : SCode := (.seq (.region s152r0 0 []) (.seq (.seq (.region s152r1 0 []) (.cond (.t 22) (.seq (.region s152r2 0 []) (.seq (.region s152r3 0 []) .ret)) .skip)) (.seq (.region s152r4 0 []) (.seq (.region s152r5 0 []) .ret))))
theorem xif : CodeIs s152.eq_1 := qc s152.eq_1
theorem q3p : RegIs s152r0.eq_1 := qa
theorem q3q : RegIs s152r1.eq_1 := qa
theorem q3r : RegIs s152r2.eq_1 := qa
theorem q3s : RegIs s152r3.eq_1 := qa
theorem q3t : RegIs s152r4.eq_1 := qa
theorem q3u : RegIs s152r5.eq_1 := qa
attribute [go_sem] q3p q3q q3r q3s q3t q3u xif
theorem q8s : FnIs Tryz.prog 152 Tryz.f152 [] news s152 [.tmp 4] 49 := qz follows Tryz.func152
def s162r0 : List SOper := [
 ⟨some 2, .mov (.k (.d (.int .i64 0))), none⟩]
def s162r1 : List SOper := [
 ⟨some 3, .mov (.t 0), none⟩,
 ⟨some 4, .eqnil false .ptr (.t 3), none⟩]
def s162r2 : List SOper := [
 ⟨some 2, .mov (.k (.d (.int .i64 0))), none⟩]
def s162r3 : List SOper := [
 ⟨some 5, .mov (.t 0), none⟩,
 ⟨some 6, .nilCheck (.t 5), none⟩,
 ⟨some 7, .faddr 0 (.t 6), none⟩,
 ⟨some 8, .load none (.t 7), none⟩,
 ⟨some 9, .len (.t 8), none⟩,
 ⟨some 10, .mov (.t 0), none⟩,
 ⟨some 11, .nilCheck (.t 10), none⟩,
 ⟨some 12, .faddr 1 (.t 11), none⟩,
 ⟨some 13, .load none (.t 12), none⟩,
 ⟨some 14, .bin .sub (.t 9) (.t 13), none⟩,
 ⟨some 2, .mov (.t 14), none⟩]
def s162 : SCode := (.seq (.region s162r0 0 []) (.seq (.seq (.region s162r1 0 []) (.cond (.t 4) (.seq (.region s162r2 0 []) .ret) .skip)) (.seq (.region s162r3 0 []) .ret)))
theorem xig : CodeIs s162.eq_1 := qc s162.eq_1
theorem q3v : RegIs s162r0.eq_1 := qa
theorem q3w : RegIs s162r1.eq_1 := qa
theorem q3x : RegIs s162r2.eq_1 := qa
theorem q3y : RegIs s162r3.eq_1 := qa
attribute [go_sem] q3v q3w q3x q3y xig
theorem xgu : FnIs Tryz.prog 162 Tryz.f162 [] news s162 [.tmp 2] 15 := qz follows Tryz.func162
def s109r0 : List SOper := [
 ⟨some 2, .mov (.k (.d (.int .i64 0))), none⟩]
def s109r1 : List SOper := [
 ⟨some 4, .mov (.t 0), none⟩,
 ⟨some 5, .eqnil false .ptr (.t 4), none⟩,
 ⟨some 3, .mov (.t 5), none⟩]
def s109r2 : List SOper := [
 ⟨some 2, .mov (.k (.d (.int .i64 7))), none⟩]
def s109r3 : List SOper := [
 ⟨some 7, .mov (.t 0), none⟩,
 ⟨some 8, .nilCheck (.t 7), none⟩,
 ⟨some 9, .faddr 2 (.t 8), none⟩,
 ⟨some 10, .load none (.t 9), none⟩,
 ⟨some 11, .mov (.t 10), none⟩,
 ⟨some 12, .mov (.t 0), some (11, false)⟩,
 ⟨some 13, .call (.k (.d (.func (.func 162) [] []))) [(.t 12)], some (11, false)⟩,
 ⟨some 14, .bin .gtr (.t 13) (.k (.d (.int .i64 0))), some (11, false)⟩,
 ⟨some 15, .pick (.t 11) (.k (.d (.bool true))) (.t 14), none⟩,
 ⟨some 6, .mov (.t 15), none⟩]
def s109r4 : List SOper := [
 ⟨some 2, .mov (.k (.d (.int .i64 4))), none⟩]
def s109r5 : List SOper := [
 ⟨some 2, .mov (.k (.d (.int .i64 0))), none⟩]
def s109 : SCode := (.seq (.region s109r0 0 []) (.seq (.block 0 (.seq (.region s109r1 0 []) (.cond (.t 3) (.seq (.region s109r2 0 []) .ret) (.seq (.region s109r3 0 []) (.cond (.t 6) (.seq (.region s109r4 0 []) .ret) .skip))))) (.seq (.region s109r5 0 []) .ret)))
theorem xih : CodeIs s109.eq_1 := qc s109.eq_1
theorem q3z : RegIs s109r0.eq_1 := qa
theorem q30 : RegIs s109r1.eq_1 := qa
theorem q31 : RegIs s109r2.eq_1 := qa
theorem q32 : RegIs s109r3.eq_1 := qa
theorem q33 : RegIs s109r4.eq_1 := qa
theorem q34 : RegIs s109r5.eq_1 := qa
attribute [go_sem] q3z q30 q31 q32 q33 q34 xih
theorem xgv : FnIs Tryz.prog 109 Tryz.f109 [] news s109 [.tmp 2] 16 := qz follows Tryz.func109
end
theorem qto (b : List UInt8) (hb : b.length ≤ 1000000000) : ACall Tryz.prog 54 [.d (.sl 1 (byteRows b))] [] (.d (.ptr 0 0)) [rdO ⟨b, 0, false⟩] := by
 refine F54.go ?_
 try (refine ev ?_; try exact True.intro)
 (repeat (with_reducible refine ob ?_))
 try (refine ev2 @rdO.eq_1 @Int.ofNat_zero ?_; try exact True.intro)
theorem qgh (r : Rd) (n : Nat) (hr : r.Ok) (hn : n ≤ 1000000000) : ACall Tryz.prog 152 [.d (.ptr 0 0), .d (.int .i64 n)] [rdO r] (.d (.sl 1 (byteRows (rNext n r).1))) [rdO (rNext n r).2] := by
 have h1 := hr.len
 have h2 := hr.pos
 have e1 : IntKind.i64.wrap ((r.b.length : Int) - (r.pos : Int)) = ((r.b.length - r.pos : Nat) : Int) := by rw [qt (by unfold I64; omega)]; omega
 have e2 : IntKind.i64.wrap ((r.pos : Int) + (n : Int)) = ((r.pos + n : Nat) : Int) := by rw [qt (by unfold I64; omega)]; omega
 have e3 : IntKind.i64.wrap ((r.pos : Int) + (n : Int) - (n : Int)) = ((r.pos : Nat) : Int) := by rw [qt (by unfold I64; omega)]; omega
 have e5 : ((r.pos : Int) + (n : Int)).toNat = r.pos + n := by omega
 refine q8s.go ?_
 try (refine ev2 @rdO.eq_1 @e1 ?_; try exact True.intro)
 refine ⟨fun h => by rw [h]; rfl, ?_⟩
 have hd : (r.failed || decide ((n : Int) > ((r.b.length - r.pos : Nat) : Int))) = (r.failed || decide (r.b.length - r.pos < n)) := by
  congr 1; exact decide_eq_decide.2 (by omega)
 refine xf _ (fun h => ?_) (fun h => ?_)
 ·rw [hd] at h
  have hx : rNext n r = ([], { r with failed := true }) := by unfold rNext; rw [if_pos h]
  try (refine ev2 @hx @qj ?_; try exact True.intro)
 ·rw [hd] at h
  have hx : rNext n r = ((r.b.drop r.pos).take n, { r with pos := r.pos + n }) := by unfold rNext; rw [if_neg (by rw [h]; simp)]
  simp only [Bool.or_eq_false_iff, decide_eq_false_iff_not] at h
  have e4 : r.pos + n - r.pos = n := by omega
  try (refine ev2 @hx @e2 ?_; try exact True.intro)
  try (refine ev1 @e3 ?_; try exact True.intro)
  (repeat (with_reducible refine ob ?_))
  try (refine ev6 @qw @qp @e4 @e3 @e5 @Int.toNat_natCast ?_; try exact True.intro)
theorem vq {r : Rd} (hr : r.Ok) (n : Nat) : (rNext n r).2.Ok ∧ (rNext n r).2.b = r.b := by
 unfold rNext
 split
 ·exact ⟨⟨hr.len, hr.pos⟩, rfl⟩
 ·rename_i h
  simp only [Bool.or_eq_true, decide_eq_true_eq, not_or] at h
  have := hr.pos
  exact ⟨⟨hr.len, by simp only; omega⟩, rfl⟩
theorem qtp (r : Rd) (hr : r.Ok) : ACall Tryz.prog 162 [.d (.ptr 0 0)] [rdO r] (.d (.int .i64 (r.b.length - r.pos : Nat))) [rdO r] := by
 have h1 := hr.len
 have h2 := hr.pos
 have e1 : IntKind.i64.wrap ((r.b.length : Int) - (r.pos : Int)) = ((r.b.length - r.pos : Nat) : Int) := by rw [qt (by unfold I64; omega)]; omega
 refine xgu.go ?_
 try (refine ev1 @rdO.eq_1 ?_; try exact True.intro)
 (repeat (with_reducible refine ob ?_)); refine no_ ?_
 try (refine ev1 @e1 ?_; try exact True.intro)
def rEnd (r : Rd) : Int := if r.failed || decide (r.pos < r.b.length) then 4 else 0
theorem qwj (r : Rd) (hr : r.Ok) : ACall Tryz.prog 109 [.d (.ptr 0 0)] [rdO r] (.d (.int .i64 (rEnd r))) [rdO r] := by
 have h2 := hr.pos
 have hl := qtp r hr
 simp only [rdO] at hl
 obtain ⟨b, p, f⟩ := r
 refine xgv.go ?_
 try (refine ev1 @rdO.eq_1 ?_; try exact True.intro)
 (repeat (with_reducible refine ob ?_)); refine no_ ?_
 cases f
 ·try (refine ev ?_; try exact True.intro)
  (repeat (with_reducible refine ob ?_)); refine clO [0] xgu (hl) ?_
  try (refine ev ?_; try exact True.intro)
  refine xf _ (fun h => ?_) (fun h => ?_)
  ·have hx : rEnd ⟨b, p, false⟩ = 4 := by unfold rEnd; rw [if_pos]; simp at h ⊢; omega
   try (refine ev1 @hx ?_; try exact True.intro)
  ·have hx : rEnd ⟨b, p, false⟩ = 0 := by unfold rEnd; rw [if_neg]; simp at h ⊢; omega
   try (refine ev1 @hx ?_; try exact True.intro)
 ·try (refine ev ?_; try exact True.intro)
  refine qcl (.int .i64 0) rfl ?_
  try (refine ev1 @rEnd.eq_1 ?_; try exact True.intro)
  (repeat (with_reducible refine ob ?_)); refine wx ?_
  try (refine ev ?_; try exact True.intro)
def unz (u : Nat) : Int := if u % 2 = 0 then (u / 2 : Nat) else -((u / 2 : Nat) : Int) - 1
def rIntG : Nat → Nat → Nat → Rd → Int × Rd
 | 0, _, _, r => (0, { r with failed := true })
 | k + 1, i, u, r =>
  if (rNext 1 r).2.failed then (0, (rNext 1 r).2) else
   if ((rNext 1 r).1.headD 0).toNat < 128 then (unz ((u + ((rNext 1 r).1.headD 0).toNat % 128 * 128 ^ i) % 18446744073709551616), { (rNext 1 r).2 with failed := (((rNext 1 r).1.headD 0).toNat == 0 && decide (0 < i)) || (decide (i = 9) && decide (((rNext 1 r).1.headD 0).toNat > 1)) })
   else rIntG k (i + 1) ((u + ((rNext 1 r).1.headD 0).toNat % 128 * 128 ^ i) % 18446744073709551616) (rNext 1 r).2
def rInt (r : Rd) : Int × Rd := rIntG 10 0 0 r
noncomputable section
set_option maxRecDepth 100000
def s105r0 : List SOper := [
 ⟨some 2, .mov (.k (.d (.int .i64 0))), none⟩]
def s105r1 : List SOper := [
 ⟨some 3, .mov (.k (.d (.int .u64 0))), none⟩]
def s105r2 : List SOper := [
 ⟨some 6, .mov (.k (.d (.int .i64 0))), none⟩]
def s105r3 : List SOper := [
 ⟨some 7, .bin .lss (.t 6) (.k (.d (.int .i64 10))), none⟩]
def s105r4 : List SOper := [
 ⟨some 8, .mov (.t 6), none⟩,
 ⟨some 4, .mov (.t 8), none⟩]
def s105r5 : List SOper := [
 ⟨some 9, .mov (.t 0), none⟩,
 ⟨some 10, .call (.k (.d (.func (.func 152) [] []))) [(.t 9), (.k (.d (.int .i64 1)))], none⟩,
 ⟨some 5, .mov (.t 10), none⟩]
def s105r6 : List SOper := [
 ⟨some 11, .mov (.t 0), none⟩,
 ⟨some 12, .nilCheck (.t 11), none⟩,
 ⟨some 13, .faddr 2 (.t 12), none⟩,
 ⟨some 14, .load none (.t 13), none⟩]
def s105r7 : List SOper := [
 ⟨some 2, .mov (.k (.d (.int .i64 0))), none⟩]
def s105r8 : List SOper := [
 ⟨some 15, .mov (.t 3), none⟩,
 ⟨some 16, .mov (.t 5), none⟩,
 ⟨some 17, .iaddr 1 (.t 16) (.k (.d (.int .i64 0))), none⟩,
 ⟨some 18, .load none (.t 17), none⟩,
 ⟨some 19, .bin .and (.t 18) (.k (.d (.int .u8 127))), none⟩,
 ⟨some 20, .conv .u64 (.t 19), none⟩,
 ⟨some 21, .mov (.t 4), none⟩,
 ⟨some 22, .bin .mul (.k (.d (.int .i64 7))) (.t 21), none⟩,
 ⟨some 23, .bin .shl (.t 20) (.t 22), none⟩,
 ⟨some 24, .bin .or (.t 15) (.t 23), none⟩,
 ⟨some 3, .mov (.t 24), none⟩]
def s105r9 : List SOper := [
 ⟨some 25, .mov (.t 5), none⟩,
 ⟨some 26, .iaddr 1 (.t 25) (.k (.d (.int .i64 0))), none⟩,
 ⟨some 27, .load none (.t 26), none⟩,
 ⟨some 28, .bin .lss (.t 27) (.k (.d (.int .u8 128))), none⟩]
def s105r10 : List SOper := [
 ⟨some 29, .mov (.t 0), none⟩,
 ⟨some 30, .mov (.t 5), none⟩,
 ⟨some 31, .iaddr 1 (.t 30) (.k (.d (.int .i64 0))), none⟩,
 ⟨some 32, .load none (.t 31), none⟩,
 ⟨some 33, .bin .eql (.t 32) (.k (.d (.int .u8 0))), none⟩,
 ⟨some 34, .mov (.t 33), none⟩,
 ⟨some 35, .mov (.t 4), some (34, true)⟩,
 ⟨some 36, .bin .gtr (.t 35) (.k (.d (.int .i64 0))), some (34, true)⟩,
 ⟨some 37, .pick (.t 34) (.t 36) (.k (.d (.bool false))), none⟩,
 ⟨some 38, .mov (.t 37), none⟩,
 ⟨some 39, .mov (.t 4), some (38, false)⟩,
 ⟨some 40, .bin .eql (.t 39) (.k (.d (.int .i64 9))), some (38, false)⟩,
 ⟨some 41, .mov (.t 40), some (38, false)⟩,
 ⟨some 42, .mov (.t 5), some (41, true)⟩,
 ⟨some 43, .iaddr 1 (.t 42) (.k (.d (.int .i64 0))), some (41, true)⟩,
 ⟨some 44, .load none (.t 43), some (41, true)⟩,
 ⟨some 45, .bin .gtr (.t 44) (.k (.d (.int .u8 1))), some (41, true)⟩,
 ⟨some 46, .pick (.t 41) (.t 45) (.k (.d (.bool false))), some (38, false)⟩,
 ⟨some 47, .pick (.t 38) (.k (.d (.bool true))) (.t 46), none⟩,
 ⟨some 48, .nilCheck (.t 29), none⟩,
 ⟨some 49, .faddr 2 (.t 48), none⟩,
 ⟨none, .store none (.t 49) (.t 47), none⟩]
def s105r11 : List SOper := [
 ⟨some 50, .mov (.t 3), none⟩,
 ⟨some 51, .bin .shr (.t 50) (.k (.d (.int .u64 1))), none⟩,
 ⟨some 52, .conv .i64 (.t 51), none⟩,
 ⟨some 53, .mov (.t 3), none⟩,
 ⟨some 54, .bin .and (.t 53) (.k (.d (.int .u64 1))), none⟩,
 ⟨some 55, .conv .i64 (.t 54), none⟩,
 ⟨some 56, .neg (.t 55), none⟩,
 ⟨some 57, .bin .xor (.t 52) (.t 56), none⟩,
 ⟨some 2, .mov (.t 57), none⟩]
def s105r12 : List SOper := [
 ⟨some 58, .bin .add (.t 6) (.k (.d (.int .i64 1))), none⟩,
 ⟨some 6, .mov (.t 58), none⟩]
def s105l13 : SCode := (.seq (.region s105r3 0 []) (.seq (.cond (.t 7) .skip (.exit 0)) (.seq (.block 1 (.seq (.region s105r4 0 []) (.seq (.region s105r5 0 []) (.seq (.seq (.region s105r6 0 []) (.cond (.t 14) (.seq (.region s105r7 0 []) .ret) .skip)) (.seq (.region s105r8 0 []) (.seq (.region s105r9 0 []) (.cond (.t 28) (.seq (.region s105r10 0 []) (.seq (.region s105r11 0 []) .ret)) .skip))))))) (.region s105r12 0 []))))
theorem qwk : CodeIs s105l13.eq_1 := qc s105l13.eq_1
def s105r14 : List SOper := [
 ⟨some 59, .mov (.t 0), none⟩,
 ⟨some 60, .nilCheck (.t 59), none⟩,
 ⟨some 61, .faddr 2 (.t 60), none⟩,
 ⟨none, .store none (.t 61) (.k (.d (.bool true))), none⟩]
def s105r15 : List SOper := [
 ⟨some 2, .mov (.k (.d (.int .i64 0))), none⟩]
def s105 : SCode := (.seq (.region s105r0 0 []) (.seq (.region s105r1 0 []) (.seq (.seq (.region s105r2 0 []) (.block 0 (.loop s105l13))) (.seq (.region s105r14 0 []) (.seq (.region s105r15 0 []) .ret)))))
theorem xii : CodeIs s105.eq_1 := qc s105.eq_1
theorem q35 : RegIs s105r0.eq_1 := qa
theorem q36 : RegIs s105r1.eq_1 := qa
theorem q37 : RegIs s105r2.eq_1 := qa
theorem q38 : RegIs s105r3.eq_1 := qa
theorem q39 : RegIs s105r4.eq_1 := qa
theorem q4a : RegIs s105r5.eq_1 := qa
theorem q4b : RegIs s105r6.eq_1 := qa
theorem q4c : RegIs s105r7.eq_1 := qa
theorem q4d : RegIs s105r8.eq_1 := qa
theorem q4e : RegIs s105r9.eq_1 := qa
theorem qwl : RegIs s105r10.eq_1 := qa
theorem qwm : RegIs s105r11.eq_1 := qa
theorem qwn : RegIs s105r12.eq_1 := qa
theorem qwo : RegIs s105r14.eq_1 := qa
theorem qwp : RegIs s105r15.eq_1 := qa
attribute [go_sem] q35 q36 q37 q38 q39 q4a q4b q4c q4d q4e qwl qwm qwn qwk qwo qwp xii
theorem xdx : FnIs Tryz.prog 105 Tryz.f105 [] news s105 [.tmp 2] 62 := qz follows Tryz.func105
end
theorem qrc (s : List UInt8) (h : s ≠ []) : (byteRows s).getD 0 [] = [byteD (s.headD 0)] := by
 cases s with
 | nil => exact absurd rfl h
 | cons c s => rfl
theorem qiv {r : Rd} (h : (rNext 1 r).2.failed = false) : ∃ c, (rNext 1 r).1 = [c] := by
 unfold rNext at h ⊢
 split at h
 ·cases h
 ·rename_i hn
  rw [if_neg hn]
  simp only [Bool.or_eq_true, decide_eq_true_eq, not_or] at hn
  have : r.pos < r.b.length := by omega
  exact ⟨r.b[r.pos], by simp only; rw [List.drop_eq_getElem_cons this]; rfl⟩
theorem qqo (u d i : Nat) (hu : u < 2 ^ i) : u ||| d * 2 ^ i = u + d * 2 ^ i := by
 have := Nat.shiftLeft_add_eq_or_of_lt hu d
 rw [Nat.shiftLeft_eq] at this
 rw [Nat.or_comm, ← this, Nat.add_comm]
theorem qqp (i : Nat) : 128 ^ i = 2 ^ (7 * i) := by rw [Nat.pow_mul]
theorem qiw (n a b : Nat) (ha : a < 2 ^ n) (hb : b < 2 ^ n) : bvAnd n (a : Int) (b : Int) = ((a &&& b : Nat) : Int) := by
 unfold bvAnd
 rw [BitVec.ofInt_natCast, BitVec.ofInt_natCast, BitVec.toNat_and, BitVec.toNat_ofNat, BitVec.toNat_ofNat, Nat.mod_eq_of_lt ha, Nat.mod_eq_of_lt hb]
theorem qtq {u c i : Nat} (hi : i ≤ 9) (hu : u < 128 ^ i) (hc : c < 256) :
  IntKind.u64.wrap (bvOr 64 (u : Int) (IntKind.u64.wrap (IntKind.u64.wrap (IntKind.u8.wrap (bvAnd 8 (c : Int) 127)) * 2 ^ min (7 * i) 64))) = (((u + c % 128 * 128 ^ i) % 18446744073709551616 : Nat) : Int) := by
 have e1 : bvAnd 8 (c : Int) 127 = ((c % 128 : Nat) : Int) := by
  have := qiw 8 c 127 (by omega) (by omega)
  rw [show c &&& 127 = c % 128 from Nat.and_two_pow_sub_one_eq_mod c 7] at this
  exact this
 have e2 : min (7 * i) 64 = 7 * i := by omega
 have hcm : c % 128 < 128 := Nat.mod_lt _ (by decide)
 rw [e1, e2, qal, show ((c % 128 : Nat) : Int) % 256 = ((c % 128 : Nat) : Int) by omega, f2 _ (by omega)]
 generalize c % 128 = d at hcm
 have e3 : ((d : Nat) : Int) * 2 ^ (7 * i) = ((d * 2 ^ (7 * i) : Nat) : Int) := by simp
 rw [e3]
 have hp : 128 ^ i ≤ 128 ^ 9 := Nat.pow_le_pow_right (by decide) hi
 have hp9 : (128 : Nat) ^ 9 = 9223372036854775808 := by decide
 have e4 : IntKind.u64.wrap ((d * 2 ^ (7 * i) : Nat) : Int) = ((d * 2 ^ (7 * i) % 18446744073709551616 : Nat) : Int) := by rw [ws]; omega
 rw [e4, qlp _ _ (by omega) (Nat.mod_lt _ (by decide)), qqp]
 rw [qqp] at hu
 rcases Nat.lt_or_ge i 9 with h9 | h9
 ·have hp8 : 128 ^ i ≤ 128 ^ 8 := Nat.pow_le_pow_right (by decide) (by omega)
  have e8 : (128 : Nat) ^ 8 = 72057594037927936 := by decide
  rw [qqp] at hp8
  have hd : d * 2 ^ (7 * i) ≤ 127 * 72057594037927936 := Nat.mul_le_mul (by omega) (by omega)
  rw [Nat.mod_eq_of_lt (by omega), qqo _ _ _ hu, f2 _ (by omega), Nat.mod_eq_of_lt (by omega)]
 ·have : i = 9 := by omega
  subst this
  have e9 : (2 : Nat) ^ (7 * 9) = 9223372036854775808 := by decide
  rw [e9] at hu ⊢
  have h1 : d * 9223372036854775808 % 18446744073709551616 = d % 2 * 2 ^ 63 := by
   have : (2 : Nat) ^ 63 = 9223372036854775808 := by decide
   rw [this]; omega
  rw [h1, qqo u (d % 2) 63 (by
   have : (2 : Nat) ^ 63 = 9223372036854775808 := by decide
   omega)]
  have : (2 : Nat) ^ 63 = 9223372036854775808 := by decide
  rw [this, f2 _ (by omega)]
  congr 1
  omega
theorem qtr {u : Nat} (h : u < 18446744073709551616) :
  IntKind.i64.wrap (bvXor 64 (IntKind.i64.wrap ((u : Int).fdiv (2 ^ min 1 64))) (IntKind.i64.wrap (0 - IntKind.i64.wrap (IntKind.u64.wrap (bvAnd 64 (u : Int) 1))))) = unz u := by
 have e1 : (u : Int).fdiv (2 ^ min 1 64) = ((u / 2 : Nat) : Int) := by
  show (u : Int).fdiv 2 = _
  rw [Int.fdiv_eq_ediv_of_nonneg _ (by decide)]; omega
 have e2 : bvAnd 64 (u : Int) 1 = ((u % 2 : Nat) : Int) := by
  have := qiw 64 u 1 (by omega) (by omega)
  rw [show u &&& 1 = u % 2 from Nat.and_two_pow_sub_one_eq_mod u 1] at this
  exact this
 rw [e1, e2, f2 _ (by omega), qt (n := ((u / 2 : Nat) : Int)) (by unfold I64; omega), qt (n := ((u % 2 : Nat) : Int)) (by unfold I64; omega), qt (n := 0 - ((u % 2 : Nat) : Int)) (by unfold I64; omega)]
 unfold bvXor unz
 rcases Nat.mod_two_eq_zero_or_one u with hp | hp
 ·rw [hp, if_pos rfl]
  have : BitVec.ofInt 64 (0 - ((0 : Nat) : Int)) = 0#64 := by decide
  rw [this, BitVec.xor_zero, BitVec.ofInt_natCast, BitVec.toNat_ofNat, Nat.mod_eq_of_lt (by omega), qt (by unfold I64; omega)]
 ·rw [hp, if_neg (by decide)]
  have e3 : BitVec.ofInt 64 (0 - ((1 : Nat) : Int)) = BitVec.ofInt 64 18446744073709551615 := by decide
  rw [e3, we _ (by omega)]
  simp only [IntKind.wrap, IntKind.bits, IntKind.signed]
  simp
  omega
def SrInt (i u : Nat) (r : Rd) : St := ⟨[(0, true, .d (.ptr 0 0)), (3, true, .d (.int .u64 (u : Nat))), (6, true, .d (.int .i64 (i : Nat)))], [rdO r], [], 1⟩
set_option maxRecDepth 10000 in
theorem qqq (r : Rd) (hr : r.Ok) : ACall Tryz.prog 105 [.d (.ptr 0 0)] [rdO r] (.d (.int .i64 (rInt r).1)) [rdO (rInt r).2] := by
 refine xdx.go ?_
 try (refine ev ?_; try exact True.intro)
 refine qm (fun i : { x : Nat × Nat × Rd // x.1 ≤ 10 ∧ x.2.1 < 18446744073709551616 ∧ (x.1 ≤ 9 → x.2.1 < 128 ^ x.1) ∧ x.2.2.Ok ∧ rIntG (10 - x.1) x.1 x.2.1 x.2.2 = rInt r } => SrInt i.val.1 i.val.2.1 i.val.2.2) (fun i => 10 - i.val.1) ⟨(0, 0, r), by simp, by simp, by simp, hr, rfl⟩ ?_ (fun i => ?_)
 ·try (refine ev3 @SrInt.eq_1 @Int.ofNat_zero @rdO.eq_1 ?_; try exact True.intro)
 obtain ⟨⟨i, u, rd⟩, hi, hu, hu2, hrd, hx⟩ := i
 simp only at hi hu hu2 hrd hx
 try (refine ev2 @SrInt.eq_1 @rdO.eq_1 ?_; try exact True.intro)
 (repeat (with_reducible refine ob ?_)); refine xf _ (fun h => ?_) (fun h => ?_)
 ·have hil : i < 10 := by simp at h; omega
  have hn := qgh rd 1 hrd (by decide)
  obtain ⟨hn1, hn2⟩ := vq hrd 1
  have hk : 10 - i = (10 - (i + 1)) + 1 := by omega
  rw [hk, rIntG] at hx
  try (refine ev ?_; try exact True.intro)
  simp only [rdO] at hn
  (repeat (with_reducible refine ob ?_)); refine clO [0] q8s (hn) ?_
  try (refine ev ?_; try exact True.intro)
  cases hf : (rNext 1 rd).2.failed with
  | true =>
   rw [if_pos hf] at hx
   (repeat (with_reducible refine ob ?_)); refine wx ?_
   try (refine ev2 hx.symm @hf ?_; try exact True.intro)
  | false =>
   rw [if_neg (by rw [hf]; simp)] at hx
   obtain ⟨c, hc⟩ := qiv hf
   rw [hc] at hx ⊢
   simp only [List.headD_cons] at hx
   (repeat (with_reducible refine ob ?_)); refine no_ ?_
   have hcb : byteRows [c] = [[.int .u8 (c.toNat : Nat)]] := rfl
   have hlt := zf c
   have hi9 : i ≤ 9 := by omega
   have hu' : (u + c.toNat % 128 * 128 ^ i) % 18446744073709551616 < 18446744073709551616 := Nat.mod_lt _ (by decide)
   have hu2' : i ≤ 8 → (u + c.toNat % 128 * 128 ^ i) % 18446744073709551616 < 128 ^ (i + 1) := fun h8 => by
    have h1 := hu2 (by omega)
    have h2 : c.toNat % 128 < 128 := Nat.mod_lt _ (by decide)
    have h3 : c.toNat % 128 * 128 ^ i ≤ 127 * 128 ^ i := Nat.mul_le_mul_right _ (by omega)
    have h4 := Nat.mod_le (u + c.toNat % 128 * 128 ^ i) 18446744073709551616
    rw [Nat.pow_succ]
    omega
   have a1 : IntKind.i64.wrap (7 * (i : Int)) = ((7 * i : Nat) : Int) := by rw [qt (by unfold I64; omega)]; omega
   try (refine ev3 @hcb @a1 (qtq hi9 (hu2 hi9) hlt) ?_; try exact True.intro)
   refine ⟨by omega, ?_⟩
   generalize (u + c.toNat % 128 * 128 ^ i) % 18446744073709551616 = u' at hx hu' hu2'
   refine xf _ (fun hc => ?_) (fun hc => ?_)
   ·have h128 : c.toNat < 128 := by simp at hc; omega
    simp only [h128, if_true] at hx
    try (refine ev ?_; try exact True.intro)
    have hb : (((c.toNat : Nat) : Int) == 0 && decide ((i : Int) > 0) || ((i : Int) == 9) && decide (((c.toNat : Nat) : Int) > 1)) = (c.toNat == 0 && decide (0 < i) || decide (i = 9) && decide (c.toNat > 1)) := by
     have b1 : (((c.toNat : Nat) : Int) == 0) = (c.toNat == 0) := by rw [Bool.eq_iff_iff]; simp
     have b2 : decide ((i : Int) > 0) = decide (0 < i) := decide_eq_decide.2 (by omega)
     have b3 : ((i : Int) == 9) = decide (i = 9) := by rw [Bool.eq_iff_iff]; simp; omega
     have b4 : decide (((c.toNat : Nat) : Int) > 1) = decide (c.toNat > 1) := decide_eq_decide.2 (by omega)
     rw [b1, b2, b3, b4]
    rw [qtr hu', hb, ← hx]
    exact ⟨fun h => ⟨h, fun h2 => by rw [h, h2]; rfl⟩, fun h => by rw [h]; rfl, rfl, (by simp only [go_sem]), rfl, rfl⟩
   ·have h128 : ¬ c.toNat < 128 := by simp at hc; omega
    simp only [h128, if_false] at hx
    try (refine ev ?_; try exact True.intro)
    refine ⟨⟨(i + 1, u', (rNext 1 rd).2), hil, hu', fun h => hu2' (by omega), hn1, hx⟩, ?_, by dsimp only; omega⟩
    try (refine ev4 @SrInt.eq_1 @rdO.eq_1 @hf (qk (show i < 9223372036854775807 by omega)) ?_; try exact True.intro)
 ·have hil : i = 10 := by simp at h; omega
  subst hil
  have : rInt r = (0, { rd with failed := true }) := hx.symm
  try (refine ev2 @this @rdO.eq_1 ?_; try exact True.intro)
end Go.Proofs.YtinnaedmdoengaaGreat
namespace Go.Proofs.YtinnaedmdoengaaGreat
open Go.Abs
set_option linter.unusedSimpArgs false
set_option linter.unusedVariables false
attribute [go_sem] exists_eq' List.getD_nil
theorem qix : ∀ (k i u : Nat) {r : Rd}, r.Ok → (rIntG k i u r).2.Ok ∧ (rIntG k i u r).2.b = r.b
 | 0, i, u, r, h => ⟨⟨h.len, h.pos⟩, rfl⟩
 | k + 1, i, u, r, h => by
  have hn := vq h 1
  rw [rIntG]
  split
  ·exact hn
  ·split
   ·exact ⟨⟨hn.1.len, hn.1.pos⟩, hn.2⟩
   ·have := qix k (i + 1) ((u + ((rNext 1 r).1.headD 0).toNat % 128 * 128 ^ i) % 18446744073709551616) hn.1
    exact ⟨this.1, this.2.trans hn.2⟩
theorem qbu {r : Rd} (h : r.Ok) : (rInt r).2.Ok ∧ (rInt r).2.b = r.b := qix 10 0 0 h
def Rd.fail (r : Rd) (f : Bool) : Rd := ⟨r.b, r.pos, f⟩
theorem Rd.Ok.fail {r : Rd} (h : r.Ok) (f : Bool) : (r.fail f).Ok := ⟨h.len, h.pos⟩
def rBounded (lo hi : Int) (r : Rd) : Int × Rd := ((rInt r).1, (rInt r).2.fail ((rInt r).2.failed || decide ((rInt r).1 < lo) || decide ((rInt r).1 > hi)))
def rBytes0 (most : Int) (r : Rd) : List UInt8 × Rd := if (rBounded 0 most r).2.failed then ([], (rBounded 0 most r).2) else rNext (rBounded 0 most r).1.toNat (rBounded 0 most r).2
def rBool0 (r : Rd) : Bool × Rd :=
 let f := (rNext 1 r).2.failed || decide (((rNext 1 r).1.headD 0).toNat > 1)
 (!f && ((rNext 1 r).1.headD 0).toNat == 1, (rNext 1 r).2.fail f)
def rPart {α : Type} (z : α) (f : Rd → α × Rd) (r : Rd) : α × Rd := if r.failed then (z, r) else if (f r).2.failed then (z, ⟨(f r).2.b, r.pos, (f r).2.failed⟩) else f r
theorem zq {r : Rd} (h : r.Ok) (lo hi : Int) : (rBounded lo hi r).2.Ok ∧ (rBounded lo hi r).2.b = r.b := ⟨(qbu h).1.fail _, (qbu h).2⟩
theorem qc9 {r : Rd} {lo hi : Int} (h : (rBounded lo hi r).2.failed = false) : lo ≤ (rBounded lo hi r).1 ∧ (rBounded lo hi r).1 ≤ hi := by
 simp only [rBounded, Rd.fail, Bool.or_eq_false_iff, decide_eq_false_iff_not] at h ⊢
 omega
theorem qda {r : Rd} (h : r.Ok) (most : Int) : (rBytes0 most r).2.Ok ∧ (rBytes0 most r).2.b = r.b := by
 have h1 := zq h 0 most
 unfold rBytes0
 split
 ·exact h1
 ·have h2 := vq h1.1 (rBounded 0 most r).1.toNat
  exact ⟨h2.1, h2.2.trans h1.2⟩
theorem qqr {r : Rd} (h : r.Ok) (n : Nat) : (rNext n r).1.length ≤ 1000000000 := by
 have := h.len
 unfold rNext
 split
 ·simp
 ·simp only [List.length_take, List.length_drop]; omega
theorem qk0 {r : Rd} (h : r.Ok) (most : Int) : (rBytes0 most r).1.length ≤ 1000000000 := by
 unfold rBytes0
 split
 ·simp
 ·exact qqr (zq h 0 most).1 _
theorem qey {r : Rd} (h : r.Ok) : (rBool0 r).2.Ok ∧ (rBool0 r).2.b = r.b := ⟨(vq h 1).1.fail _, (vq h 1).2⟩
theorem y5 {α : Type} {z : α} {f : Rd → α × Rd} {r : Rd} (h : r.Ok) (hf : (f r).2.Ok ∧ (f r).2.b = r.b) : (rPart z f r).2.Ok ∧ (rPart z f r).2.b = r.b := by
 unfold rPart
 split
 ·exact ⟨h, rfl⟩
 ·split
  ·exact ⟨⟨hf.1.len, by simp only [hf.2]; exact h.pos⟩, hf.2⟩
  ·exact hf
noncomputable section
set_option maxRecDepth 100000
def s169r0 : List SOper := [
 ⟨some 6, .mov (.k (.d (.int .i64 0))), none⟩]
def s169r1 : List SOper := [
 ⟨some 8, .mov (.t 0), none⟩,
 ⟨some 9, .call (.k (.d (.func (.func 105) [] []))) [(.t 8)], none⟩,
 ⟨some 7, .mov (.t 9), none⟩]
def s169r2 : List SOper := [
 ⟨some 10, .mov (.t 0), none⟩,
 ⟨some 11, .mov (.t 0), none⟩,
 ⟨some 12, .nilCheck (.t 11), none⟩,
 ⟨some 13, .faddr 2 (.t 12), none⟩,
 ⟨some 14, .load none (.t 13), none⟩,
 ⟨some 15, .mov (.t 14), none⟩,
 ⟨some 16, .mov (.t 7), some (15, false)⟩,
 ⟨some 17, .mov (.t 1), some (15, false)⟩,
 ⟨some 18, .bin .lss (.t 16) (.t 17), some (15, false)⟩,
 ⟨some 19, .pick (.t 15) (.k (.d (.bool true))) (.t 18), none⟩,
 ⟨some 20, .mov (.t 19), none⟩,
 ⟨some 21, .mov (.t 7), some (20, false)⟩,
 ⟨some 22, .mov (.t 2), some (20, false)⟩,
 ⟨some 23, .bin .gtr (.t 21) (.t 22), some (20, false)⟩,
 ⟨some 24, .pick (.t 20) (.k (.d (.bool true))) (.t 23), none⟩,
 ⟨some 25, .nilCheck (.t 10), none⟩,
 ⟨some 26, .faddr 2 (.t 25), none⟩,
 ⟨none, .store none (.t 26) (.t 24), none⟩]
def s169r3 : List SOper := [
 ⟨some 27, .mov (.t 7), none⟩,
 ⟨some 6, .mov (.t 27), none⟩]
def s169 : SCode := (.seq (.region s169r0 0 []) (.seq (.region s169r1 0 []) (.seq (.region s169r2 0 []) (.seq (.region s169r3 0 []) .ret))))
theorem xij : CodeIs s169.eq_1 := qc s169.eq_1
theorem q4f : RegIs s169r0.eq_1 := qa
theorem q4g : RegIs s169r1.eq_1 := qa
theorem q4h : RegIs s169r2.eq_1 := qa
theorem q4i : RegIs s169r3.eq_1 := qa
attribute [go_sem] q4f q4g q4h q4i xij
theorem xdy : FnIs Tryz.prog 169 Tryz.f169 [] news s169 [.tmp 6] 28 := qz follows Tryz.func169
def s174r0 : List SOper := [
 ⟨some 4, .mov (.k (.d .nilsl)), none⟩]
def s174r1 : List SOper := [
 ⟨some 6, .mov (.t 0), none⟩,
 ⟨some 7, .mov (.t 1), none⟩,
 ⟨some 8, .call (.k (.d (.func (.func 169) [] []))) [(.t 6), (.k (.d (.int .i64 0))), (.t 7)], none⟩,
 ⟨some 5, .mov (.t 8), none⟩]
def s174r2 : List SOper := [
 ⟨some 9, .mov (.t 0), none⟩,
 ⟨some 10, .nilCheck (.t 9), none⟩,
 ⟨some 11, .faddr 2 (.t 10), none⟩,
 ⟨some 12, .load none (.t 11), none⟩]
def s174r3 : List SOper := [
 ⟨some 4, .mov (.k (.d .nilsl)), none⟩]
def s174r4 : List SOper := [
 ⟨some 13, .mov (.t 0), none⟩,
 ⟨some 14, .mov (.t 5), none⟩,
 ⟨some 15, .call (.k (.d (.func (.func 152) [] []))) [(.t 13), (.t 14)], none⟩,
 ⟨some 4, .mov (.t 15), none⟩]
def s174 : SCode := (.seq (.region s174r0 0 []) (.seq (.region s174r1 0 []) (.seq (.seq (.region s174r2 0 []) (.cond (.t 12) (.seq (.region s174r3 0 []) .ret) .skip)) (.seq (.region s174r4 0 []) .ret))))
theorem xik : CodeIs s174.eq_1 := qc s174.eq_1
theorem q4j : RegIs s174r0.eq_1 := qa
theorem q4k : RegIs s174r1.eq_1 := qa
theorem q4l : RegIs s174r2.eq_1 := qa
theorem q4m : RegIs s174r3.eq_1 := qa
theorem q4n : RegIs s174r4.eq_1 := qa
attribute [go_sem] q4j q4k q4l q4m q4n xik
theorem xgw : FnIs Tryz.prog 174 Tryz.f174 [] news s174 [.tmp 4] 16 := qz follows Tryz.func174
def s171r0 : List SOper := [
 ⟨some 2, .mov (.k (.d (.bool false))), none⟩]
def s171r1 : List SOper := [
 ⟨some 4, .mov (.t 0), none⟩,
 ⟨some 5, .call (.k (.d (.func (.func 152) [] []))) [(.t 4), (.k (.d (.int .i64 1)))], none⟩,
 ⟨some 3, .mov (.t 5), none⟩]
def s171r2 : List SOper := [
 ⟨some 6, .mov (.t 0), none⟩,
 ⟨some 7, .mov (.t 0), none⟩,
 ⟨some 8, .nilCheck (.t 7), none⟩,
 ⟨some 9, .faddr 2 (.t 8), none⟩,
 ⟨some 10, .load none (.t 9), none⟩,
 ⟨some 11, .mov (.t 10), none⟩,
 ⟨some 12, .mov (.t 3), some (11, false)⟩,
 ⟨some 13, .iaddr 1 (.t 12) (.k (.d (.int .i64 0))), some (11, false)⟩,
 ⟨some 14, .load none (.t 13), some (11, false)⟩,
 ⟨some 15, .bin .gtr (.t 14) (.k (.d (.int .u8 1))), some (11, false)⟩,
 ⟨some 16, .pick (.t 11) (.k (.d (.bool true))) (.t 15), none⟩,
 ⟨some 17, .nilCheck (.t 6), none⟩,
 ⟨some 18, .faddr 2 (.t 17), none⟩,
 ⟨none, .store none (.t 18) (.t 16), none⟩]
def s171r3 : List SOper := [
 ⟨some 19, .mov (.t 0), none⟩,
 ⟨some 20, .nilCheck (.t 19), none⟩,
 ⟨some 21, .faddr 2 (.t 20), none⟩,
 ⟨some 22, .load none (.t 21), none⟩,
 ⟨some 23, .not (.t 22), none⟩,
 ⟨some 24, .mov (.t 23), none⟩,
 ⟨some 25, .mov (.t 3), some (24, true)⟩,
 ⟨some 26, .iaddr 1 (.t 25) (.k (.d (.int .i64 0))), some (24, true)⟩,
 ⟨some 27, .load none (.t 26), some (24, true)⟩,
 ⟨some 28, .bin .eql (.t 27) (.k (.d (.int .u8 1))), some (24, true)⟩,
 ⟨some 29, .pick (.t 24) (.t 28) (.k (.d (.bool false))), none⟩,
 ⟨some 2, .mov (.t 29), none⟩]
def s171 : SCode := (.seq (.region s171r0 0 []) (.seq (.region s171r1 0 []) (.seq (.region s171r2 0 []) (.seq (.region s171r3 0 []) .ret))))
theorem xil : CodeIs s171.eq_1 := qc s171.eq_1
theorem q4o : RegIs s171r0.eq_1 := qa
theorem q4p : RegIs s171r1.eq_1 := qa
theorem q4q : RegIs s171r2.eq_1 := qa
theorem q4r : RegIs s171r3.eq_1 := qa
attribute [go_sem] q4o q4p q4q q4r xil
theorem xgx : FnIs Tryz.prog 171 Tryz.f171 [] news s171 [.tmp 2] 30 := qz follows Tryz.func171
def s168r0 : List SOper := [
 ⟨some 3, .mov (.k (.d (.int .i64 0))), none⟩]
def s168r1 : List SOper := [
 ⟨some 4, .load none (.t 0), none⟩,
 ⟨some 5, .load none (.t 1), none⟩,
 ⟨some 6, .load none (.t 2), none⟩,
 ⟨some 7, .call (.k (.d (.func (.func 169) [] []))) [(.t 4), (.t 5), (.t 6)], none⟩,
 ⟨some 3, .mov (.t 7), none⟩]
def s168 : SCode := (.seq (.region s168r0 0 []) (.seq (.region s168r1 0 []) .ret))
theorem xim : CodeIs s168.eq_1 := qc s168.eq_1
theorem q4s : RegIs s168r0.eq_1 := qa
theorem q4t : RegIs s168r1.eq_1 := qa
attribute [go_sem] q4s q4t xim
theorem xgy : FnIs Tryz.prog 168 Tryz.f168 [] news s168 [.tmp 3] 8 := qz follows Tryz.func168
def s173r0 : List SOper := [
 ⟨some 2, .mov (.k (.d .nilsl)), none⟩]
def s173r1 : List SOper := [
 ⟨some 3, .load none (.t 0), none⟩,
 ⟨some 4, .load none (.t 1), none⟩,
 ⟨some 5, .call (.k (.d (.func (.func 174) [] []))) [(.t 3), (.t 4)], none⟩,
 ⟨some 6, .append false 1 1 (.k (.d .nilsl)) (.t 5), none⟩,
 ⟨some 2, .mov (.t 6), none⟩]
def s173 : SCode := (.seq (.region s173r0 0 []) (.seq (.region s173r1 0 []) .ret))
theorem xin : CodeIs s173.eq_1 := qc s173.eq_1
theorem q4u : RegIs s173r0.eq_1 := qa
theorem q4v : RegIs s173r1.eq_1 := qa
attribute [go_sem] q4u q4v xin
theorem xgz : FnIs Tryz.prog 173 Tryz.f173 [] news s173 [.tmp 2] 7 := qz follows Tryz.func173
def s104r0 : List SOper := [
 ⟨some 4, .mov (.k (.d (.int .i64 0))), none⟩]
def s104r1 : List SOper := [
 ⟨some 5, .mov (.k (.d (.int .i64 0))), none⟩]
def s104r2 : List SOper := [
 ⟨some 8, .mov (.t 0), none⟩,
 ⟨some 9, .eqnil false .ptr (.t 8), none⟩,
 ⟨some 10, .mov (.t 9), none⟩,
 ⟨some 11, .mov (.t 0), some (10, false)⟩,
 ⟨some 12, .nilCheck (.t 11), some (10, false)⟩,
 ⟨some 13, .faddr 2 (.t 12), some (10, false)⟩,
 ⟨some 14, .load none (.t 13), some (10, false)⟩,
 ⟨some 15, .pick (.t 10) (.k (.d (.bool true))) (.t 14), none⟩]
def s104r3 : List SOper := [
 ⟨some 16, .mov (.t 5), none⟩,
 ⟨some 4, .mov (.t 16), none⟩]
def s104r4 : List SOper := [
 ⟨some 17, .mov (.t 0), none⟩,
 ⟨some 18, .nilCheck (.t 17), none⟩,
 ⟨some 19, .faddr 1 (.t 18), none⟩,
 ⟨some 20, .load none (.t 19), none⟩,
 ⟨some 6, .mov (.t 20), none⟩]
def s104r5 : List SOper := [
 ⟨some 21, .mov (.t 1), none⟩,
 ⟨some 22, .call (.t 21) [], none⟩,
 ⟨some 7, .mov (.t 22), none⟩]
def s104r6 : List SOper := [
 ⟨some 23, .mov (.t 0), none⟩,
 ⟨some 24, .nilCheck (.t 23), none⟩,
 ⟨some 25, .faddr 2 (.t 24), none⟩,
 ⟨some 26, .load none (.t 25), none⟩]
def s104r7 : List SOper := [
 ⟨some 27, .mov (.t 0), none⟩,
 ⟨some 28, .mov (.t 6), none⟩,
 ⟨some 29, .nilCheck (.t 27), none⟩,
 ⟨some 30, .faddr 1 (.t 29), none⟩,
 ⟨none, .store none (.t 30) (.t 28), none⟩]
def s104r8 : List SOper := [
 ⟨some 31, .mov (.t 5), none⟩,
 ⟨some 4, .mov (.t 31), none⟩]
def s104r9 : List SOper := [
 ⟨some 32, .mov (.t 7), none⟩,
 ⟨some 4, .mov (.t 32), none⟩]
def s104 : SCode := (.seq (.region s104r0 0 []) (.seq (.region s104r1 0 []) (.seq (.seq (.region s104r2 0 []) (.cond (.t 15) (.seq (.region s104r3 0 []) .ret) .skip)) (.seq (.region s104r4 0 []) (.seq (.region s104r5 0 []) (.seq (.seq (.region s104r6 0 []) (.cond (.t 26) (.seq (.region s104r7 0 []) (.seq (.region s104r8 0 []) .ret)) .skip)) (.seq (.region s104r9 0 []) .ret)))))))
theorem xio : CodeIs s104.eq_1 := qc s104.eq_1
theorem q4w : RegIs s104r0.eq_1 := qa
theorem q4x : RegIs s104r1.eq_1 := qa
theorem q4y : RegIs s104r2.eq_1 := qa
theorem q4z : RegIs s104r3.eq_1 := qa
theorem q40 : RegIs s104r4.eq_1 := qa
theorem q41 : RegIs s104r5.eq_1 := qa
theorem q42 : RegIs s104r6.eq_1 := qa
theorem q43 : RegIs s104r7.eq_1 := qa
theorem q44 : RegIs s104r8.eq_1 := qa
theorem q45 : RegIs s104r9.eq_1 := qa
attribute [go_sem] q4w q4x q4y q4z q40 q41 q42 q43 q44 q45 xio
theorem q8t : FnIs Tryz.prog 104 Tryz.f104 [] news s104 [.tmp 4] 33 := qz follows Tryz.func104
def s170r0 : List SOper := [
 ⟨some 4, .mov (.k (.d (.bool false))), none⟩]
def s170r1 : List SOper := [
 ⟨some 5, .mov (.k (.d (.bool false))), none⟩]
def s170r2 : List SOper := [
 ⟨some 8, .mov (.t 0), none⟩,
 ⟨some 9, .eqnil false .ptr (.t 8), none⟩,
 ⟨some 10, .mov (.t 9), none⟩,
 ⟨some 11, .mov (.t 0), some (10, false)⟩,
 ⟨some 12, .nilCheck (.t 11), some (10, false)⟩,
 ⟨some 13, .faddr 2 (.t 12), some (10, false)⟩,
 ⟨some 14, .load none (.t 13), some (10, false)⟩,
 ⟨some 15, .pick (.t 10) (.k (.d (.bool true))) (.t 14), none⟩]
def s170r3 : List SOper := [
 ⟨some 16, .mov (.t 5), none⟩,
 ⟨some 4, .mov (.t 16), none⟩]
def s170r4 : List SOper := [
 ⟨some 17, .mov (.t 0), none⟩,
 ⟨some 18, .nilCheck (.t 17), none⟩,
 ⟨some 19, .faddr 1 (.t 18), none⟩,
 ⟨some 20, .load none (.t 19), none⟩,
 ⟨some 6, .mov (.t 20), none⟩]
def s170r5 : List SOper := [
 ⟨some 21, .mov (.t 1), none⟩,
 ⟨some 22, .call (.t 21) [], none⟩,
 ⟨some 7, .mov (.t 22), none⟩]
def s170r6 : List SOper := [
 ⟨some 23, .mov (.t 0), none⟩,
 ⟨some 24, .nilCheck (.t 23), none⟩,
 ⟨some 25, .faddr 2 (.t 24), none⟩,
 ⟨some 26, .load none (.t 25), none⟩]
def s170r7 : List SOper := [
 ⟨some 27, .mov (.t 0), none⟩,
 ⟨some 28, .mov (.t 6), none⟩,
 ⟨some 29, .nilCheck (.t 27), none⟩,
 ⟨some 30, .faddr 1 (.t 29), none⟩,
 ⟨none, .store none (.t 30) (.t 28), none⟩]
def s170r8 : List SOper := [
 ⟨some 31, .mov (.t 5), none⟩,
 ⟨some 4, .mov (.t 31), none⟩]
def s170r9 : List SOper := [
 ⟨some 32, .mov (.t 7), none⟩,
 ⟨some 4, .mov (.t 32), none⟩]
def s170 : SCode := (.seq (.region s170r0 0 []) (.seq (.region s170r1 0 []) (.seq (.seq (.region s170r2 0 []) (.cond (.t 15) (.seq (.region s170r3 0 []) .ret) .skip)) (.seq (.region s170r4 0 []) (.seq (.region s170r5 0 []) (.seq (.seq (.region s170r6 0 []) (.cond (.t 26) (.seq (.region s170r7 0 []) (.seq (.region s170r8 0 []) .ret)) .skip)) (.seq (.region s170r9 0 []) .ret)))))))
theorem xip : CodeIs s170.eq_1 := qc s170.eq_1
theorem q46 : RegIs s170r0.eq_1 := qa
theorem q47 : RegIs s170r1.eq_1 := qa
theorem q48 : RegIs s170r2.eq_1 := qa
theorem q49 : RegIs s170r3.eq_1 := qa
theorem q5a : RegIs s170r4.eq_1 := qa
theorem q5b : RegIs s170r5.eq_1 := qa
theorem q5c : RegIs s170r6.eq_1 := qa
theorem q5d : RegIs s170r7.eq_1 := qa
theorem q5e : RegIs s170r8.eq_1 := qa
theorem q5f : RegIs s170r9.eq_1 := qa
attribute [go_sem] q46 q47 q48 q49 q5a q5b q5c q5d q5e q5f xip
theorem xg0 : FnIs Tryz.prog 170 Tryz.f170 [] news s170 [.tmp 4] 33 := qz follows Tryz.func170
def s172r0 : List SOper := [
 ⟨some 4, .mov (.k (.d .nilsl)), none⟩]
def s172r1 : List SOper := [
 ⟨some 5, .mov (.k (.d .nilsl)), none⟩]
def s172r2 : List SOper := [
 ⟨some 8, .mov (.t 0), none⟩,
 ⟨some 9, .eqnil false .ptr (.t 8), none⟩,
 ⟨some 10, .mov (.t 9), none⟩,
 ⟨some 11, .mov (.t 0), some (10, false)⟩,
 ⟨some 12, .nilCheck (.t 11), some (10, false)⟩,
 ⟨some 13, .faddr 2 (.t 12), some (10, false)⟩,
 ⟨some 14, .load none (.t 13), some (10, false)⟩,
 ⟨some 15, .pick (.t 10) (.k (.d (.bool true))) (.t 14), none⟩]
def s172r3 : List SOper := [
 ⟨some 16, .mov (.t 5), none⟩,
 ⟨some 4, .mov (.t 16), none⟩]
def s172r4 : List SOper := [
 ⟨some 17, .mov (.t 0), none⟩,
 ⟨some 18, .nilCheck (.t 17), none⟩,
 ⟨some 19, .faddr 1 (.t 18), none⟩,
 ⟨some 20, .load none (.t 19), none⟩,
 ⟨some 6, .mov (.t 20), none⟩]
def s172r5 : List SOper := [
 ⟨some 21, .mov (.t 1), none⟩,
 ⟨some 22, .call (.t 21) [], none⟩,
 ⟨some 7, .mov (.t 22), none⟩]
def s172r6 : List SOper := [
 ⟨some 23, .mov (.t 0), none⟩,
 ⟨some 24, .nilCheck (.t 23), none⟩,
 ⟨some 25, .faddr 2 (.t 24), none⟩,
 ⟨some 26, .load none (.t 25), none⟩]
def s172r7 : List SOper := [
 ⟨some 27, .mov (.t 0), none⟩,
 ⟨some 28, .mov (.t 6), none⟩,
 ⟨some 29, .nilCheck (.t 27), none⟩,
 ⟨some 30, .faddr 1 (.t 29), none⟩,
 ⟨none, .store none (.t 30) (.t 28), none⟩]
def s172r8 : List SOper := [
 ⟨some 31, .mov (.t 5), none⟩,
 ⟨some 4, .mov (.t 31), none⟩]
def s172r9 : List SOper := [
 ⟨some 32, .mov (.t 7), none⟩,
 ⟨some 4, .mov (.t 32), none⟩]
def s172 : SCode := (.seq (.region s172r0 0 []) (.seq (.region s172r1 0 []) (.seq (.seq (.region s172r2 0 []) (.cond (.t 15) (.seq (.region s172r3 0 []) .ret) .skip)) (.seq (.region s172r4 0 []) (.seq (.region s172r5 0 []) (.seq (.seq (.region s172r6 0 []) (.cond (.t 26) (.seq (.region s172r7 0 []) (.seq (.region s172r8 0 []) .ret)) .skip)) (.seq (.region s172r9 0 []) .ret)))))))
theorem xiq : CodeIs s172.eq_1 := qc s172.eq_1
theorem q5g : RegIs s172r0.eq_1 := qa
theorem q5h : RegIs s172r1.eq_1 := qa
theorem q5i : RegIs s172r2.eq_1 := qa
theorem q5j : RegIs s172r3.eq_1 := qa
theorem q5k : RegIs s172r4.eq_1 := qa
theorem q5l : RegIs s172r5.eq_1 := qa
theorem q5m : RegIs s172r6.eq_1 := qa
theorem q5n : RegIs s172r7.eq_1 := qa
theorem q5o : RegIs s172r8.eq_1 := qa
theorem q5p : RegIs s172r9.eq_1 := qa
attribute [go_sem] q5g q5h q5i q5j q5k q5l q5m q5n q5o q5p xiq
theorem xg1 : FnIs Tryz.prog 172 Tryz.f172 [] news s172 [.tmp 4] 33 := qz follows Tryz.func172
def s55r0 : List SOper := [
 ⟨some 2, .mov (.k (.d (.int .i64 0))), none⟩]
def s55r1 : List SOper := [
 ⟨some 3, .mov (.t 0), none⟩,
 ⟨some 4, .mov (.t 0), none⟩,
 ⟨some 5, .mkFunc (.func 105) [(.t 4)] [], none⟩,
 ⟨some 6, .call (.k (.d (.func (.func 104) [] []))) [(.t 3), (.t 5)], none⟩,
 ⟨some 2, .mov (.t 6), none⟩]
def s55 : SCode := (.seq (.region s55r0 0 []) (.seq (.region s55r1 0 []) .ret))
theorem e55 : CodeIs s55.eq_1 := qc s55.eq_1
theorem xdz : RegIs s55r0.eq_1 := qa
theorem xd0 : RegIs s55r1.eq_1 := qa
attribute [go_sem] xdz xd0 e55
theorem F55 : FnIs Tryz.prog 55 Tryz.f55 [] news s55 [.tmp 2] 7 := qz follows Tryz.func55
def s112r0 : List SOper := [
 ⟨some 3, .box 3 (.t 0), none⟩,
 ⟨some 4, .box 2 (.t 1), none⟩,
 ⟨some 5, .box 1 (.t 2), none⟩,
 ⟨some 6, .mov (.k (.d (.int .i64 0))), none⟩]
def s112r1 : List SOper := [
 ⟨some 7, .load none (.t 3), none⟩,
 ⟨some 8, .mkFunc (.func 168) [] [(.t 3), (.t 4), (.t 5)], none⟩,
 ⟨some 9, .call (.k (.d (.func (.func 104) [] []))) [(.t 7), (.t 8)], none⟩,
 ⟨some 6, .mov (.t 9), none⟩]
def s112 : SCode := (.seq (.region s112r0 3 []) (.seq (.region s112r1 0 []) .ret))
theorem xir : CodeIs s112.eq_1 := qc s112.eq_1
theorem q5q : RegIs s112r0.eq_1 := qa
theorem q5r : RegIs s112r1.eq_1 := qa
attribute [go_sem] q5q q5r xir
theorem xg2 : FnIs Tryz.prog 112 Tryz.f112 [] news s112 [.tmp 6] 10 := qz follows Tryz.func112
def s114r0 : List SOper := [
 ⟨some 2, .mov (.k (.d (.bool false))), none⟩]
def s114r1 : List SOper := [
 ⟨some 3, .mov (.t 0), none⟩,
 ⟨some 4, .mov (.t 0), none⟩,
 ⟨some 5, .mkFunc (.func 171) [(.t 4)] [], none⟩,
 ⟨some 6, .call (.k (.d (.func (.func 170) [] []))) [(.t 3), (.t 5)], none⟩,
 ⟨some 2, .mov (.t 6), none⟩]
def s114 : SCode := (.seq (.region s114r0 0 []) (.seq (.region s114r1 0 []) .ret))
theorem xis : CodeIs s114.eq_1 := qc s114.eq_1
theorem q5s : RegIs s114r0.eq_1 := qa
theorem q5t : RegIs s114r1.eq_1 := qa
attribute [go_sem] q5s q5t xis
theorem xg3 : FnIs Tryz.prog 114 Tryz.f114 [] news s114 [.tmp 2] 7 := qz follows Tryz.func114
def s115r0 : List SOper := [
 ⟨some 2, .box 2 (.t 0), none⟩,
 ⟨some 3, .box 1 (.t 1), none⟩,
 ⟨some 4, .mov (.k (.d .nilsl)), none⟩]
def s115r1 : List SOper := [
 ⟨some 5, .load none (.t 2), none⟩,
 ⟨some 6, .mkFunc (.func 173) [] [(.t 2), (.t 3)], none⟩,
 ⟨some 7, .call (.k (.d (.func (.func 172) [] []))) [(.t 5), (.t 6)], none⟩,
 ⟨some 4, .mov (.t 7), none⟩]
def s115 : SCode := (.seq (.region s115r0 2 []) (.seq (.region s115r1 0 []) .ret))
theorem xit : CodeIs s115.eq_1 := qc s115.eq_1
theorem q5u : RegIs s115r0.eq_1 := qa
theorem q5v : RegIs s115r1.eq_1 := qa
attribute [go_sem] q5u q5v xit
theorem xd1 : FnIs Tryz.prog 115 Tryz.f115 [] news s115 [.tmp 4] 8 := qz follows Tryz.func115
def s113r0 : List SOper := [
 ⟨some 4, .mov (.k (.d (.str []))), none⟩]
def s113r1 : List SOper := [
 ⟨some 5, .mov (.t 0), none⟩,
 ⟨some 6, .mov (.t 1), none⟩,
 ⟨some 7, .call (.k (.d (.func (.func 115) [] []))) [(.t 5), (.t 6)], none⟩,
 ⟨some 8, .b2s (.t 7), none⟩,
 ⟨some 4, .mov (.t 8), none⟩]
def s113 : SCode := (.seq (.region s113r0 0 []) (.seq (.region s113r1 0 []) .ret))
theorem xiu : CodeIs s113.eq_1 := qc s113.eq_1
theorem q5w : RegIs s113r0.eq_1 := qa
theorem q5x : RegIs s113r1.eq_1 := qa
attribute [go_sem] q5w q5x xiu
theorem xg4 : FnIs Tryz.prog 113 Tryz.f113 [] news s113 [.tmp 4] 9 := qz follows Tryz.func113
end
theorem qdb (r : Rd) (lo hi : Int) (hr : r.Ok) : ACall Tryz.prog 169 [.d (.ptr 0 0), .d (.int .i64 lo), .d (.int .i64 hi)] [rdO r] (.d (.int .i64 (rBounded lo hi r).1)) [rdO (rBounded lo hi r).2] := by
 have hc := qqq r hr
 simp only [rdO] at hc
 refine xdy.go ?_
 try (refine ev3 @rdO.eq_1 @rBounded.eq_1 @Rd.fail.eq_1 ?_; try exact True.intro)
 generalize rInt r = x at hc ⊢
 obtain ⟨n, b, p, f⟩ := x
 (repeat (with_reducible refine ob ?_)); refine clO [0] xdx (hc) ?_
 try (refine ev ?_; try exact True.intro)
 cases f <;> simp
theorem qny (r : Rd) (most : Nat) (hr : r.Ok) (hm : most ≤ 1000000000) : ACall Tryz.prog 174 [.d (.ptr 0 0), .d (.int .i64 most)] [rdO r] (.d (.sl 1 (byteRows (rBytes0 most r).1))) [rdO (rBytes0 most r).2] := by
 have hc := qdb r 0 most hr
 have hin := qc9 (r := r) (lo := 0) (hi := most)
 have hinv := (zq hr 0 most).1
 refine xgw.go ?_
 try (refine ev1 @rBytes0.eq_1 ?_; try exact True.intro)
 generalize rBounded 0 most r = x at hc hin hinv ⊢
 obtain ⟨n, r1⟩ := x
 simp only [rdO] at hc
 try (refine ev1 @rdO.eq_1 ?_; try exact True.intro)
 (repeat (with_reducible refine ob ?_)); refine clO [0] xdy (hc) ?_
 try (refine ev ?_; try exact True.intro)
 cases hf : r1.failed
 ·obtain ⟨h1, h2⟩ := hin hf
  simp only at h1 h2
  have hn := qgh r1 n.toNat hinv (by omega)
  rw [Int.toNat_of_nonneg h1] at hn
  simp only [rdO, hf] at hn
  (repeat (with_reducible refine ob ?_)); refine no_ ?_
  try (refine ev ?_; try exact True.intro)
  (repeat (with_reducible refine ob ?_)); refine clO [0] q8s (hn) ?_
  try (refine ev ?_; try exact True.intro)
 ·(repeat (with_reducible refine ob ?_)); refine wx ?_
  try (refine ev2 @hf @qj ?_; try exact True.intro)
theorem qnz {r : Rd} {n : Nat} (h : (rNext n r).2.failed = true) : (rNext n r).1 = [] := by
 unfold rNext at h ⊢
 split
 ·rfl
 ·rename_i hn
  rw [if_neg hn] at h
  simp only [Bool.or_eq_true, not_or] at hn
  exact absurd h hn.1
theorem quc (c : UInt8) : decide (((c.toNat : Nat) : Int) > 1) = decide (c.toNat > 1) := decide_eq_decide.2 (by omega)
theorem qud (c : UInt8) : (((c.toNat : Nat) : Int) == 1) = (c.toNat == 1) := by rw [Bool.eq_iff_iff]; simp; omega
theorem qqs (r : Rd) (hr : r.Ok) : ACall Tryz.prog 171 [.d (.ptr 0 0)] [rdO r] (.d (.bool (rBool0 r).1)) [rdO (rBool0 r).2] := by
 have hc := qgh r 1 hr (by decide)
 have h1 := qiv (r := r)
 have h0 := qnz (r := r) (n := 1)
 refine xgx.go ?_
 try (refine ev3 @rdO.eq_1 @rBool0.eq_1 @Rd.fail.eq_1 ?_; try exact True.intro)
 generalize rNext 1 r = x at hc h1 h0 ⊢
 obtain ⟨s, r1⟩ := x
 simp only [rdO] at hc
 try (refine ev ?_; try exact True.intro)
 (repeat (with_reducible refine ob ?_)); refine clO [0] q8s (hc) ?_
 simp only at h1
 cases hf : r1.failed
 ·obtain ⟨c, rfl⟩ := h1 hf
  have hcb : byteRows [c] = [[.int .u8 (c.toNat : Nat)]] := rfl
  try (refine ev2 @hcb @List.headD_cons.{0} ?_; try exact True.intro)
  exact ⟨by rw [quc, qud] <;> rfl, quc c⟩
 ·have hs := h0 hf
  simp only at hs
  subst hs
  try (refine ev2 @qj @List.getD_nil.{0} ?_; try exact True.intro)
theorem qk1 (r : Rd) (lo hi : Int) (hr : r.Ok) : ACall Tryz.prog 168 [.d (.ptr 1 0), .d (.ptr 2 0), .d (.ptr 3 0)] [rdO r, .row [.d (.ptr 0 0)], .row [.d (.int .i64 lo)], .row [.d (.int .i64 hi)]] (.d (.int .i64 (rBounded lo hi r).1)) [rdO (rBounded lo hi r).2, .row [.d (.ptr 0 0)], .row [.d (.int .i64 lo)], .row [.d (.int .i64 hi)]] := by
 have hc := qdb r lo hi hr
 simp only [rdO] at hc
 refine xgy.go ?_
 try (refine ev1 @rdO.eq_1 ?_; try exact True.intro)
 (repeat (with_reducible refine ob ?_)); refine clO [0] xdy (hc) ?_
 try (refine ev ?_; try exact True.intro)
theorem qqt (r : Rd) (most : Nat) (hr : r.Ok) (hm : most ≤ 1000000000) : ACall Tryz.prog 173 [.d (.ptr 1 0), .d (.ptr 2 0)] [rdO r, .row [.d (.ptr 0 0)], .row [.d (.int .i64 most)]] (.d (.sl 1 (byteRows (rBytes0 most r).1))) [rdO (rBytes0 most r).2, .row [.d (.ptr 0 0)], .row [.d (.int .i64 most)]] := by
 have hc := qny r most hr hm
 have hln := qk0 hr most
 simp only [rdO] at hc
 refine xgz.go ?_
 try (refine ev1 @rdO.eq_1 ?_; try exact True.intro)
 (repeat (with_reducible refine ob ?_)); refine clO [0] xgw (hc) ?_
 try (refine ev ?_; try exact True.intro)
 omega
def rIntP := rPart (0 : Int) rInt
def rBoundedP (lo hi : Int) := rPart (0 : Int) (rBounded lo hi)
def rBoolP := rPart false rBool0
def rBytesP (most : Int) := rPart ([] : List UInt8) (rBytes0 most)
theorem qn0 (r : Rd) (hr : r.Ok) : ACall Tryz.prog 104 [.d (.ptr 0 0), .d (.func (.func 105) [.ptr 0 0] [])] [rdO r] (.d (.int .i64 (rIntP r).1)) [rdO (rIntP r).2] := by
 have hc := qqq r hr
 unfold rIntP
 unfold rPart
 obtain ⟨b, p, f⟩ := r
 simp only [rdO] at hc
 refine q8t.go ?_
 try (refine ev1 @rdO.eq_1 ?_; try exact True.intro)
 cases f
 ·try (refine ev ?_; try exact True.intro)
  (repeat (with_reducible refine ob ?_)); refine no_ ?_
  try (refine ev ?_; try exact True.intro)
  (repeat (with_reducible refine ob ?_)); refine clO [0] xdx (hc) ?_
  try (refine ev ?_; try exact True.intro)
  cases hf : (rInt ⟨b, p, false⟩).2.failed
  ·try (refine ev ?_; try exact True.intro)
   (repeat (with_reducible refine ob ?_)); refine no_ ?_
   try simp only [hf, if_false, go_sem, Nat.reduceAdd, Nat.reduceMul, Nat.reduceSub, Nat.reduceEqDiff, Nat.reduceLT, Nat.reduceLeDiff, Nat.reduceBEq, reduceIte, reduceCtorEq, Int.reduceAdd, Int.reduceLT, Int.reduceLE, Int.reduceGT, Int.reduceGE, Int.reduceEq, Int.reduceNe, Int.reduceBEq, Int.reduceBNe, Int.reduceToNat, Int.reduceNeg]
  ·try (refine ev ?_; try exact True.intro)
   (repeat (with_reducible refine ob ?_)); refine wx ?_
   try (refine ev1 @hf ?_; try exact True.intro)
 ·try (refine ev ?_; try exact True.intro)
  (repeat (with_reducible refine ob ?_)); refine wx ?_
  try (refine ev ?_; try exact True.intro)
theorem qdy (r : Rd) (lo hi : Int) (hr : r.Ok) : ACall Tryz.prog 104 [.d (.ptr 0 0), .d (.func (.func 168) [] [.ptr 1 0, .ptr 2 0, .ptr 3 0])] [rdO r, .row [.d (.ptr 0 0)], .row [.d (.int .i64 lo)], .row [.d (.int .i64 hi)]] (.d (.int .i64 (rBoundedP lo hi r).1)) [rdO (rBoundedP lo hi r).2, .row [.d (.ptr 0 0)], .row [.d (.int .i64 lo)], .row [.d (.int .i64 hi)]] := by
 have hc := qk1 r lo hi hr
 unfold rBoundedP
 unfold rPart
 obtain ⟨b, p, f⟩ := r
 simp only [rdO] at hc
 refine q8t.go ?_
 try (refine ev1 @rdO.eq_1 ?_; try exact True.intro)
 cases f
 ·try (refine ev ?_; try exact True.intro)
  (repeat (with_reducible refine ob ?_)); refine no_ ?_
  try (refine ev ?_; try exact True.intro)
  (repeat (with_reducible refine ob ?_)); refine clO [0, 1, 2, 3] xgy (hc) ?_
  try (refine ev ?_; try exact True.intro)
  cases hf : (rBounded lo hi ⟨b, p, false⟩).2.failed
  ·try (refine ev ?_; try exact True.intro)
   (repeat (with_reducible refine ob ?_)); refine no_ ?_
   try simp only [hf, if_false, go_sem, Nat.reduceAdd, Nat.reduceMul, Nat.reduceSub, Nat.reduceEqDiff, Nat.reduceLT, Nat.reduceLeDiff, Nat.reduceBEq, reduceIte, reduceCtorEq, Int.reduceAdd, Int.reduceLT, Int.reduceLE, Int.reduceGT, Int.reduceGE, Int.reduceEq, Int.reduceNe, Int.reduceBEq, Int.reduceBNe, Int.reduceToNat, Int.reduceNeg]
  ·try (refine ev ?_; try exact True.intro)
   (repeat (with_reducible refine ob ?_)); refine wx ?_
   try (refine ev1 @hf ?_; try exact True.intro)
 ·try (refine ev ?_; try exact True.intro)
  (repeat (with_reducible refine ob ?_)); refine wx ?_
  try (refine ev ?_; try exact True.intro)
theorem qk2 (r : Rd) (hr : r.Ok) : ACall Tryz.prog 170 [.d (.ptr 0 0), .d (.func (.func 171) [.ptr 0 0] [])] [rdO r] (.d (.bool (rBoolP r).1)) [rdO (rBoolP r).2] := by
 have hc := qqs r hr
 unfold rBoolP
 unfold rPart
 obtain ⟨b, p, f⟩ := r
 simp only [rdO] at hc
 refine xg0.go ?_
 try (refine ev1 @rdO.eq_1 ?_; try exact True.intro)
 cases f
 ·try (refine ev ?_; try exact True.intro)
  (repeat (with_reducible refine ob ?_)); refine no_ ?_
  try (refine ev ?_; try exact True.intro)
  (repeat (with_reducible refine ob ?_)); refine clO [0] xgx (hc) ?_
  try (refine ev ?_; try exact True.intro)
  cases hf : (rBool0 ⟨b, p, false⟩).2.failed
  ·try (refine ev ?_; try exact True.intro)
   (repeat (with_reducible refine ob ?_)); refine no_ ?_
   try simp only [hf, if_false, go_sem, Nat.reduceAdd, Nat.reduceMul, Nat.reduceSub, Nat.reduceEqDiff, Nat.reduceLT, Nat.reduceLeDiff, Nat.reduceBEq, reduceIte, reduceCtorEq, Int.reduceAdd, Int.reduceLT, Int.reduceLE, Int.reduceGT, Int.reduceGE, Int.reduceEq, Int.reduceNe, Int.reduceBEq, Int.reduceBNe, Int.reduceToNat, Int.reduceNeg]
  ·try (refine ev ?_; try exact True.intro)
   (repeat (with_reducible refine ob ?_)); refine wx ?_
   try (refine ev1 @hf ?_; try exact True.intro)
 ·try (refine ev ?_; try exact True.intro)
  (repeat (with_reducible refine ob ?_)); refine wx ?_
  try (refine ev ?_; try exact True.intro)
theorem qiy (r : Rd) (most : Nat) (hr : r.Ok) (hm : most ≤ 1000000000) : ACall Tryz.prog 172 [.d (.ptr 0 0), .d (.func (.func 173) [] [.ptr 1 0, .ptr 2 0])] [rdO r, .row [.d (.ptr 0 0)], .row [.d (.int .i64 most)]] (.d (.sl 1 (byteRows (rBytesP most r).1))) [rdO (rBytesP most r).2, .row [.d (.ptr 0 0)], .row [.d (.int .i64 most)]] := by
 have hc := qqt r most hr hm
 unfold rBytesP
 unfold rPart
 obtain ⟨b, p, f⟩ := r
 simp only [rdO] at hc
 refine xg1.go ?_
 try (refine ev1 @rdO.eq_1 ?_; try exact True.intro)
 cases f
 ·try (refine ev ?_; try exact True.intro)
  (repeat (with_reducible refine ob ?_)); refine no_ ?_
  try (refine ev ?_; try exact True.intro)
  (repeat (with_reducible refine ob ?_)); refine clO [0, 1, 2] xgz (hc) ?_
  try (refine ev ?_; try exact True.intro)
  cases hf : (rBytes0 most ⟨b, p, false⟩).2.failed
  ·try (refine ev ?_; try exact True.intro)
   (repeat (with_reducible refine ob ?_)); refine no_ ?_
   try simp only [hf, if_false, go_sem, Nat.reduceAdd, Nat.reduceMul, Nat.reduceSub, Nat.reduceEqDiff, Nat.reduceLT, Nat.reduceLeDiff, Nat.reduceBEq, reduceIte, reduceCtorEq, Int.reduceAdd, Int.reduceLT, Int.reduceLE, Int.reduceGT, Int.reduceGE, Int.reduceEq, Int.reduceNe, Int.reduceBEq, Int.reduceBNe, Int.reduceToNat, Int.reduceNeg]
  ·try (refine ev ?_; try exact True.intro)
   (repeat (with_reducible refine ob ?_)); refine wx ?_
   try (refine ev1 @hf ?_; try exact True.intro)
 ·try (refine ev ?_; try exact True.intro)
  (repeat (with_reducible refine ob ?_)); refine wx ?_
  try (refine ev ?_; try exact True.intro)
theorem q8u (r : Rd) (hr : r.Ok) : ACall Tryz.prog 55 [.d (.ptr 0 0)] [rdO r] (.d (.int .i64 (rIntP r).1)) [rdO (rIntP r).2] := by
 have hc := qn0 r hr
 simp only [rdO] at hc
 refine F55.go ?_
 try (refine ev1 @rdO.eq_1 ?_; try exact True.intro)
 (repeat (with_reducible refine ob ?_)); refine clO [0] q8t (hc) ?_
 try (refine ev ?_; try exact True.intro)
theorem qiz (r : Rd) (lo hi : Int) (hr : r.Ok) : ACall Tryz.prog 112 [.d (.ptr 0 0), .d (.int .i64 lo), .d (.int .i64 hi)] [rdO r] (.d (.int .i64 (rBoundedP lo hi r).1)) [rdO (rBoundedP lo hi r).2] := by
 have hc := qdy r lo hi hr
 simp only [rdO] at hc
 refine xg2.go ?_
 try (refine ev1 @rdO.eq_1 ?_; try exact True.intro)
 refine clO [0, 1, 2, 3] q8t hc ?_
 try (refine ev ?_; try exact True.intro)
theorem qqu (r : Rd) (hr : r.Ok) : ACall Tryz.prog 114 [.d (.ptr 0 0)] [rdO r] (.d (.bool (rBoolP r).1)) [rdO (rBoolP r).2] := by
 have hc := qk2 r hr
 simp only [rdO] at hc
 refine xg3.go ?_
 try (refine ev1 @rdO.eq_1 ?_; try exact True.intro)
 (repeat (with_reducible refine ob ?_)); refine clO [0] xg0 (hc) ?_
 try (refine ev ?_; try exact True.intro)
theorem qez (r : Rd) (most : Nat) (hr : r.Ok) (hm : most ≤ 1000000000) : ACall Tryz.prog 115 [.d (.ptr 0 0), .d (.int .i64 most)] [rdO r] (.d (.sl 1 (byteRows (rBytesP most r).1))) [rdO (rBytesP most r).2] := by
 have hc := qiy r most hr hm
 simp only [rdO] at hc
 refine xd1.go ?_
 try (refine ev1 @rdO.eq_1 ?_; try exact True.intro)
 refine clO [0, 1, 2] xg1 hc ?_
 try (refine ev ?_; try exact True.intro)
theorem qqv (r : Rd) (most : Nat) (hr : r.Ok) (hm : most ≤ 1000000000) : ACall Tryz.prog 113 [.d (.ptr 0 0), .d (.int .i64 most)] [rdO r] (.d (.str (rBytesP most r).1)) [rdO (rBytesP most r).2] := by
 have hc := qez r most hr hm
 simp only [rdO] at hc
 refine xg4.go ?_
 try (refine ev1 @rdO.eq_1 ?_; try exact True.intro)
 (repeat (with_reducible refine ob ?_)); refine clO [0] xd1 (hc) ?_
 try (refine ev ?_; try exact True.intro)
end Go.Proofs.YtinnaedmdoengaaGreat
