/- Texts Wk, Wl, Wm, Za, Zb, Zc, Wn, Zd, Ze, Zf, Yd, Ya, Yb. -/
import Derived.Test.YtinnaedmdoengaaGreatMkn
import Derived.Calls
import Derived.Orders
import Derived.Tactics
import Derived.Laws.AppendOwn
import Derived.Laws.Slices
import Derived.Laws.Closers25
import Derived.Laws.StructEq
import Derived.Laws.BytesString
import Derived.Laws.CopyRow
import Derived.MapKept
import Derived.Maps.RangeRun
import Derived.TacticsIn
import Derived.OrdersIn
import Derived.RangeFuncRecord
import Derived.RangeFuncLeaves
import Derived.IntWalk
import Derived.ProofKit
import Derived.OpenShut
import Derived.Carry
import Derived.Test.YtinnaedmdoengaaGreatProg
import Derived.KernelRfl
import Derived.OwnWalkIn
import Derived.TacticsInMore
import Derived.LoopIn
import Derived.WalkKit
import Derived.Lib.Strings
import Derived.Lib.Slices
import Derived.Lib.Walk
import Derived.Lib.Bytealg
import Derived.Shelf.SlSortCmp.WholeK
import Derived.Shelf.SlSortCmp.NoneTotal

namespace Go.Proofs.YtinnaedmdoengaaGreat
open Go.Abs Go.Shelf Go.RowKit Go.Lib Go.Sort
set_option linter.unusedSimpArgs false
set_option linter.unusedVariables false
theorem q4y (x : RowE) : (encR x).length = 2 := rfl
theorem q4z (x : RowE) : ∀ v ∈ encR x, v.oneCell' = true := by
 intro v hv
 simp [encR] at hv
 rcases hv with rfl | rfl
 ·rfl
 ·exact x.2.2
set_option maxHeartbeats 1000000 in
theorem xir (l : List En) (hn : (l.map (·.1)).Nodup) (hl : l.length ≤ 1000000) :
  qo Tryz.prog 76 [.d (.ref 0 0 2 l.length), .d (.func (.func 77) [] [])] [.row ((qbk l).map .d)] (.tup []) [.row ((qbk (qa4 l)).map .d)] := by
 intro g w vs hd hlen hv ho
 match vs, hlen with
 | [v0, v1], _ =>
 have h1 := jy (x6 (hv 1 v1 _ rfl rfl))
 have hf1 : v1 = .func (.func 77) #[] #[] := by
  cases h1 with
  | func _ vf vc _ _ hf hc =>
   have e1 : vf = [] := List.eq_nil_of_length_eq_zero (by simpa using hf)
   have e2 : vc = [] := List.eq_nil_of_length_eq_zero (by simpa using hc)
   subst e1; subst e2; rfl
 subst hf1
 have h0 := jy (x6 (hv 0 v0 _ rfl rfl))
 generalize hln : l.length = n at h0
 have none_ : ∀ (p : Option Addr) (cap : Nat), n = 0 → v0 = .slice p 0 cap → Calls Tryz.prog 76 [v0, .func (.func 77) #[] #[]].toArray w fun e w' =>
   ∃ v g' live', e = .returned v ∧ G g w g' w' ∧ Dom g' w' ∧ (∀ t ∈ (ASlot.tup []).toks, t ∈ live') ∧ RS g' w' live' v (.tup []) ∧ ObjsOk g' w' live' [.row ((qbk (qa4 l)).map .d)] := by
  intro p cap h0 hv0
  have hl0 : l = [] := List.eq_nil_of_length_eq_zero (by omega)
  subst hl0; subst hv0
  have hcon := AnyF.slices_SortFunc_none xq0 p cap (.func (.func 77) #[] #[]) w
  change Calls Tryz.prog 76 _ _ _ at hcon
  refine hcon.mono ?_
  rintro e w' ⟨rfl, rfl⟩
  have hs0 : qa4 [] = [] := by simp [qa4]
  rw [hs0]
  exact ⟨_, g, [], rfl, .refl _ _, hd, by simp [ASlot.toks], ⟨[], rfl, rfl, fun i u s hu => by simp at hu⟩, ho⟩
 cases h0 with
 | refnil a => exact none_ a 0 rfl rfl
 | ref b _ _ _ _ cap hg hcap hmx hsz =>
 by_cases hn0 : n = 0
 ·subst hn0; exact none_ _ cap rfl rfl
 obtain ⟨b', hb', c, et, hh, hcs, hcc⟩ := (ho.objs 0 _ rfl (by simp)).resolve_right (fun h => by
  have := h.1
  simp at this
  have := congrArg List.length this
  simp [qdd] at this; omega)
 have : b' = b := ho.inj b' b 0 hb' hg
 subst this
 rw [List.length_map, qdd] at hcs
 have hcell : ∀ (i : Nat) (e : En), l[i]? = some e → c[2 * i]? = some (.string ⟨e.1.toArray⟩) ∧ ∃ v, c[2 * i + 1]? = some v ∧ v.oneCell' = true ∧ RV g w v (.sl 1 (qd e.2)) := by
  intro i e he
  obtain ⟨k1, k2⟩ := qlf l i e he
  obtain ⟨u, u1, _, u3⟩ := hcc (2 * i) (.d (.str e.1)) (by rw [List.getElem?_map, k1]; rfl)
  obtain ⟨v, v1, v2, v3⟩ := hcc (2 * i + 1) (.d (.sl 1 (qd e.2))) (by rw [List.getElem?_map, k2]; rfl)
  have hu := qaz (show RV g w u (.str e.1) from u3)
  subst hu
  exact ⟨u1, v, v1, v2, v3⟩
 let mkR : Nat → RowE := fun i => match l[i]?, c[2 * i + 1]? with
  | some e, some v => if h : v.oneCell' = true then (e.1, ⟨v, h⟩) else default
  | _, _ => default
 let P : List (RowE × En) := (List.range n).map fun i => (mkR i, l.getD i ([], []))
 have hPR : ∀ z ∈ P, z.1.1 = z.2.1 ∧ RV g w z.1.2.1 (.sl 1 (qd z.2.2)) := by
  intro z hz
  obtain ⟨i, hi, rfl⟩ := List.mem_map.1 hz
  have hil : i < l.length := by rw [hln]; exact List.mem_range.1 hi
  have he := List.getElem?_eq_getElem hil
  obtain ⟨_, v, v1, v2, v3⟩ := hcell i _ he
  have : mkR i = (l[i].1, ⟨v, v2⟩) := by simp only [mkR, he, v1, dif_pos v2]
  have e2 : l.getD i ([], []) = l[i] := by simp [List.getD, he]
  simp only [this, e2]
  exact ⟨trivial, v3⟩
 have hPs : P.map (·.2) = l := by
  apply List.ext_getElem?
  intro i
  simp only [P, List.map_map, List.getElem?_map]
  rcases Nat.lt_or_ge i n with h | h
  ·rw [List.getElem?_range h]
   have he := List.getElem?_eq_getElem (show i < l.length by omega)
   simp [he, List.getD]
  ·rw [List.getElem?_eq_none (by simpa using h), List.getElem?_eq_none (by omega)]; rfl
 obtain ⟨d, hdd⟩ : ∃ d : Array RowE, d = (P.map (·.1)).toArray := ⟨_, rfl⟩
 have hds : d.size = n := by rw [hdd]; simp [P]
 have hdi : ∀ i, i < n → d[i]! = mkR i := fun i hi => by rw [hdd]; simp [P, hi]
 have hblk : b' < w.heap.size := (Array.getElem?_eq_some_iff.1 hh).1
 have hfl : ∀ t, t < n * 2 → (flatK encR 2 d)[t]! = c.getD t default := by
  intro t ht
  rw [get_flatK encR 2 d t (by rw [hds]; exact ht), hdi _ (by omega)]
  have hil : t / 2 < l.length := by omega
  have he := List.getElem?_eq_getElem hil
  obtain ⟨k1, v, v1, v2, v3⟩ := hcell (t / 2) _ he
  have hm : mkR (t / 2) = (l[t / 2].1, ⟨v, v2⟩) := by simp only [mkR, he, v1, dif_pos v2]
  rw [hm]
  rcases Nat.mod_two_eq_zero_or_one t with hp | hp
  ·have e1 : 2 * (t / 2) = t := by omega
   rw [e1] at k1
   rw [hp, Array.getD_eq_getD_getElem?, k1]
   rfl
  ·have e1 : 2 * (t / 2) + 1 = t := by omega
   rw [e1] at v1
   rw [hp, Array.getD_eq_getD_getElem?, v1]
   rfl
 have hH : HoldsK encR 2 w b' 0 d := by
  intro j hj
  rw [size_flatK, hds] at hj
  refine ⟨?_, by simp [World.frozen?, hh]⟩
  rw [hfl j hj]
  have hjc : j < c.size := by omega
  simp [World.cell?, hh, hjc]
 have eg : ∀ args w, (callFunc 77 args).run Tryz.prog w = .ok (.enter 77 args) w := enters_of Tryz.func77 (by kernel_rfl) rfl
 have hcon := AnyQ.slices_SortFunc xq0 2 Tryz.isAgg130 Tryz.sizeOf130 encR q4y q4z cmpR zht 77 #[] b' 0 cap d w eg (fun _ _ _ _ x y => q4x x y _) hH hblk (by omega)
 change Calls Tryz.prog 76 _ _ _ at hcon
 rw [hds] at hcon
 refine hcon.mono ?_
 rintro e w' ⟨rfl, d', m, os, hperm, hsort, hw'⟩
 obtain ⟨hps, _, hpl⟩ := hperm
 rw [hds] at hps
 have hp2 : d'.toList.Perm (P.map (·.1)) := by
  have e1 : d'.extract 0 n = d' := by rw [← hps]; simp
  have e2 : d.extract 0 n = d := by rw [← hds]; simp
  rw [e1, e2] at hpl
  rw [hdd] at hpl
  simpa using hpl
 obtain ⟨Q, q1, q2⟩ := qy3 (fun z : RowE × En => z.1) hp2 rfl
 have hQl : Q.length = n := by rw [q1.length_eq]; simp [P]
 have hesl : (Q.map (·.2)).Perm l := by
  have := q1.map (fun z : RowE × En => z.2)
  rwa [hPs] at this
 have hQ : ∀ (i : Nat) (z : RowE × En), Q[i]? = some z → d'[i]! = z.1 ∧ z.1.1 = z.2.1 ∧ RV g w z.1.2.1 (.sl 1 (qd z.2.2)) := by
  intro i z hz
  have h1 := congrArg (fun l => l[i]?) q2
  simp only [List.getElem?_map, hz, Option.map_some, Array.getElem?_toList] at h1
  have hi : i < d'.size := by rw [hps, ← hQl]; exact (List.getElem?_eq_some_iff.1 hz).1
  refine ⟨?_, hPR z (q1.mem_iff.1 (List.mem_of_getElem? hz))⟩
  rw [getElem!_pos d' i hi]
  rw [Array.getElem?_eq_getElem hi] at h1
  simpa using h1.symm
 have hsorted : (Q.map (·.2)).Pairwise fun a b => cmpB a.1 b.1 ≤ 0 := by
  rw [List.pairwise_iff_getElem]
  intro i j hi hj hij
  simp only [List.length_map] at hi hj
  have zi := hQ i _ (List.getElem?_eq_getElem hi)
  have zj := hQ j _ (List.getElem?_eq_getElem hj)
  have hs := hsort i j (Nat.zero_le _) hij (by omega)
  rw [zi.1, zj.1] at hs
  have hs2 : ¬ cmpB Q[j].1.1 Q[i].1.1 < 0 := of_decide_eq_false hs
  rw [zi.2.1, zj.2.1] at hs2
  simp only [List.getElem_map]
  exact qai.1 hs2
 have hes : Q.map (·.2) = qa4 l := by
  have hn2 : ((Q.map (·.2)).map (·.1)).Nodup := (hesl.map (fun x : En => x.1)).nodup_iff.2 hn
  exact qde (hesl.trans (jl l).symm) hn2 hsorted (qac l)
 have hwh : w'.heap = (w.heap.modify b' (onCells (putCells (fun v : Value => v) 0 (flatK encR 2 d')))) ++ os := by subst hw'; rfl
 have hother : ∀ k, k ≠ b' → k < w.heap.size → w'.heap[k]? = w.heap[k]? := by
  intro k hk hkl
  rw [hwh, Array.getElem?_append, if_pos (by simpa using hkl), Array.getElem?_modify, if_neg (Ne.symm hk)]
 have hself : w'.heap[b']? = some (.cells (putCells (fun v : Value => v) 0 (flatK encR 2 d') c) et (0, 0)) := by
  rw [hwh, Array.getElem?_append, if_pos (by simpa using hblk), Array.getElem?_modify, if_pos rfl, hh]
  rfl
 have hsize : w.heap.size ≤ w'.heap.size := by
  subst hw'
  simp [sortWorldK, grow, putRowK, putRow, mapBlock, Sort.ahead]
 have htop : w'.os = w.os ∧ w'.tape = w.tape ∧ w'.output = w.output := by subst hw'; exact ⟨rfl, rfl, rfl⟩
 have hne : ∀ k r, g k = r → (∀ i, r ≠ .obj i) → k ≠ b' := fun k r h hr he => by rw [he, hg] at h; exact hr 0 h.symm
 have hG : G g w g w' := by
  refine ⟨htop.1, htop.2.1, htop.2.2, hsize, fun k hk hgk => ⟨hother k (hne k _ hgk (by simp)) hk, hgk⟩, fun k r hk hgk => ⟨hother k (hne k _ hgk (by simp)) hk, hgk⟩,
   fun k r t hk hgk => ⟨r, some t, hgk, Nat.le_refl _, fun i u _ hu => by rw [zp (hother k (hne k _ hgk (by simp)) hk)]; exact hu⟩, fun k id hk hgk => ⟨hgk, ?_⟩⟩
  by_cases hkb : k = b'
  ·subst hkb
   rw [zm hh, zm hself]
   simp [putCells]
  ·exact Nat.le_of_eq (xy (hother k hkb hk)).symm
 refine ⟨_, g, [], rfl, hG, fun k hk => hd k (by omega), by simp [ASlot.toks], ⟨[], rfl, rfl, fun i u s hu => by simp at hu⟩, ⟨fun oid o hid hno => ?_, ho.inj, fun b oid hb => ?_⟩⟩
 ·match oid, hid with
  | 0, hid =>
   simp at hid
   subst hid
   have hle := (jl l).length_eq
   refine .inl ⟨b', hg, _, et, hself, by simp [putCells, qdd, hle]; omega, fun i s hi => ?_⟩
   rw [List.getElem?_map, Option.map_eq_some_iff] at hi
   obtain ⟨x, hx, rfl⟩ := hi
   have hil : i < n * 2 := by
    have := (List.getElem?_eq_some_iff.1 hx).1
    rw [qdd, hle, hln] at this
    exact this
   have hQi : i / 2 < Q.length := by omega
   obtain ⟨z1, z2, z3⟩ := hQ (i / 2) _ (List.getElem?_eq_getElem hQi)
   have hz : (qa4 l)[i / 2]? = some Q[i / 2].2 := by rw [← hes, List.getElem?_map, List.getElem?_eq_getElem hQi]; rfl
   obtain ⟨k1, k2⟩ := qlf _ _ _ hz
   have hcv : (putCells (fun v : Value => v) 0 (flatK encR 2 d') c)[i]? = some ((encR Q[i / 2].1)[i % 2]!) := by
    have hic : i < c.size := by omega
    simp only [putCells, Array.getElem?_mapIdx, Array.getElem?_eq_getElem hic, Option.map_some, size_flatK, hps, Nat.zero_le, true_and, Nat.zero_add, hil, if_true, Nat.sub_zero]
    rw [get_flatK encR 2 d' i (by rw [hps]; exact hil), z1]
   rcases Nat.mod_two_eq_zero_or_one i with hp | hp
   ·have e1 : 2 * (i / 2) = i := by omega
    rw [e1] at k1
    rw [k1] at hx; cases hx
    rw [hp] at hcv
    have hcs : (encR Q[i / 2].1)[0]! = .string ⟨Q[i / 2].2.1.toArray⟩ := by rw [← z2]; rfl
    rw [hcs] at hcv
    exact ⟨_, hcv, rfl, .str _⟩
   ·have e1 : 2 * (i / 2) + 1 = i := by omega
    rw [e1] at k2
    rw [k2] at hx; cases hx
    rw [hp] at hcv
    exact ⟨_, hcv, Q[i / 2].1.2.2, z3.mono (hG.rowsKept hd) (fun b id hb => hG.obj b id (hd.lt_obj hb) hb)⟩
  | i + 1, hid => simp at hid
 ·obtain ⟨o, h1, h2⟩ := ho.ids b oid hb
  match oid, h1 with
  | 0, h1 => exact ⟨_, rfl, by simp⟩
  | i + 1, h1 => simp at h1
end Go.Proofs.YtinnaedmdoengaaGreat
namespace Go.Proofs.YtinnaedmdoengaaGreat
open Go.Abs
set_option linter.unusedSimpArgs false
set_option linter.unusedVariables false
attribute [go_sem] ve
def pre (p k : List UInt8) : Bool := decide (p.length ≤ k.length) && k.take p.length == p
noncomputable section
set_option maxRecDepth 100000
def q8x : List SOper := [
 ⟨some 4, .mov (.k (.d (.bool false))), none⟩]
def q8y : List SOper := [
 ⟨some 5, .mov (.t 0), none⟩,
 ⟨some 6, .lenS (.t 5), none⟩,
 ⟨some 7, .mov (.t 1), none⟩,
 ⟨some 8, .lenS (.t 7), none⟩,
 ⟨some 9, .bin .geq (.t 6) (.t 8), none⟩,
 ⟨some 10, .mov (.t 9), none⟩,
 ⟨some 11, .mov (.t 0), some (10, true)⟩,
 ⟨some 12, .mov (.t 1), some (10, true)⟩,
 ⟨some 13, .lenS (.t 12), some (10, true)⟩,
 ⟨some 14, .sliceS (.t 11) none (some (.t 13)), some (10, true)⟩,
 ⟨some 15, .mov (.t 1), some (10, true)⟩,
 ⟨some 16, .bin .eql (.t 14) (.t 15), some (10, true)⟩,
 ⟨some 17, .pick (.t 10) (.t 16) (.k (.d (.bool false))), none⟩,
 ⟨some 4, .mov (.t 17), none⟩]
def s134 : SCode := (.seq (.region q8x 0 []) (.seq (.region q8y 0 []) .ret))
theorem zhu : qg s134.eq_1 := qh s134.eq_1
theorem xq2 : qa q8x.eq_1 := qc
theorem xq3 : qa q8y.eq_1 := qc
attribute [go_sem] xq2 xq3 zhu
theorem x9o : FnIs Tryz.prog 134 Tryz.f134 [] news s134 [.tmp 4] 18 := zc follows Tryz.func134
def xq4 : List SOper := [
 ⟨some 4, .mov (.k (.d (.bool false))), none⟩]
def xq5 : List SOper := [
 ⟨some 5, .mov (.t 0), none⟩,
 ⟨some 6, .mov (.t 1), none⟩,
 ⟨some 7, .call (.k (.d (.func (.func 134) [] []))) [(.t 5), (.t 6)], none⟩,
 ⟨some 4, .mov (.t 7), none⟩]
def s75 : SCode := (.seq (.region xq4 0 []) (.seq (.region xq5 0 []) .ret))
theorem e75 : qg s75.eq_1 := qh s75.eq_1
theorem x9p : qa xq4.eq_1 := qc
theorem x9q : qa xq5.eq_1 := qc
attribute [go_sem] x9p x9q e75
theorem F75 : FnIs Tryz.prog 75 Tryz.f75 [] news s75 [.tmp 4] 8 := zc follows Tryz.func75
end
theorem qfe (k p : List UInt8) : qo Tryz.prog 134 [.d (.str k), .d (.str p)] [] (.d (.bool (pre p k))) [] := by
 refine x9o.go ?_
 by_cases h : p.length ≤ k.length
 ·have hd : decide ((k.length : Int) ≥ (p.length : Int)) = true := by simpa using h
  have hd2 : decide (p.length ≤ k.length) = true := by simpa using h
  try (refine ev3 @pre.eq_1 @hd @hd2 ?_; try exact True.intro)
  (repeat (with_reducible refine ob ?_))
  try (refine ev2 @hd @Nat.sub_zero ?_; try exact True.intro)
 ·have hd : decide ((k.length : Int) ≥ (p.length : Int)) = false := by simpa using h
  have hd2 : decide (p.length ≤ k.length) = false := by simpa using h
  try (refine ev3 @pre.eq_1 @hd @hd2 ?_; try exact True.intro)
  (repeat (with_reducible refine ob ?_))
  try (refine ev1 @hd ?_; try exact True.intro)
theorem qg6 (k p : List UInt8) : qo Tryz.prog 75 [.d (.str k), .d (.str p)] [] (.d (.bool (pre p k))) [] := by
 refine F75.go ?_
 try (refine ev ?_; try exact True.intro)
 (repeat (with_reducible refine ob ?_)); first | refine cl x9o (qfe k p) ?_ | refine clF x9o (qfe k p) (fun _ => by (refine ev2 @qk.eq_1 @qn.eq_1 ?_; try exact True.intro)) ?_
 try (refine ev ?_; try exact True.intro)
noncomputable section
set_option maxRecDepth 100000
def q8z : List SOper := [
 ⟨some 4, .mov (.k (.d .nilsl)), none⟩]
def q80 : List SOper := [
 ⟨some 8, .mov (.t 0), none⟩,
 ⟨some 9, .eqnil false .ptr (.t 8), none⟩]
def q81 : List SOper := [
 ⟨some 4, .mov (.k (.d .nilsl)), none⟩]
def q82 : List SOper := [
 ⟨some 5, .mov (.k (.d .nilsl)), none⟩]
def q83 : List SOper := [
 ⟨some 10, .mov (.t 0), none⟩,
 ⟨some 11, .nilCheck (.t 10), none⟩,
 ⟨some 12, .faddr 2 (.t 11), none⟩,
 ⟨some 13, .load none (.t 12), none⟩,
 ⟨some 14, .rangeM 1 (.t 13), none⟩]
def q84 : List SOper := [
 ⟨some 15, .nextM (.t 14), none⟩,
 ⟨some 16, .extract 0 (.t 15), none⟩]
def q85 : List SOper := [
 ⟨some 17, .entryM (.t 14), none⟩,
 ⟨some 18, .extract 0 (.t 17), none⟩,
 ⟨some 19, .extract 1 (.t 17), none⟩,
 ⟨some 6, .mov (.t 18), none⟩,
 ⟨some 7, .mov (.t 19), none⟩]
def q86 : List SOper := [
 ⟨some 20, .mov (.t 6), none⟩,
 ⟨some 21, .mov (.t 1), none⟩,
 ⟨some 22, .call (.k (.d (.func (.func 75) [] []))) [(.t 20), (.t 21)], none⟩]
def q87 : List SOper := [
 ⟨some 23, .mov (.t 5), none⟩,
 ⟨some 24, .mov (.t 6), none⟩,
 ⟨some 25, .mov (.t 7), none⟩,
 ⟨some 26, .call (.k (.d (.func (.func 63) [] []))) [(.t 25)], none⟩,
 ⟨some 27, .build [(.str []), .nilsl] [(0, 1, (.t 24)), (1, 1, (.t 26))], none⟩,
 ⟨some 28, .buildSlice false 2 1 [(.str []), .nilsl] [(0, 2, (.t 27))], none⟩,
 ⟨some 29, .append true 2 40 (.t 23) (.t 28), none⟩,
 ⟨some 5, .mov (.t 29), none⟩]
def qy4 : SCode := (.seq (.region q84 0 []) (.seq (.cond (.t 16) .skip (.exit 0)) (.block 1 (.seq (.region q85 0 []) (.seq (.region q86 0 []) (.cond (.t 22) (.region q87 0 []) .skip))))))
theorem xq6 : qg qy4.eq_1 := qh qy4.eq_1
def qy5 : List SOper := [
 ⟨some 30, .mov (.t 5), none⟩,
 ⟨some 31, .call (.k (.d (.func (.func 76) [] []))) [(.t 30), (.k (.d (.func (.func 77) [] [])))], none⟩]
def qy6 : List SOper := [
 ⟨some 32, .mov (.t 5), none⟩,
 ⟨some 4, .mov (.t 32), none⟩]
def s33u : SCode := (.seq (.region q8z 0 []) (.seq (.seq (.region q80 0 []) (.cond (.t 9) (.seq (.region q81 0 []) (.pause .ret)) .skip)) (.seq (.region q82 0 []) (.seq (.seq (.region q83 1 []) (.block 0 (.loop qy4))) (.seq (.pause (.region qy5 0 [])) (.seq (.region qy6 0 []) (.pause .ret)))))))
theorem zhv : qg s33u.eq_1 := qh s33u.eq_1
theorem xq7 : qa q8z.eq_1 := qc
theorem xq8 : qa q80.eq_1 := qc
theorem xq9 : qa q81.eq_1 := qc
theorem xra : qa q82.eq_1 := qc
theorem xrb : qa q83.eq_1 := qc
theorem xrc : qa q84.eq_1 := qc
theorem xrd : qa q85.eq_1 := qc
theorem xre : qa q86.eq_1 := qc
theorem xrf : qa q87.eq_1 := qc
theorem xis : qa qy5.eq_1 := qc
theorem xit : qa qy6.eq_1 := qc
attribute [go_sem] xq7 xq8 xq9 xra xrb xrc xrd xre xrf xq6 xis xit zhv
theorem x9r : FnIs Tryz.prog 33 Tryz.f33 [29] news s33u [.tmp 4] 33 := zc follows Tryz.func33
def xrg : List SOper := [
 ⟨some 5, .mov (.t 0), none⟩,
 ⟨some 6, .len (.t 5), none⟩,
 ⟨some 4, .mov (.t 6), none⟩]
def xrh : List SOper := [
 ⟨some 7, .mov (.t 0), none⟩,
 ⟨some 8, .mov (.t 4), none⟩,
 ⟨some 9, .mov (.t 4), none⟩,
 ⟨some 10, .conv .u64 (.t 9), none⟩,
 ⟨some 11, .call (.k (.d (.func (.func 136) [] []))) [(.t 10)], none⟩,
 ⟨some 12, .mov (.t 1), none⟩,
 ⟨some 13, .call (.k (.d (.func (.func 135) [] []))) [(.t 7), (.k (.d (.int .i64 0))), (.t 8), (.t 11), (.t 12)], none⟩]
def s76 : SCode := (.seq (.region xrg 0 []) (.region xrh 0 []))
theorem e76 : qg s76.eq_1 := qh s76.eq_1
theorem x9s : qa xrg.eq_1 := qc
theorem x9t : qa xrh.eq_1 := qc
attribute [go_sem] x9s x9t e76
theorem F76 : FnIs Tryz.prog 76 Tryz.f76 [] news s76 [] 14 := zc follows Tryz.func76
end
theorem qr8 {α β : Type} {f : α → β} : ∀ {l : List α}, (l.map f).Nodup → ∀ {x y : α}, x ∈ l → y ∈ l → f x = f y → x = y
 | [], _, x, y, hx, _, _ => by cases hx
 | a :: l, hn, x, y, hx, hy, h => by
  simp only [List.map_cons, List.nodup_cons, List.mem_map, not_exists, not_and] at hn
  rcases List.mem_cons.1 hx with rfl | hx'
  ·rcases List.mem_cons.1 hy with rfl | hy'
   ·rfl
   ·exact absurd h.symm (hn.1 y hy')
  ·rcases List.mem_cons.1 hy with rfl | hy'
   ·exact absurd h (hn.1 x hx')
   ·exact qr8 hn.2 hx' hy' h
theorem wl {α β : Type} (f : α → β) : ∀ {l : List α}, (l.map f).Nodup → l.Nodup
 | [], _ => List.nodup_nil
 | a :: l, hn => by
  simp only [List.map_cons, List.nodup_cons, List.mem_map, not_exists, not_and] at hn ⊢
  exact ⟨fun h => hn.1 a h rfl, wl f hn.2⟩
theorem qto {α : Type} (f : α → Nat) : ∀ {l : List α}, (l.map f).Nodup → ∀ {x : α}, x ∈ l → (l.find? fun y => f y == f x) = some x
 | [], _, x, hx => by cases hx
 | a :: l, hn, x, hx => by
  rw [List.find?_cons]
  by_cases h : f a = f x
  ·have := qr8 hn (List.mem_cons_self ..) hx h
   subst this
   simp
  ·rw [beq_false_of_ne h]
   rcases List.mem_cons.1 hx with rfl | hx'
   ·exact absurd rfl h
   ·exact qto f (by simp only [List.map_cons, List.nodup_cons] at hn; exact hn.2) hx'
theorem qy7 {α : Type} [DecidableEq α] : ∀ {a b : List α}, a.Nodup → (∀ x ∈ a, x ∈ b) → a.length ≤ b.length
 | [], _, _, _ => Nat.zero_le _
 | x :: a, b, h, hs => by
  have hx := hs x (List.mem_cons_self ..)
  have h' := List.nodup_cons.1 h
  have := qy7 (a := a) (b := b.erase x) h'.2 fun y hy => (List.mem_erase_of_ne (by rintro rfl; exact h'.1 hy)).2 (hs y (List.mem_cons_of_mem _ hy))
  rw [List.length_erase_of_mem hx] at this
  have := List.length_pos_of_mem hx
  simp only [List.length_cons]; omega
theorem qvz (l : List En) : (l.map qn).flatten = qbk l := rfl
theorem qr9 (l : List En) : (qbk l).all D.isCell = true := by induction l <;> simp_all [qbk, qn, D.isCell]
attribute [go_sem] qvz qpq qr9
structure Cont.Ok (m : Cont) : Prop where
 num : (m.l.map (·.1)).Nodup
 lt : ∀ x ∈ m.l, x.1 < m.c
 key : (m.l.map (·.2.1)).Nodup
def enOf (x : KV) : En := (x.2.1, x.2.2)
def preL (p : List UInt8) (l : List KV) : List En := (l.filter fun x => pre p x.2.1).map enOf
def yl (m : Cont) (p : List UInt8) : List En := qa4 (preL p m.l)
theorem qpr {p : List UInt8} {l : List KV} (h : (l.map (·.2.1)).Nodup) : ((preL p l).map (·.1)).Nodup := by
 unfold preL
 rw [List.map_map]
 exact List.Nodup.sublist (List.Sublist.map _ List.filter_sublist) h
theorem qy8 {a b : List En} (h : a.Perm b) (hn : (a.map (·.1)).Nodup) : qa4 a = qa4 b := by
 have h1 := jl a
 have h2 := jl b
 refine qde (h1.trans (h.trans h2.symm)) ((h1.map (fun x : En => x.1)).nodup_iff.2 hn) (qac a) (qac b)
def qy9 (s : Sto) (p : List UInt8) (i : { i : List KV // (i.map (·.1)).Nodup ∧ ∀ x ∈ i, x ∈ s.m.l }) : St :=
 ⟨[(1, true, .d (.str p)), (5, true, .uni 0 2 ((preL p i.val).map qn)), (14, true, .d (.ptr 2 0))], [stoO s 1, mapO s.m, .iter (.d (.map 1)) s.m.c (i.val.map (·.1)) s.m.c], [0], 1⟩
set_option maxRecDepth 10000 in
theorem qza (s : Sto) (p : List UInt8) (hm : s.m.Ok) (hl : s.m.l.length ≤ 1000) (hv : ∀ x ∈ s.m.l, x.2.2.length ≤ 1000000) :
  qo Tryz.prog 33 [.d (.ptr 0 0), .d (.str p)] [stoO s 1, mapO s.m] (.d (.sl 2 ((yl s.m p).map qn))) [stoO s 1, mapO s.m] := by
 refine x9r.go ?_
 try (refine ev2 @stoO.eq_1 @mapO.eq_1 ?_; try exact True.intro)
 (repeat (with_reducible refine ob ?_)); refine no_ ?_
 try (refine ev ?_; try exact True.intro)
 refine xc (qy9 s p) (fun i => s.m.l.length - i.val.length) ⟨[], by simp, by simp⟩ ?_ (fun i => ?_)
 ·try (refine ev6 @qy9.eq_1 @stoO.eq_1 @mapO.eq_1 @preL.eq_1 @List.filter_nil.{0} @List.map_nil.{0,0} ?_; try exact True.intro)
 obtain ⟨i, hi1, hi2⟩ := i
 try (refine ev3 @qy9.eq_1 @stoO.eq_1 @mapO.eq_1 ?_; try exact True.intro)
 have hleft : qbt (s.m.l.map yk) (i.map (·.1)) = (s.m.l.filter fun x => !(i.map (·.1)).contains x.1).map yk := by
  unfold qbt
  rw [List.filter_map]; rfl
 have hone : ∀ x ∈ s.m.l, ∀ y ∈ s.m.l, x.1 = y.1 → x = y := fun x hx y hy h => qr8 hm.num hx hy h
 refine q3m (last := s.m.c) ⟨rfl, rfl, by intro e he; obtain ⟨x, hx, rfl⟩ := List.mem_map.1 he; exact hm.lt x hx, Nat.le_refl _⟩ (fun hl0 => ?_) (fun e he => ?_)
 ·
  rw [hleft, List.map_eq_nil_iff, List.filter_eq_nil_iff] at hl0
  have hall : ∀ x ∈ s.m.l, x ∈ i := by
   intro x hx
   have := hl0 x hx
   simp only [List.contains_eq_mem, decide_eq_true_eq, Bool.not_eq_true, Bool.not_eq_false', Bool.not_not] at this
   simp at this
   obtain ⟨a, b, hab⟩ := this
   have := hone x hx _ (hi2 _ hab) rfl
   rw [this]; exact hab
  have hperm : i.Perm s.m.l := by
   refine (List.perm_ext_iff_of_nodup (wl _ hi1) (wl _ hm.num)).2 fun x => ⟨hi2 x, hall x⟩
  have hpp : (preL p i).Perm (preL p s.m.l) := (hperm.filter _).map _
  have hpn : ((preL p i).map (·.1)).Nodup := by
   refine (hpp.map (fun x : En => x.1)).nodup_iff.2 ?_
   exact qpr hm.key
  have hsame : qa4 (preL p i) = yl s.m p := qy8 hpp hpn
  have hlen : (preL p i).length ≤ 1000 := by
   have h1 := hpp.length_eq
   have h2 : (preL p s.m.l).length ≤ s.m.l.length := by simp only [preL, List.length_map]; exact List.length_filter_le _ _
   omega
  try (refine ev1 @qij.eq_1 ?_; try exact True.intro)
  (repeat (with_reducible refine ob ?_)); refine no_ ?_
  try (refine ev ?_; try exact True.intro)
  refine qtg (.fr 5) 0 2 ((preL p i).map qn) ?_
  refine pu ?_
  try (refine ev ?_; try exact True.intro)
  refine clO [3] F76 (xir (preL p i) hpn (by omega)) ?_
  try (refine ev ?_; try exact True.intro)
  have hsl : (preL p i).length = (qa4 (preL p i)).length := (jl _).length_eq.symm
  rw [hsl]
  refine q58 3 2 ((qa4 (preL p i)).map qn) ?_ (hc := ?_) (hcc := ?_) (hes := ?_) (hok := D.okWR_noPtr (qat _))
  ·refine pu ?_
   try (refine ev1 @hsame ?_; try exact True.intro)
  ·try (refine ev ?_; try exact True.intro)
  ·try (refine ev ?_; try exact True.intro)
  ·intro r hr
   obtain ⟨x, _, rfl⟩ := List.mem_map.1 hr
   rfl
 ·rw [hleft] at he
  obtain ⟨x, hx, rfl⟩ := List.mem_map.1 he
  rw [List.mem_filter] at hx
  obtain ⟨hx1, hx2⟩ := hx
  have hx3 : x.1 ∉ i.map (·.1) := by simpa using hx2
  have hnext : ((i ++ [x]).map (·.1)).Nodup ∧ ∀ y ∈ i ++ [x], y ∈ s.m.l := by
   refine ⟨by rw [List.map_append]; exact List.nodup_append.2 ⟨hi1, by simp, fun a ha b hb h => by simp at hb; subst hb; subst h; exact hx3 ha⟩, fun y hy => ?_⟩
   rcases List.mem_append.1 hy with h | h
   ·exact hi2 y h
   ·simp at h; subst h; exact hx1
  have hil : i.length < s.m.l.length := by
   have := qy7 (wl _ hnext.1) hnext.2
   simp at this; omega
  have hpl : (preL p i).length ≤ i.length := by simp only [preL, List.length_map]; exact List.length_filter_le _ _
  try (refine ev1 @entV.eq_1 ?_; try exact True.intro)
  (repeat (with_reducible refine ob ?_)); refine qct ?_
  try (refine ev ?_; try exact True.intro)
  refine qxt (e := yk x) (mid := 1) (since := s.m.c) (seen := i.map (·.1) ++ [x.1]) (clock := s.m.c) (es := s.m.l.map yk) ⟨rfl, rfl, by simp [yk], ?_⟩ ?_
  ·rw [List.find?_map]
   have h1 : s.m.l.find? ((fun e : Nat × D × D => e.1 == (yk x).1) ∘ yk) = some x := qto (fun y : KV => y.1) hm.num hx1
   rw [h1]; rfl
  try (refine ev1 @yk.eq_1 ?_; try exact True.intro)
  (repeat (with_reducible refine ob ?_)); first | refine cl F75 (qg6 x.2.1 p) ?_ | refine clF F75 (qg6 x.2.1 p) (fun _ => by (refine ev2 @qk.eq_1 @qn.eq_1 ?_; try exact True.intro)) ?_
  try (refine ev ?_; try exact True.intro)
  (repeat (with_reducible refine ob ?_)); refine zk _ (fun h => ?_) (fun h => ?_)
  ·try (refine ev ?_; try exact True.intro)
   (repeat (with_reducible refine ob ?_)); first | refine cl F63 (ky x.2.2 (by have := hv x hx1; omega)) ?_ | refine clF F63 (ky x.2.2 (by have := hv x hx1; omega)) (fun _ => by (refine ev2 @qk.eq_1 @qn.eq_1 ?_; try exact True.intro)) ?_
   try (refine ev ?_; try exact True.intro)
   refine ⟨by omega, ?_⟩
   have hpx : preL p (i ++ [x]) = preL p i ++ [enOf x] := by simp [preL, h]
   refine ⟨⟨i ++ [x], hnext⟩, ?_, by simp only [List.length_append, List.length_singleton]; omega⟩
   try (refine ev7 @qy9.eq_1 @stoO.eq_1 @mapO.eq_1 @hpx @List.map_append.{0,0} @qn.eq_1 @enOf.eq_1 ?_; try exact True.intro)
  ·have hpx : preL p (i ++ [x]) = preL p i := by simp [preL, h]
   try (refine ev ?_; try exact True.intro)
   refine ⟨⟨i ++ [x], hnext⟩, ?_, by simp only [List.length_append, List.length_singleton]; omega⟩
   try (refine ev7 @qy9.eq_1 @stoO.eq_1 @mapO.eq_1 @hpx @List.map_append.{0,0} @qn.eq_1 @enOf.eq_1 ?_; try exact True.intro)
end Go.Proofs.YtinnaedmdoengaaGreat
namespace Go.Proofs.YtinnaedmdoengaaGreat
open Go.Abs
set_option linter.unusedSimpArgs false
set_option linter.unusedVariables false
theorem wm {k : List UInt8} {x : KV} : xr k x = true ↔ k = x.2.1 := by simp [xr]
theorem qjd {k v : List UInt8} : ∀ {l : List KV} {j : Nat}, l.findIdx? (xr k) = some j → ∀ k', (l.modify j fun e => (e.1, k, v)).find? (xr k') = if k' = k then some ((l[j]?.getD (0, [], [])).1, k, v) else l.find? (xr k')
 | [], j, h, k' => by simp at h
 | a :: l, j, h, k' => by
  rw [List.findIdx?_cons] at h
  by_cases ha : xr k a = true
  ·rw [if_pos ha] at h
   cases h
   simp only [List.modify_zero_cons, List.find?_cons, List.getElem?_cons_zero, Option.getD_some]
   by_cases hk : k' = k
   ·subst hk
    have : xr k' (a.1, k', v) = true := wm.2 rfl
    rw [this, if_pos rfl]
   ·have h1 : xr k' (a.1, k, v) = false := by simpa [xr] using hk
    have h2 : xr k' a = false := by rw [wm] at ha; simp [xr, ← ha, hk]
    rw [h1, h2, if_neg hk]
  ·rw [if_neg (by simpa using ha)] at h
   obtain ⟨i, hi, rfl⟩ := Option.map_eq_some_iff.1 h
   simp only [List.modify_succ_cons, List.find?_cons, List.getElem?_cons_succ]
   have ih := qjd (v := v) hi k'
   by_cases hk : k' = k
   ·subst hk
    have : xr k' a = false := by simpa using ha
    rw [this]
    exact ih
   ·cases h2 : xr k' a with
    | true => rw [if_neg hk]
    | false => rw [ih]
theorem qps {k : List UInt8} {l : List KV} (h : l.findIdx? (xr k) = none) : l.find? (xr k) = none := by
 rw [List.findIdx?_eq_none_iff] at h
 exact List.find?_eq_none.2 fun x hx => by rw [h x hx]; simp
theorem qtp (k v : List UInt8) (m : Cont) (k' : List UInt8) : mGet k' (mPut k v m) = if k' = k then some v else mGet k' m := by
 unfold mGet mPut
 cases h : m.l.findIdx? (xr k) with
 | some j =>
  simp only [qjd h k']
  split <;> rfl
 | none =>
  simp only [List.find?_append]
  by_cases hk : k' = k
  ·subst hk
   rw [qps h, if_pos rfl]
   simp [xr]
  ·rw [if_neg hk]
   have : [(m.c, k, v)].find? (xr k') = none := by simp [xr, hk]
   rw [this, Option.or_none]
theorem qlg {k v : List UInt8} : ∀ {l : List KV} {j : Nat}, l.findIdx? (xr k) = some j → (l.modify j fun e => (e.1, k, v)).map (·.2.1) = l.map (·.2.1) ∧ (l.modify j fun e => (e.1, k, v)).map (·.1) = l.map (·.1)
 | [], j, h => by simp at h
 | a :: l, j, h => by
  rw [List.findIdx?_cons] at h
  by_cases ha : xr k a = true
  ·rw [if_pos ha] at h
   cases h
   rw [wm] at ha
   simp only [List.modify_zero_cons, List.map_cons, ha, and_self]
  ·rw [if_neg (by simpa using ha)] at h
   obtain ⟨i, hi, rfl⟩ := Option.map_eq_some_iff.1 h
   obtain ⟨h1, h2⟩ := qlg (v := v) hi
   simp only [List.modify_succ_cons, List.map_cons, h1, h2, and_self]
theorem qlh {α : Type} {l : List α} {x : α} (h : l.Nodup) (hx : x ∉ l) : (l ++ [x]).Nodup :=
 List.nodup_append.2 ⟨h, by simp, fun a ha b hb e => by simp at hb; subst hb; subst e; exact hx ha⟩
theorem qje {m : Cont} (h : m.Ok) (k v : List UInt8) : (mPut k v m).Ok := by
 unfold mPut
 cases hf : m.l.findIdx? (xr k) with
 | some j =>
  obtain ⟨h1, h2⟩ := qlg (v := v) hf
  refine ⟨by simpa only [h2] using h.num, fun x hx => ?_, by simpa only [h1] using h.key⟩
  have : x.1 ∈ (m.l.modify j fun e => (e.1, k, v)).map (·.1) := List.mem_map_of_mem hx
  rw [h2] at this
  obtain ⟨y, hy, he⟩ := List.mem_map.1 this
  rw [← he]; exact h.lt y hy
 | none =>
  rw [List.findIdx?_eq_none_iff] at hf
  refine ⟨?_, fun x hx => ?_, ?_⟩
  ·rw [List.map_append]
   refine qlh h.num fun hm => ?_
   obtain ⟨y, hy, he⟩ := List.mem_map.1 hm
   have := h.lt y hy
   simp only at he
   omega
  ·simp only
   rcases List.mem_append.1 hx with hx | hx
   ·have := h.lt x hx; omega
   ·simp at hx; subst hx; simp
  ·rw [List.map_append]
   refine qlh h.key fun hm => ?_
   obtain ⟨y, hy, he⟩ := List.mem_map.1 hm
   have := hf y hy
   simp [xr, he] at this
theorem qff (k : List UInt8) (m : Cont) : (mDel k m).l.Sublist m.l := by
 unfold mDel
 split
 ·exact List.eraseIdx_sublist ..
 ·exact List.Sublist.refl _
theorem qjf {m : Cont} (h : m.Ok) (k : List UInt8) : (mDel k m).Ok :=
 ⟨List.Nodup.sublist ((qff k m).map _) h.num, fun x hx => by rw [q8q]; exact h.lt x ((qff k m).subset hx), List.Nodup.sublist ((qff k m).map _) h.key⟩
theorem qli {k : List UInt8} : ∀ {l : List KV} {j : Nat}, l.findIdx? (xr k) = some j → (l.map (·.2.1)).Nodup → ∀ k', (l.eraseIdx j).find? (xr k') = if k' = k then none else l.find? (xr k')
 | [], j, h, _, k' => by simp at h
 | a :: l, j, h, hn, k' => by
  rw [List.findIdx?_cons] at h
  simp only [List.map_cons, List.nodup_cons] at hn
  by_cases ha : xr k a = true
  ·rw [if_pos ha] at h
   cases h
   rw [wm] at ha
   simp only [List.eraseIdx_cons_zero, List.find?_cons]
   by_cases hk : k' = k
   ·subst hk
    rw [if_pos rfl]
    refine List.find?_eq_none.2 fun x hx hk => ?_
    rw [wm] at hk
    exact hn.1 (List.mem_map.2 ⟨x, hx, by rw [← ha, ← hk]⟩)
   ·rw [if_neg hk]
    have h2 : xr k' a = false := by simp [xr, ← ha, hk]
    rw [h2]
  ·rw [if_neg (by simpa using ha)] at h
   obtain ⟨i, hi, rfl⟩ := Option.map_eq_some_iff.1 h
   simp only [List.eraseIdx_cons_succ, List.find?_cons]
   have ih := qli hi hn.2 k'
   by_cases hk : k' = k
   ·subst hk
    have : xr k' a = false := by simpa using ha
    rw [this, if_pos rfl]
    rw [if_pos rfl] at ih
    exact ih
   ·cases h2 : xr k' a with
    | true => rw [if_neg hk]
    | false => rw [ih]
theorem qtq {m : Cont} (h : m.Ok) (k k' : List UInt8) : mGet k' (mDel k m) = if k' = k then none else mGet k' m := by
 unfold mGet mDel
 cases hf : m.l.findIdx? (xr k) with
 | some j =>
  simp only [qli hf h.key k']
  split <;> rfl
 | none =>
  simp only
  split
  ·rename_i hk; subst hk; rw [qps hf]; rfl
  ·rfl
theorem qtr (k : List UInt8) (m : Cont) : (mDel k m).l.length ≤ m.l.length := (qff k m).length_le
def kvOk (x : KV) : Prop := 1 ≤ x.2.1.length ∧ x.2.1.length ≤ 40 ∧ x.2.2.length ≤ 900
theorem q40 {k v : List UInt8} {m : Cont} {x : KV} (h : x ∈ (mPut k v m).l) : x ∈ m.l ∨ (x.2.1 = k ∧ x.2.2 = v) := by
 unfold mPut at h
 split at h
 ·rename_i j hj
  simp only at h
  obtain ⟨i, hi⟩ := List.getElem?_of_mem h
  rw [List.getElem?_modify] at hi
  cases hg : m.l[i]? with
  | none => rw [hg] at hi; cases hi
  | some y =>
   rw [hg] at hi
   simp only [Option.map_eq_map, Option.map_some, Option.some.injEq] at hi
   split at hi
   ·subst hi; exact .inr ⟨rfl, rfl⟩
   ·subst hi; exact .inl (List.mem_of_getElem? hg)
 ·rcases List.mem_append.1 h with h | h
  ·exact .inl h
  ·simp at h; subst h; exact .inr ⟨rfl, rfl⟩
structure Cont.Good (m : Cont) : Prop where
 ok : m.Ok
 few : m.l.length ≤ 400
 small : ∀ x ∈ m.l, kvOk x
theorem qb4 : ∀ (l : List OpS) {m : Cont}, m.Good → (∀ o ∈ l, zu o = true) → (jn m l).2 = true → (jn m l).1.Good
 | [], m, h, _, _ => h
 | o :: l, m, h, hp, hy => by
  rw [jn] at hy ⊢
  have ho := jg.1 (hp o (List.mem_cons_self ..))
  have hp' := fun x hx => hp x (List.mem_cons_of_mem _ hx)
  split at hy
  ·rename_i hd
   rw [if_pos hd]
   exact qb4 l ⟨qjf h.ok _, Nat.le_trans (qtr _ _) h.few, fun x hx => h.small x ((qff _ _).subset hx)⟩ hp' hy
  ·rename_i hd
   rw [if_neg hd]
   split at hy
   ·cases hy
   ·rename_i h4
    rw [if_neg h4]
    refine qb4 l ⟨qje h.ok _ _, by omega, fun x hx => ?_⟩ hp' hy
    rcases q40 hx with hx | ⟨h1, h2⟩
    ·exact h.small x hx
    ·exact ⟨by rw [h1]; exact ho.1, by rw [h1]; exact ho.2.1, by rw [h2]; exact ho.2.2.1⟩
theorem qjg (f r : List UInt8) (hr : r.length ≤ 2000) : (jz f r).length ≤ f.length + 70000 := by
 have := qja _ r (Nat.le_refl _)
 unfold jz
 rw [qjb _ _ (fun q hq => (jj _ r (Nat.le_refl _) q hq).2)]
 simp only; omega
structure Sto.Ok (n : Nat) (s : Sto) : Prop where
 good : s.m.Good
 file : s.file.length ≤ n * 70000
theorem qm0 (n : Nat) : newS.Ok n := by
 refine ⟨⟨⟨List.nodup_nil, fun x hx => (by cases hx), List.nodup_nil⟩, ?_, fun x hx => (by cases hx)⟩, ?_⟩
 ·simp only [newS, y5, List.length_nil, Nat.zero_le]
 ·simp only [newS, List.length_nil, Nat.zero_le]
theorem Sto.Ok.mono {n m : Nat} {s : Sto} (h : s.Ok n) (hn : n ≤ m) : s.Ok m := ⟨h.good, Nat.le_trans h.file (Nat.mul_le_mul_right _ hn)⟩
theorem qb5 (s : Sto) (l : List OpS) : ((xf s l).2 ≠ 0 ∧ (xf s l).1 = s) ∨ ((xf s l).2 = 0 ∧ (ql l).2 = 0 ∧ (jn s.m l).2 = true ∧ (xf s l).1 = ⟨jz s.file (ql l).1, s.synced, (jn s.m l).1⟩) := by
 unfold xf
 split
 ·exact .inl ⟨by assumption, rfl⟩
 ·split
  ·exact .inl ⟨by simp, rfl⟩
  ·rename_i h1 h2
   exact .inr ⟨rfl, by simpa using h1, by simpa using h2, rfl⟩
theorem qeb {n : Nat} {s : Sto} (h : s.Ok n) (l : List OpS) : (xf s l).1.Ok (n + 1) := by
 rcases qb5 s l with ⟨_, he⟩ | ⟨_, h1, h2, he⟩
 ·rw [he]; exact h.mono (Nat.le_succ _)
 ·rw [he]
  refine ⟨qb4 l h.good (jk h1).2.1 h2, ?_⟩
  have := qjg s.file _ (x9 l)
  have := h.file
  simp only; omega
theorem qgd {s : Sto} {l : List OpS} (hl : l.length ≤ 100000) (hf : s.file.length ≤ 100000000) (h : (xf s l).2 = 0) :
  qo Tryz.prog 14 [.d (.ptr 0 0), .d (.sl 3 (l.map qk))] [stoO s 1, mapO s.m] (.d (.int .i64 0)) [stoO (xf s l).1 2, mapO s.m, mapO (xf s l).1.m] := by
 have := qpo s l hl hf
 rw [qfa, if_pos h, h] at this
 exact this
theorem qzb {s : Sto} {l : List OpS} (hl : l.length ≤ 100000) (hf : s.file.length ≤ 100000000) (h : (xf s l).2 ≠ 0) :
  qo Tryz.prog 14 [.d (.ptr 0 0), .d (.sl 3 (l.map qk))] [stoO s 1, mapO s.m] (.d (.int .i64 (xf s l).2)) [stoO s 1, mapO s.m, .none] := by
 have := qpo s l hl hf
 rw [qfa, if_neg h] at this
 exact this
end Go.Proofs.YtinnaedmdoengaaGreat
namespace Go.Proofs.YtinnaedmdoengaaGreat
open Go.Abs
set_option linter.unusedSimpArgs false
set_option linter.unusedVariables false
theorem qdf : ∀ a b : List UInt8, Op.bytesLess a b = decide (cmpB a b < 0)
 | [], [] => rfl
 | [], _ :: _ => rfl
 | _ :: _, [] => rfl
 | a :: l, b :: m => by
  have ih := qdf l m
  simp only [cmpB] at ih
  simp only [Op.bytesLess, cmpB, Lib.compareBytes, ih]
  by_cases h1 : a < b
  ·simp [h1]
  ·by_cases h2 : b < a
   ·have : ¬ a = b := by rintro rfl; exact h1 h2
    simp [h1, h2, this]
   ·have : a = b := by
     apply UInt8.toNat_inj.1
     rw [UInt8.lt_iff_toNat_lt] at h1 h2
     omega
    simp [h1, h2, this]
def Sorted (l : List En) : Prop := l.Pairwise fun a b => cmpB a.1 b.1 < 0
theorem Sorted.keys {l : List En} (h : Sorted l) : (l.map (·.1)).Nodup := by
 unfold List.Nodup
 rw [List.pairwise_map]
 exact h.imp fun {a b} hab e => by rw [e, qfc] at hab; omega
theorem Sorted.le {l : List En} (h : Sorted l) : l.Pairwise fun a b => cmpB a.1 b.1 ≤ 0 := h.imp fun hab => Int.le_of_lt hab
theorem qge {l m : List En} (hl : Sorted l) (hm : Sorted m) (h : ∀ x, x ∈ l ↔ x ∈ m) : l = m :=
 qde ((List.perm_ext_iff_of_nodup (wl _ hl.keys) (wl _ hm.keys)).2 h) hl.keys hl.le hm.le
theorem qzd {l : List En} (h : l.Pairwise fun a b => cmpB a.1 b.1 ≤ 0) (hn : (l.map (·.1)).Nodup) : Sorted l := by
 unfold List.Nodup at hn
 rw [List.pairwise_map] at hn
 refine (h.and hn).imp fun {a b} hab => ?_
 obtain ⟨h1, h2⟩ := hab
 rcases Int.lt_or_eq_of_le h1 with h3 | h3
 ·exact h3
 ·exact (h2 (qfd h3)).elim
theorem qg7 {m : Cont} (h : m.Ok) (p : List UInt8) : Sorted (yl m p) := by
 refine qzd (qac _) ?_
 exact ((jl (preL p m.l)).map (fun x : En => x.1)).nodup_iff.2 (qpr h.key)
theorem qts : ∀ {l : List KV}, (l.map (·.2.1)).Nodup → ∀ {x : KV}, x ∈ l → l.find? (xr x.2.1) = some x
 | [], _, x, hx => by cases hx
 | a :: l, hn, x, hx => by
  rw [List.find?_cons]
  simp only [List.map_cons, List.nodup_cons] at hn
  rcases List.mem_cons.1 hx with rfl | hx'
  ·rw [wm.2 rfl]
  ·have : xr x.2.1 a = false := by
    cases h : xr x.2.1 a with
    | false => rfl
    | true => exact (hn.1 (List.mem_map.2 ⟨x, hx', wm.1 h⟩)).elim
   rw [this]
   exact qts hn.2 hx'
theorem qpt {m : Cont} (h : m.Ok) (p : List UInt8) (x : En) : x ∈ yl m p ↔ mGet x.1 m = some x.2 ∧ pre p x.1 = true := by
 rw [yl, (jl _).mem_iff, preL, List.mem_map]
 constructor
 ·rintro ⟨y, hy, rfl⟩
  obtain ⟨h1, h2⟩ := List.mem_filter.1 hy
  refine ⟨?_, h2⟩
  unfold mGet enOf
  rw [qts h.key h1]; rfl
 ·rintro ⟨h1, h2⟩
  unfold mGet at h1
  rw [Option.map_eq_some_iff] at h1
  obtain ⟨y, hy, he⟩ := h1
  have hk := wm.1 (List.find?_some hy)
  refine ⟨y, List.mem_filter.2 ⟨List.mem_of_find?_eq_some hy, by rw [← hk]; exact h2⟩, ?_⟩
  unfold enOf
  rw [← hk, he]
theorem qze (k : List UInt8) : pre [] k = true := by simp [pre]
def eSet (x : En) : List En → List En
 | [] => [x]
 | y :: l => if Op.bytesLess y.1 x.1 = true then y :: eSet x l else if y.1 = x.1 then x :: l else x :: y :: l
def eDel (k : List UInt8) (l : List En) : List En := l.filter fun e => !(e.1 == k)
def eOp (l : List En) (o : OpS) : List En := if o.del then eDel o.key l else eSet (o.key, o.val) l
def jx : List En → List OpS → List En × Bool
 | l, [] => (l, true)
 | l, o :: r => if (eOp l o).length > 400 then ([], false) else jx (eOp l o) r
theorem qm1 {x : En} : ∀ {l : List En}, Sorted l → ∀ y, y ∈ eSet x l ↔ y = x ∨ (y ∈ l ∧ y.1 ≠ x.1)
 | [], _, y => by simp [eSet]
 | a :: l, h, y => by
  have h' := List.pairwise_cons.1 h
  rw [eSet]
  split
  ·rename_i hlt
   rw [qdf, decide_eq_true_eq] at hlt
   have hne : a.1 ≠ x.1 := fun e => by rw [e, qfc] at hlt; omega
   rw [List.mem_cons, qm1 h'.2, List.mem_cons]
   constructor
   ·rintro (rfl | h1 | ⟨h1, h2⟩)
    ·exact .inr ⟨.inl rfl, hne⟩
    ·exact .inl h1
    ·exact .inr ⟨.inr h1, h2⟩
   ·rintro (h1 | ⟨rfl | h1, h2⟩)
    ·exact .inr (.inl h1)
    ·exact .inl rfl
    ·exact .inr (.inr ⟨h1, h2⟩)
  ·rename_i hlt
   rw [qdf, decide_eq_true_eq] at hlt
   have hge : cmpB x.1 a.1 ≤ 0 := qai.1 hlt
   have hgt : ∀ z ∈ l, z.1 ≠ x.1 := fun z hz e => by
    have h1 := h'.1 z hz
    rw [e] at h1
    have := qcx a.1 x.1
    omega
   split
   ·rename_i he
    simp only [List.mem_cons]
    constructor
    ·rintro (h1 | h1)
     ·exact .inl h1
     ·exact .inr ⟨.inr h1, hgt y h1⟩
    ·rintro (h1 | ⟨rfl | h1, h2⟩)
     ·exact .inl h1
     ·exact (h2 he).elim
     ·exact .inr h1
   ·rename_i he
    simp only [List.mem_cons]
    constructor
    ·rintro (h1 | rfl | h1)
     ·exact .inl h1
     ·exact .inr ⟨.inl rfl, he⟩
     ·exact .inr ⟨.inr h1, hgt y h1⟩
    ·rintro (h1 | ⟨h1 | h1, h2⟩)
     ·exact .inl h1
     ·exact .inr (.inl h1)
     ·exact .inr (.inr h1)
theorem qjh {x : En} : ∀ {l : List En}, Sorted l → Sorted (eSet x l)
 | [], _ => List.pairwise_singleton _ _
 | a :: l, h => by
  have h' := List.pairwise_cons.1 h
  rw [eSet]
  split
  ·rename_i hlt
   rw [qdf, decide_eq_true_eq] at hlt
   refine List.pairwise_cons.2 ⟨fun y hy => ?_, qjh h'.2⟩
   rcases (qm1 h'.2 y).1 hy with rfl | ⟨h1, _⟩
   ·exact hlt
   ·exact h'.1 y h1
  ·rename_i hlt
   rw [qdf, decide_eq_true_eq] at hlt
   have hge : cmpB x.1 a.1 ≤ 0 := qai.1 hlt
   split
   ·rename_i he
    exact List.pairwise_cons.2 ⟨fun y hy => by rw [← he]; exact h'.1 y hy, h'.2⟩
   ·rename_i he
    have hx : cmpB x.1 a.1 < 0 := by
     rcases Int.lt_or_eq_of_le hge with h1 | h1
     ·exact h1
     ·exact (he (qfd h1).symm).elim
    refine List.pairwise_cons.2 ⟨fun y hy => ?_, h⟩
    rcases List.mem_cons.1 hy with rfl | hy
    ·exact hx
    ·exact (qbj hge (Int.le_of_lt (h'.1 y hy))).2 (.inl hx)
theorem qsa {k : List UInt8} {l : List En} (h : Sorted l) : Sorted (eDel k l) := List.Pairwise.filter _ h
def qy (m : Cont) : List En := yl m []
theorem vy {m : Cont} (h : m.Ok) : Sorted (qy m) := qg7 h []
theorem qb6 {m : Cont} (h : m.Ok) (x : En) : x ∈ qy m ↔ mGet x.1 m = some x.2 := by
 rw [qy, qpt h, qze]; simp
theorem yn {m : Cont} : (qy m).length = m.l.length := by
 have h1 : preL [] m.l = m.l.map enOf := by
  unfold preL
  congr 1
  exact List.filter_eq_self.2 fun x _ => qze _
 rw [qy, yl, (jl _).length_eq, h1, List.length_map]
theorem q41 {m : Cont} (h : m.Ok) (k v : List UInt8) : qy (mPut k v m) = eSet (k, v) (qy m) := by
 have hs := vy h
 refine qge (vy (qje h k v)) (qjh hs) fun x => ?_
 rw [qb6 (qje h k v), qm1 hs, qb6 h, qtp]
 obtain ⟨a, b⟩ := x
 simp only [Prod.mk.injEq]
 by_cases hk : a = k
 ·subst hk; simp [eq_comm]
 ·simp [hk]
theorem q42 {m : Cont} (h : m.Ok) (k : List UInt8) : qy (mDel k m) = eDel k (qy m) := by
 have hs := vy h
 refine qge (vy (qjf h k)) (qsa hs) fun x => ?_
 rw [qb6 (qjf h k), eDel, List.mem_filter, qb6 h, qtq h]
 by_cases hk : x.1 = k <;> simp [hk]
theorem qbl : ∀ (l : List OpS) {m : Cont}, m.Ok → m.l.length ≤ 400 → (jn m l).2 = (jx (qy m) l).2 ∧ ((jn m l).2 = true → qy (jn m l).1 = (jx (qy m) l).1 ∧ (jn m l).1.Ok ∧ (jn m l).1.l.length ≤ 400)
 | [], m, h, hl => ⟨rfl, fun _ => ⟨rfl, h, hl⟩⟩
 | o :: l, m, h, hl => by
  rw [jn, jx, eOp]
  by_cases hd : o.del = true
  ·have hle := qtr o.key m
   rw [if_pos hd, if_pos hd, ← q42 h, yn, if_neg (by omega)]
   exact qbl l (qjf h _) (by omega)
  ·rw [if_neg hd, if_neg hd, ← q41 h, yn]
   by_cases h4 : (mPut o.key o.val m).l.length > 400
   ·rw [if_pos h4, if_pos h4]
    exact ⟨rfl, fun e => by cases e⟩
   ·rw [if_neg h4, if_neg h4]
    exact qbl l (qje h _ _) (by omega)
def eGet (k : List UInt8) (l : List En) : Option (List UInt8) := (l.find? fun e => e.1 == k).map (·.2)
theorem q43 {m : Cont} (h : m.Ok) (k : List UInt8) : eGet k (qy m) = mGet k m := by
 unfold eGet
 cases hf : (qy m).find? (fun e => e.1 == k) with
 | none =>
  cases hg : mGet k m with
  | none => rfl
  | some v =>
   have := (qb6 h (k, v)).2 hg
   have := List.find?_eq_none.1 hf _ this
   simp at this
 | some x =>
  have h1 := (qb6 h x).1 (List.mem_of_find?_eq_some hf)
  have h2 : x.1 = k := by simpa using List.find?_some hf
  rw [← h2, h1]; rfl
def qhn (p : List UInt8) (l : List En) : List En := l.filter fun e => pre p e.1
theorem qzf {m : Cont} (h : m.Ok) (p : List UInt8) : yl m p = qhn p (qy m) := by
 refine qge (qg7 h p) (List.Pairwise.filter _ (vy h)) fun x => ?_
 rw [qpt h, qhn, List.mem_filter, qb6 h]
end Go.Proofs.YtinnaedmdoengaaGreat
namespace Go.Proofs.YtinnaedmdoengaaGreat
open Go.Abs
set_option linter.unusedSimpArgs false
set_option linter.unusedVariables false
def qr (b : List UInt8) (p : Nat) : List UInt8 := (b.drop p).take 24
def yz (b : List UInt8) (p : Nat) : List UInt8 := (b.drop (p + 24)).take 8
def j0 (h : List UInt8) : Nat := (h.getD 0 0).toNat
def numB (h : List UInt8) : Nat := (h.getD 1 0).toNat
def qau (h : List UInt8) (before : Nat) : Bool :=
 (decide (j0 h = 1) || decide (j0 h = 2)) && decide (numB h ≤ 22) && decide (before + numB h ≤ 2000) && !(decide (j0 h = 1) && decide (numB h ≠ 22)) && !(decide (j0 h = 2) && decide (numB h = 0) && decide (0 < before)) && (h.drop (2 + numB h)).all (fun c => c == 0)
structure Rds where
 pos : Nat
 seed : Nat
 now : List UInt8
 recs : List (List UInt8)
 ends : List Nat
 deriving Inhabited
def Rds.used (s : Rds) : Nat := s.ends.getLastD 0
def cNow (b : List UInt8) (s : Rds) : List UInt8 := s.now ++ ((qr b s.pos).drop 2).take (numB (qr b s.pos))
def qb7 (b : List UInt8) (s : Rds) : Rds :=
 if j0 (qr b s.pos) = 2 then ⟨s.pos + 32, fnv s.seed (qr b s.pos), [], s.recs ++ [cNow b s], s.ends ++ [s.pos + 32]⟩
 else ⟨s.pos + 32, fnv s.seed (qr b s.pos), cNow b s, s.recs, s.ends⟩
def cErr (b : List UInt8) (s : Rds) : Option Int :=
 if be8 (fnv s.seed (qr b s.pos)) = yz b s.pos then (if qau (qr b s.pos) s.now.length = true then none else some 4) else some 5
theorem qpu (b : List UInt8) (s : Rds) : (qb7 b s).pos = s.pos + 32 := by unfold qb7; split <;> rfl
def jq (b : List UInt8) (s : Rds) : Rds × Int :=
 if h : s.pos + 32 ≤ b.length then
  match cErr b s with
  | some e => (s, e)
  | none => jq b (qb7 b s)
 else (s, if s.used = b.length then 0 else 4)
termination_by b.length - s.pos
decreasing_by rw [qpu]; omega
def qv0 : Nat := 14695981039346656037
def rds0 : Rds := ⟨0, qv0, [], [], []⟩
theorem qcy {b : List UInt8} {s : Rds} {e : Int} (h : s.pos + 32 ≤ b.length) (he : cErr b s = some e) : jq b s = (s, e) := by
 rw [jq, dif_pos h, he]
theorem qdg {b : List UInt8} {s : Rds} (h : s.pos + 32 ≤ b.length) (he : cErr b s = none) : jq b s = jq b (qb7 b s) := by
 rw [jq, dif_pos h, he]
theorem qbm {b : List UInt8} {s : Rds} (h : ¬ s.pos + 32 ≤ b.length) : jq b s = (s, if s.used = b.length then 0 else 4) := by
 rw [jq, dif_neg h]
structure Rds.Ok (b : List UInt8) (s : Rds) : Prop where
 pos : s.pos ≤ b.length
 seed : s.seed < 18446744073709551616
 now : s.now.length ≤ 2000
 recs : s.recs.length ≤ s.pos
 ends : s.ends.length ≤ s.pos
 used : s.used ≤ s.pos
 small : ∀ r ∈ s.recs, r.length ≤ 2000
theorem qcz (b : List UInt8) : rds0.Ok b := ⟨Nat.zero_le _, by decide, by simp [rds0], by simp [rds0], by simp [rds0], by simp [rds0, Rds.used], by simp [rds0]⟩
theorem qfg (l : List Nat) (x d : Nat) : (l ++ [x]).getLastD d = x := by simp
theorem qzg {b : List UInt8} {s : Rds} (h : cErr b s = none) : be8 (fnv s.seed (qr b s.pos)) = yz b s.pos ∧ qau (qr b s.pos) s.now.length = true := by
 unfold cErr at h
 split at h
 ·split at h
  ·exact ⟨by assumption, by assumption⟩
  ·cases h
 ·cases h
theorem vm {h : List UInt8} {n : Nat} : qau h n = true ↔ (j0 h = 1 ∨ j0 h = 2) ∧ numB h ≤ 22 ∧ n + numB h ≤ 2000 ∧ (j0 h = 1 → numB h = 22) ∧ (j0 h = 2 → numB h = 0 → n = 0) ∧ (h.drop (2 + numB h)).all (fun c => c == 0) = true := by
 unfold qau
 simp only [Bool.and_eq_true, Bool.or_eq_true, Bool.not_eq_true', Bool.and_eq_false_iff, decide_eq_true_eq, decide_eq_false_iff_not]
 constructor
 ·rintro ⟨⟨⟨⟨⟨h1, h2⟩, h3⟩, h4⟩, h5⟩, h6⟩
  exact ⟨h1, h2, h3, by omega, by omega, h6⟩
 ·rintro ⟨h1, h2, h3, h4, h5, h6⟩
  exact ⟨⟨⟨⟨⟨h1, h2⟩, h3⟩, by omega⟩, by omega⟩, h6⟩
theorem qm2 {b : List UInt8} {s : Rds} (h : cErr b s = none) : (cNow b s).length ≤ 2000 := by
 obtain ⟨_, h2⟩ := qzg h
 obtain ⟨_, _, h3, _⟩ := vm.1 h2
 unfold cNow
 rw [List.length_append, List.length_take]
 omega
theorem qm3 {b : List UInt8} {s : Rds} (hs : s.Ok b) (h : s.pos + 32 ≤ b.length) (he : cErr b s = none) : (qb7 b s).Ok b := by
 have hn := qm2 he
 have hf := qe8 hs.seed (qr b s.pos)
 have h1 := hs.recs
 have h2 := hs.ends
 have h3 := hs.used
 unfold qb7
 split
 ·refine ⟨h, hf, by simp, by simp; omega, by simp; omega, by simp [Rds.used], fun r hr => ?_⟩
  rcases List.mem_append.1 hr with hr | hr
  ·exact hs.small r hr
  ·simp at hr; subst hr; exact hn
 ·exact ⟨h, hf, hn, by simp only; omega, by simp only; omega, by simp only [Rds.used] at h3 ⊢; omega, hs.small⟩
theorem qb8 {b : List UInt8} {s : Rds} (hs : s.Ok b) : (jq b s).1.Ok b := by
 by_cases h : s.pos + 32 ≤ b.length
 ·cases he : cErr b s with
  | some e => rw [qcy h he]; exact hs
  | none => rw [qdg h he]; exact qb8 (qm3 hs h he)
 ·rw [qbm h]; exact hs
termination_by b.length - s.pos
decreasing_by rw [qpu]; omega
def x7 : Nat → List (Nat × List UInt8) → List UInt8
 | _, [] => []
 | h, p :: l => xm p ++ be8 (fnv h (xm p)) ++ x7 (fnv h (xm p)) l
def qaw : Nat → List (Nat × List UInt8) → Nat
 | h, [] => h
 | h, p :: l => qaw (fnv h (xm p)) l
theorem qv1 (x : List UInt8) (h : Nat) (l : List (Nat × List UInt8)) : ji (x, h) l = (x ++ x7 h l, qaw h l) := by
 induction l generalizing x h with
 | nil => simp [ji, x7, qaw]
 | cons p l ih =>
  have : ji (x, h) (p :: l) = ji (qbi (x, h) p) l := rfl
  rw [this, qbi, ih, x7, qaw]
  simp only [List.append_assoc]
theorem qdh {h : Nat} {l : List (Nat × List UInt8)} (hl : ∀ p ∈ l, p.2.length ≤ 22) : (x7 h l).length = 32 * l.length := by
 induction l generalizing h with
 | nil => simp [x7]
 | cons p l ih =>
  rw [x7, List.length_append, List.length_append, ja, k9 (hl p List.mem_cons_self), ih (fun q hq => hl q (List.mem_cons_of_mem _ hq)), List.length_cons]
  omega
theorem q44 {h : Nat} (hh : h < 18446744073709551616) (l : List (Nat × List UInt8)) : qaw h l < 18446744073709551616 := by
 induction l generalizing h with
 | nil => exact hh
 | cons p l ih => exact ih (qe8 hh _)
theorem qpv {b rest : List UInt8} {s : Rds} {p : Nat × List UInt8} (hp : p.1 = 1 ∨ p.1 = 2) (hl : p.2.length ≤ 22) (hb : b.drop s.pos = xm p ++ be8 (fnv s.seed (xm p)) ++ rest) :
  s.pos + 32 ≤ b.length ∧ qr b s.pos = xm p ∧ yz b s.pos = be8 (fnv s.seed (xm p)) := by
 have h24 := k9 hl
 have hlen := congrArg List.length hb
 simp only [List.length_drop, List.length_append, h24, ja] at hlen
 refine ⟨by omega, ?_, ?_⟩
 ·rw [qr, hb, List.append_assoc, ← h24, List.take_left]
 ·rw [yz, ← List.drop_drop, hb, List.append_assoc, ← h24, List.drop_left, ← ja (fnv s.seed (xm p)), List.take_left]
theorem qji {p : Nat × List UInt8} (hp : p.1 = 1 ∨ p.1 = 2) : j0 (xm p) = p.1 := by
 unfold j0 xm
 rcases hp with h | h <;> rw [h] <;> rfl
theorem qlk {p : Nat × List UInt8} (hl : p.2.length ≤ 22) : numB (xm p) = p.2.length := by
 unfold numB xm
 simp only [List.cons_append, List.nil_append, List.getD_cons_succ, List.getD_cons_zero, UInt8.toNat_ofNat']
 omega
theorem qsb (p : Nat × List UInt8) : ((xm p).drop 2).take p.2.length = p.2 := by
 unfold xm
 simp only [List.cons_append, List.nil_append, List.drop_succ_cons, List.drop_zero, List.take_left]
theorem qv2 (p : Nat × List UInt8) : ((xm p).drop (2 + p.2.length)).all (fun c => c == 0) = true := by
 rw [← List.drop_drop]
 unfold xm
 simp only [List.cons_append, List.nil_append, List.drop_succ_cons, List.drop_zero, List.drop_left]
 simp
theorem qjj {b rest : List UInt8} {s : Rds} {p : Nat × List UInt8} (hp : p.1 = 1 ∨ p.1 = 2) (hl : p.2.length ≤ 22) (h22 : p.1 = 1 → p.2.length = 22) (h0 : p.1 = 2 → p.2.length = 0 → s.now.length = 0) (hn : s.now.length + p.2.length ≤ 2000)
  (hb : b.drop s.pos = xm p ++ be8 (fnv s.seed (xm p)) ++ rest) :
  jq b s = jq b (if p.1 = 2 then ⟨s.pos + 32, fnv s.seed (xm p), [], s.recs ++ [s.now ++ p.2], s.ends ++ [s.pos + 32]⟩ else ⟨s.pos + 32, fnv s.seed (xm p), s.now ++ p.2, s.recs, s.ends⟩) := by
 obtain ⟨h1, h2, h3⟩ := qpv hp hl hb
 have he : cErr b s = none := by
  unfold cErr
  rw [h2, h3, if_pos rfl, if_pos]
  refine vm.2 ?_
  rw [qji hp, qlk hl]
  exact ⟨hp, hl, hn, h22, h0, qv2 p⟩
 rw [qdg h1 he]
 unfold qb7 cNow
 rw [h2, qji hp, qlk hl, qsb]
theorem qtt : ∀ (n : Nat) {r b rest : List UInt8} {s : Rds}, r.length ≤ n → (s.now.length = 0 ∨ 0 < r.length) → s.now.length + r.length ≤ 2000 → b.drop s.pos = x7 s.seed (partsOf r) ++ rest →
  jq b s = jq b ⟨s.pos + 32 * (partsOf r).length, qaw s.seed (partsOf r), [], s.recs ++ [s.now ++ r], s.ends ++ [s.pos + 32 * (partsOf r).length]⟩
 | n, r, b, rest, s, hr, h0, hn, hb => by
  by_cases h : r.length > 22
  ·have ht : (r.take 22).length = 22 := by rw [List.length_take]; omega
   rw [jv h] at hb ⊢
   rw [x7, List.append_assoc] at hb
   have hc := qjj (p := (1, r.take 22)) (s := s) (b := b) (.inl rfl) (by simp only; omega) (fun _ => ht) (fun h => by cases h) (by simp only; omega) hb
   rw [hc]
   simp only [show ¬ (1 : Nat) = 2 by decide, if_false]
   cases n with
   | zero => omega
   | succ n =>
    have hd := (qpv (p := (1, r.take 22)) (.inl rfl) (by simp only; omega) hb).1
    have hb2 : b.drop (s.pos + 32) = x7 (fnv s.seed (xm (1, r.take 22))) (partsOf (r.drop 22)) ++ rest := by
     have h24 := k9 (p := (1, r.take 22)) (by simp only; omega)
     rw [← List.drop_drop, hb]
     exact List.drop_left' (by rw [List.length_append, h24, ja])
    have ih := qtt n (r := r.drop 22) (b := b) (rest := rest) (s := ⟨s.pos + 32, fnv s.seed (xm (1, r.take 22)), s.now ++ r.take 22, s.recs, s.ends⟩) (by rw [List.length_drop]; omega) (.inr (by rw [List.length_drop]; omega))
     (by simp only [List.length_append, List.length_drop, ht]; omega) (by simp only; exact hb2)
    rw [ih]
    simp only [List.append_assoc, List.take_append_drop, List.length_cons, qaw]
    have e : s.pos + 32 + 32 * (partsOf (r.drop 22)).length = s.pos + 32 * ((partsOf (r.drop 22)).length + 1) := by omega
    rw [e]
  ·rw [jw h] at hb ⊢
   rw [x7, List.append_assoc] at hb
   have hc := qjj (p := (2, r)) (s := s) (b := b) (.inr rfl) (by simp only; omega) (fun h => by cases h) (fun _ h1 => by simp only at h1; omega) hn hb
   rw [hc]
   simp only [if_true, List.length_singleton, qaw, Nat.mul_one]
theorem qzh : ∀ (n : Nat) {r b : List UInt8} {m : Nat} {s : Rds}, r.length ≤ n → (s.now.length = 0 ∨ 0 < r.length) → s.now.length + r.length ≤ 2000 → b.drop s.pos = (x7 s.seed (partsOf r)).take m → s.pos ≤ b.length → m < (x7 s.seed (partsOf r)).length →
  (jq b s).1.recs = s.recs ∧ (jq b s).1.ends = s.ends ∧ ((jq b s).2 = 0 ∨ (jq b s).2 = 4)
 | n, r, b, m, s, hr, h0, hn, hb, hpos, hm => by
  have hps := jj _ r (Nat.le_refl _)
  have hlen := congrArg List.length hb
  rw [List.length_drop, List.length_take, Nat.min_eq_left (Nat.le_of_lt hm)] at hlen
  rw [qdh (fun p hp => (hps p hp).2)] at hm
  by_cases h32 : m < 32
  ·rw [qbm (by omega)]
   exact ⟨rfl, rfl, by simp only; split <;> simp⟩
  ·by_cases h : r.length > 22
   ·have ht : (r.take 22).length = 22 := by rw [List.length_take]; omega
    rw [jv h] at hb hm
    rw [x7] at hb
    have h24 := k9 (p := (1, r.take 22)) (by simp only; omega)
    have h8 : (xm (1, r.take 22) ++ be8 (fnv s.seed (xm (1, r.take 22)))).length = 32 := by rw [List.length_append, h24, ja]
    rw [List.take_append, List.take_of_length_le (by omega), h8] at hb
    have hc := qjj (p := (1, r.take 22)) (s := s) (b := b) (.inl rfl) (by simp only; omega) (fun _ => ht) (fun h => by cases h) (by simp only; omega) hb
    rw [hc]
    simp only [show ¬ (1 : Nat) = 2 by decide, if_false]
    cases n with
    | zero => omega
    | succ n =>
     have hb2 : b.drop (s.pos + 32) = (x7 (fnv s.seed (xm (1, r.take 22))) (partsOf (r.drop 22))).take (m - 32) := by
      rw [← List.drop_drop, hb]
      exact List.drop_left' h8
     have hps2 := jj _ (r.drop 22) (Nat.le_refl _)
     exact qzh n (r := r.drop 22) (b := b) (m := m - 32) (s := ⟨s.pos + 32, fnv s.seed (xm (1, r.take 22)), s.now ++ r.take 22, s.recs, s.ends⟩) (by rw [List.length_drop]; omega) (.inr (by rw [List.length_drop]; omega))
      (by simp only [List.length_append, List.length_drop, ht]; omega) (by simp only; exact hb2) (by simp only; omega) (by rw [qdh (fun p hp => (hps2 p hp).2)]; rw [List.length_cons] at hm; omega)
   ·rw [jw h] at hm
    simp at hm
    omega
end Go.Proofs.YtinnaedmdoengaaGreat
namespace Go.Proofs.YtinnaedmdoengaaGreat
open Go.Abs
set_option linter.unusedSimpArgs false
set_option linter.unusedVariables false
theorem qzi {h : Nat} (hh : h < 18446744073709551616) : qhl (be8 h) = h := by
 have e : ∀ x : Nat, (UInt8.ofNat x).toNat = x % 256 := fun x => UInt8.toNat_ofNat'
 simp only [qhl, be8, List.foldl_cons, List.foldl_nil, num1, e]
 have p0 : (256 : Nat) ^ 0 = 1 := rfl
 have p1 : (256 : Nat) ^ 1 = 256 := rfl
 have p2 : (256 : Nat) ^ 2 = 65536 := rfl
 have p3 : (256 : Nat) ^ 3 = 16777216 := rfl
 have p4 : (256 : Nat) ^ 4 = 4294967296 := rfl
 have p5 : (256 : Nat) ^ 5 = 1099511627776 := rfl
 have p6 : (256 : Nat) ^ 6 = 281474976710656 := rfl
 have p7 : (256 : Nat) ^ 7 = 72057594037927936 := rfl
 rw [p0, p1, p2, p3, p4, p5, p6, p7]
 omega
theorem qjk : ∀ (l : List (Nat × List UInt8)) {h : Nat}, l ≠ [] → ∃ q, x7 h l = q ++ be8 (qaw h l)
 | [], _, hn => (hn rfl).elim
 | [p], h, _ => ⟨xm p, by simp [x7, qaw]⟩
 | p :: p' :: l, h, _ => by
  obtain ⟨q, hq⟩ := qjk (p' :: l) (h := fnv h (xm p)) (by simp)
  refine ⟨xm p ++ be8 (fnv h (xm p)) ++ q, ?_⟩
  have e : qaw h (p :: p' :: l) = qaw (fnv h (xm p)) (p' :: l) := by rw [qaw]
  rw [x7, hq, e, ← List.append_assoc]
theorem qm4 (r : List UInt8) : partsOf r ≠ [] := by
 by_cases h : r.length > 22
 ·rw [jv h]; simp
 ·rw [jw h]; simp
theorem qaj (f r : List UInt8) : jz f r = f ++ x7 (jh f) (partsOf r) := by rw [jz, qv1]
theorem qg8 (f r : List UInt8) : jh (jz f r) = qaw (jh f) (partsOf r) := by
 obtain ⟨q, hq⟩ := qjk (partsOf r) (h := jh f) (qm4 r)
 have hh := q44 (qtm f) (partsOf r)
 rw [qaj, hq, jh, if_neg (by simp [ja]; omega)]
 have e : (f ++ (q ++ be8 (qaw (jh f) (partsOf r)))).length - 8 = (f ++ q).length := by simp only [List.length_append, ja]; omega
 rw [e, ← List.append_assoc, List.drop_left, qzi hh]
def xo (rs : List (List UInt8)) : List UInt8 := rs.foldl jz []
theorem kv (rs : List (List UInt8)) (r : List UInt8) : xo (rs ++ [r]) = xo rs ++ x7 (jh (xo rs)) (partsOf r) := by
 have : xo (rs ++ [r]) = jz (xo rs) r := by unfold xo; rw [List.foldl_append, List.foldl_cons, List.foldl_nil]
 rw [this, qaj]
theorem qgf (rs : List (List UInt8)) (r : List UInt8) : xo (rs ++ [r]) = jz (xo rs) r := by rw [kv, qaj]
theorem qfh (f r : List UInt8) : (x7 (jh f) (partsOf r)).length = 32 * (partsOf r).length := qdh fun p hp => (jj _ r (Nat.le_refl _) p hp).2
theorem qzj (f r : List UInt8) : 0 < (x7 (jh f) (partsOf r)).length := by
 rw [qfh]
 have := List.length_pos_iff.2 (qm4 r)
 omega
theorem qdi {α : Type} {P : List α → Prop} (h0 : P []) (h1 : ∀ l x, P l → P (l ++ [x])) : ∀ (n : Nat) (l : List α), l.length = n → P l
 | 0, l, h => by cases l with
  | nil => exact h0
  | cons a l => simp at h
 | n + 1, l, h => by
  rcases List.eq_nil_or_concat l with rfl | ⟨t, c, rfl⟩
  ·simp at h
  ·rw [List.concat_eq_append] at h ⊢
   exact h1 _ _ (qdi h0 h1 n t (by simpa using h))
structure Behind (rs : List (List UInt8)) (s : Rds) : Prop where
 pos : s.pos = (xo rs).length
 seed : s.seed = jh (xo rs)
 now : s.now = []
 recs : s.recs = rs
 used : s.used = (xo rs).length
theorem qpw (rs : List (List UInt8)) : ∀ (b rest : List UInt8), (∀ r ∈ rs, r.length ≤ 2000) → b = xo rs ++ rest → ∃ s, Behind rs s ∧ jq b rds0 = jq b s := by
 refine qdi (P := fun rs => ∀ (b rest : List UInt8), (∀ r ∈ rs, r.length ≤ 2000) → b = xo rs ++ rest → ∃ s, Behind rs s ∧ jq b rds0 = jq b s) ?_ ?_ _ rs rfl
 ·intro b rest _ _
  exact ⟨rds0, ⟨rfl, rfl, rfl, rfl, rfl⟩, rfl⟩
 ·intro rs r ih b rest hr hb
  rw [kv, List.append_assoc] at hb
  obtain ⟨s, ⟨b1, b2, b3, b4, b5⟩, hs⟩ := ih b _ (fun x hx => hr x (List.mem_append_left _ hx)) hb
  have hd : b.drop s.pos = x7 s.seed (partsOf r) ++ rest := by rw [b1, b2, hb, List.drop_left]
  have := qtt _ (r := r) (b := b) (s := s) (Nat.le_refl _) (.inl (by rw [b3]; rfl)) (by rw [b3]; have := hr r (by simp); simpa using this) hd
  refine ⟨_, ?_, hs.trans this⟩
  refine ⟨?_, ?_, rfl, ?_, ?_⟩
  ·rw [kv, List.length_append, qfh, b1]
  ·rw [qgf, qg8, b2]
  ·rw [b4, b3, List.nil_append]
  ·rw [Rds.used, qfg, kv, List.length_append, qfh, b1]
theorem qkl (rs : List (List UInt8)) : ∀ i j : Nat, i ≤ j → (xo (rs.take i)).length ≤ (xo (rs.take j)).length := by
 intro i j hij
 induction j with
 | zero =>
  have : i = 0 := by omega
  subst this
  exact Nat.le_refl _
 | succ j ih =>
  by_cases h : i ≤ j
  ·refine Nat.le_trans (ih h) ?_
   by_cases hj : j < rs.length
   ·rw [List.take_succ_eq_append_getElem hj, kv, List.length_append]; omega
   ·rw [List.take_of_length_le (by omega), List.take_of_length_le (by omega)]; omega
  ·have : i = j + 1 := by omega
   subst this
   exact Nat.le_refl _
theorem qv3 (rs : List (List UInt8)) : ∀ i : Nat, i ≤ rs.length → (xo rs).take (xo (rs.take i)).length = xo (rs.take i) := by
 refine qdi (P := fun rs => ∀ i : Nat, i ≤ rs.length → (xo rs).take (xo (rs.take i)).length = xo (rs.take i)) ?_ ?_ _ rs rfl
 ·intro i hi
  simp at hi; subst hi; rfl
 ·intro rs r ih i hi
  by_cases h : i ≤ rs.length
  ·have h1 := qkl rs i rs.length h
   rw [List.take_length] at h1
   rw [List.take_append_of_le_length h, kv, List.take_append_of_le_length h1, ih i h]
  ·have : i = (rs ++ [r]).length := by simp at hi ⊢; omega
   subst this
   rw [List.take_length, List.take_length]
structure ReadOf (rs : List (List UInt8)) (k j : Nat) (x : Rds × Int) : Prop where
 le : j ≤ rs.length
 recs : x.1.recs = rs.take j
 used : x.1.used = (xo (rs.take j)).length
 fit : (xo (rs.take j)).length ≤ k
 all : ∀ i, i ≤ rs.length → (xo (rs.take i)).length ≤ k → i ≤ j
theorem qv4 (rs : List (List UInt8)) : ∀ k : Nat, (∀ r ∈ rs, r.length ≤ 2000) → ∃ j, ReadOf rs k j (jq ((xo rs).take k) rds0) := by
 refine qdi (P := fun rs => ∀ k : Nat, (∀ r ∈ rs, r.length ≤ 2000) → ∃ j, ReadOf rs k j (jq ((xo rs).take k) rds0)) ?_ ?_ _ rs rfl
 ·intro k _
  refine ⟨0, ?_⟩
  have hb : (xo []).take k = [] := by simp [xo]
  rw [hb, qbm (by simp [rds0])]
  exact ⟨Nat.le_refl _, rfl, rfl, Nat.zero_le _, fun i hi _ => by simpa using hi⟩
 ·intro rs r ih k hr
  have hr' : ∀ x ∈ rs, x.length ≤ 2000 := fun x hx => hr x (List.mem_append_left _ hx)
  have hrr : r.length ≤ 2000 := hr r (by simp)
  have hln : (xo (rs ++ [r])).length = (xo rs).length + (x7 (jh (xo rs)) (partsOf r)).length := by rw [kv, List.length_append]
  have hps := qzj (xo rs) r
  by_cases h1 : (xo (rs ++ [r])).length ≤ k
  ·rw [List.take_of_length_le h1]
   obtain ⟨s, ⟨b1, b2, b3, b4, b5⟩, hs⟩ := qpw (rs ++ [r]) (xo (rs ++ [r])) [] hr (by simp)
   rw [hs, qbm (by rw [b1]; omega)]
   refine ⟨(rs ++ [r]).length, ⟨Nat.le_refl _, by rw [List.take_length]; exact b4, by rw [List.take_length]; exact b5, by rw [List.take_length]; exact h1, fun i hi _ => hi⟩⟩
  ·have hall : ∀ i, i ≤ (rs ++ [r]).length → (xo ((rs ++ [r]).take i)).length ≤ k → i ≤ rs.length := by
    intro i hi hk
    rcases Nat.lt_or_ge rs.length i with h | h
    ·have : i = (rs ++ [r]).length := by simp at hi ⊢; omega
     rw [this, List.take_length] at hk
     exact (h1 hk).elim
    ·exact h
   have htk : ∀ i, i ≤ rs.length → (rs ++ [r]).take i = rs.take i := fun i hi => List.take_append_of_le_length hi
   by_cases h2 : k ≤ (xo rs).length
   ·rw [kv, List.take_append_of_le_length h2]
    obtain ⟨j, j1, j2, j3, j4, j5⟩ := ih k hr'
    refine ⟨j, ⟨by simp; omega, by rw [htk j j1]; exact j2, by rw [htk j j1]; exact j3, by rw [htk j j1]; exact j4, fun i hi hk => ?_⟩⟩
    have := hall i hi hk
    rw [htk i this] at hk
    exact j5 i this hk
   ·have hb : (xo (rs ++ [r])).take k = xo rs ++ (x7 (jh (xo rs)) (partsOf r)).take (k - (xo rs).length) := by
     rw [kv, List.take_append, List.take_of_length_le (by omega)]
    rw [hb]
    obtain ⟨s, ⟨b1, b2, b3, b4, b5⟩, hs⟩ := qpw rs (xo rs ++ (x7 (jh (xo rs)) (partsOf r)).take (k - (xo rs).length)) _ hr' rfl
    have hd : (xo rs ++ (x7 (jh (xo rs)) (partsOf r)).take (k - (xo rs).length)).drop s.pos = (x7 s.seed (partsOf r)).take (k - (xo rs).length) := by rw [b1, b2, List.drop_left]
    obtain ⟨c1, c2, c3⟩ := qzh _ (r := r) (s := s) (Nat.le_refl _) (.inl (by rw [b3]; rfl)) (by rw [b3]; simpa using hrr) hd (by rw [b1, List.length_append]; omega) (by rw [b2]; omega)
    rw [hs]
    refine ⟨rs.length, ⟨by simp, ?_, ?_, ?_, hall⟩⟩
    ·rw [c1, b4, htk _ (Nat.le_refl _), List.take_length]
    ·rw [Rds.used, c2, htk _ (Nat.le_refl _), List.take_length]
     exact b5
    ·rw [htk _ (Nat.le_refl _), List.take_length]; omega
end Go.Proofs.YtinnaedmdoengaaGreat
namespace Go.Proofs.YtinnaedmdoengaaGreat
open Go.Abs
set_option linter.unusedSimpArgs false
set_option linter.unusedVariables false
theorem qb9 {α β : Type} (f : α → β) (l : List α) {i : Nat} (h : i < l.length) : (l.take (i + 1)).map f = (l.take i).map f ++ [f l[i]] := by
 rw [List.take_succ_eq_append_getElem h, List.map_append]; rfl
theorem qdu (w : List UInt8) : wo (qd w) = w := by
 induction w with
 | nil => rfl
 | cons c w ih => simp_all [wo, qd]
theorem xiu (w : List UInt8) : (∃ l, qd w = qd l) = True := eq_true ⟨w, rfl⟩
theorem xrj : (∃ l, ([] : List (List D)) = qd l) = True := eq_true ⟨[], rfl⟩
theorem qm5 : wo [] = [] := rfl
attribute [go_sem] qdu xiu xrj qm5
noncomputable section
set_option maxRecDepth 100000
def xrk : List SOper := [
 ⟨some 2, .mov (.k (.d .nilsl)), none⟩]
def xrl : List SOper := [
 ⟨some 3, .mov (.k (.d .nilsl)), none⟩]
def xrm : List SOper := [
 ⟨some 4, .mov (.k (.d (.int .i64 0))), none⟩]
def xrn : List SOper := [
 ⟨some 5, .mov (.t 4), none⟩,
 ⟨some 6, .mov (.t 0), none⟩,
 ⟨some 7, .len (.t 6), none⟩,
 ⟨some 8, .bin .lss (.t 5) (.t 7), none⟩]
def xro : List SOper := [
 ⟨some 11, .mov (.t 3), none⟩,
 ⟨some 12, .mov (.t 0), none⟩,
 ⟨some 13, .mov (.t 4), none⟩,
 ⟨some 14, .iaddr 3 (.t 12) (.t 13), none⟩,
 ⟨some 15, .faddr 0 (.t 14), none⟩,
 ⟨some 16, .load none (.t 15), none⟩,
 ⟨some 17, .mov (.t 0), none⟩,
 ⟨some 18, .mov (.t 4), none⟩,
 ⟨some 19, .iaddr 3 (.t 17) (.t 18), none⟩,
 ⟨some 20, .faddr 1 (.t 19), none⟩,
 ⟨some 21, .load none (.t 20), none⟩,
 ⟨some 22, .buildSlice false 1 0 [(.int .u8 0)] [], none⟩,
 ⟨some 23, .mov (.t 0), none⟩,
 ⟨some 24, .mov (.t 4), none⟩,
 ⟨some 25, .iaddr 3 (.t 23) (.t 24), none⟩,
 ⟨some 26, .faddr 2 (.t 25), none⟩,
 ⟨some 27, .load none (.t 26), none⟩,
 ⟨some 28, .append false 1 1 (.t 22) (.t 27), none⟩,
 ⟨some 29, .build [(.str []), (.bool false), .nilsl] [(0, 1, (.t 16)), (1, 1, (.t 21)), (2, 1, (.t 28))], none⟩,
 ⟨some 30, .buildSlice false 3 1 [(.str []), (.bool false), .nilsl] [(0, 3, (.t 29))], none⟩,
 ⟨some 31, .append false 3 48 (.t 11) (.t 30), none⟩,
 ⟨some 3, .mov (.t 31), none⟩]
def xrp : List SOper := [
 ⟨some 9, .mov (.t 4), none⟩,
 ⟨some 10, .bin .add (.t 9) (.k (.d (.int .i64 1))), none⟩,
 ⟨some 4, .mov (.t 10), none⟩]
def xiv : SCode := (.seq (.seq (.region xrn 0 []) (.cond (.t 8) .skip (.exit 0))) (.seq (.block 1 (.region xro 0 [])) (.region xrp 0 [])))
theorem x9u : qg xiv.eq_1 := qh xiv.eq_1
def xrq : List SOper := [
 ⟨some 32, .mov (.t 3), none⟩,
 ⟨some 2, .mov (.t 32), none⟩]
def s31 : SCode := (.seq (.region xrk 0 []) (.seq (.region xrl 0 []) (.seq (.seq (.region xrm 0 []) (.block 0 (.loop xiv))) (.seq (.region xrq 0 []) .ret))))
theorem e31 : qg s31.eq_1 := qh s31.eq_1
theorem x9v : qa xrk.eq_1 := qc
theorem x9w : qa xrl.eq_1 := qc
theorem x9x : qa xrm.eq_1 := qc
theorem x9y : qa xrn.eq_1 := qc
theorem x9z : qa xro.eq_1 := qc
theorem x90 : qa xrp.eq_1 := qc
theorem x91 : qa xrq.eq_1 := qc
attribute [go_sem] x9v x9w x9x x9y x9z x90 x9u x91 e31
theorem F31 : FnIs Tryz.prog 31 Tryz.f31 [] news s31 [.tmp 2] 33 := zc follows Tryz.func31
def xrr : List SOper := [
 ⟨some 4, .mov (.k (.d .nilsl)), none⟩]
def xrs : List SOper := [
 ⟨some 8, .mov (.t 0), none⟩,
 ⟨some 9, .mov (.t 1), none⟩,
 ⟨some 10, .call (.k (.d (.func (.func 33) [] []))) [(.t 8), (.t 9)], none⟩,
 ⟨some 5, .mov (.t 10), none⟩]
def xrt : List SOper := [
 ⟨some 6, .mov (.k (.d .nilsl)), none⟩]
def xru : List SOper := [
 ⟨some 7, .mov (.k (.d (.int .i64 0))), none⟩]
def xrv : List SOper := [
 ⟨some 11, .mov (.t 7), none⟩,
 ⟨some 12, .mov (.t 5), none⟩,
 ⟨some 13, .len (.t 12), none⟩,
 ⟨some 14, .bin .lss (.t 11) (.t 13), none⟩]
def xrw : List SOper := [
 ⟨some 17, .mov (.t 6), none⟩,
 ⟨some 18, .mov (.t 5), none⟩,
 ⟨some 19, .mov (.t 7), none⟩,
 ⟨some 20, .iaddr 2 (.t 18) (.t 19), none⟩,
 ⟨some 21, .load (some 2) (.t 20), none⟩,
 ⟨some 22, .buildSlice false 2 1 [(.str []), .nilsl] [(0, 2, (.t 21))], none⟩,
 ⟨some 23, .append false 2 40 (.t 17) (.t 22), none⟩,
 ⟨some 6, .mov (.t 23), none⟩]
def xrx : List SOper := [
 ⟨some 15, .mov (.t 7), none⟩,
 ⟨some 16, .bin .add (.t 15) (.k (.d (.int .i64 1))), none⟩,
 ⟨some 7, .mov (.t 16), none⟩]
def xiw : SCode := (.seq (.seq (.region xrv 0 []) (.cond (.t 14) .skip (.exit 0))) (.seq (.block 1 (.region xrw 0 [])) (.region xrx 0 [])))
theorem x92 : qg xiw.eq_1 := qh xiw.eq_1
def xry : List SOper := [
 ⟨some 24, .mov (.t 6), none⟩,
 ⟨some 4, .mov (.t 24), none⟩]
def s21 : SCode := (.seq (.region xrr 0 []) (.seq (.region xrs 0 []) (.seq (.region xrt 0 []) (.seq (.seq (.region xru 0 []) (.block 0 (.loop xiw))) (.seq (.region xry 0 []) .ret)))))
theorem e21 : qg s21.eq_1 := qh s21.eq_1
theorem x93 : qa xrr.eq_1 := qc
theorem x94 : qa xrs.eq_1 := qc
theorem x95 : qa xrt.eq_1 := qc
theorem x96 : qa xru.eq_1 := qc
theorem x97 : qa xrv.eq_1 := qc
theorem x98 : qa xrw.eq_1 := qc
theorem x99 : qa xrx.eq_1 := qc
theorem zaa : qa xry.eq_1 := qc
attribute [go_sem] x93 x94 x95 x96 x97 x98 x99 x92 zaa e21
theorem F21 : FnIs Tryz.prog 21 Tryz.f21 [] news s21 [.tmp 4] 25 := zc follows Tryz.func21
def xrz : List SOper := [
 ⟨some 2, .mov (.k (.d (.bool false))), none⟩]
def xr0 : List SOper := [
 ⟨some 3, .mov (.k (.d (.int .i64 0))), none⟩]
def xr1 : List SOper := [
 ⟨some 4, .mov (.k (.d (.int .i64 0))), none⟩]
def xr2 : List SOper := [
 ⟨some 5, .mov (.t 4), none⟩,
 ⟨some 6, .mov (.t 0), none⟩,
 ⟨some 7, .len (.t 6), none⟩,
 ⟨some 8, .bin .lss (.t 5) (.t 7), none⟩]
def xr3 : List SOper := [
 ⟨some 11, .mov (.t 0), none⟩,
 ⟨some 12, .mov (.t 4), none⟩,
 ⟨some 13, .iaddr 3 (.t 11) (.t 12), none⟩,
 ⟨some 14, .faddr 0 (.t 13), none⟩,
 ⟨some 15, .load none (.t 14), none⟩,
 ⟨some 16, .lenS (.t 15), none⟩,
 ⟨some 17, .bin .gtr (.t 16) (.k (.d (.int .i64 100))), none⟩,
 ⟨some 18, .mov (.t 17), none⟩,
 ⟨some 19, .mov (.t 0), some (18, false)⟩,
 ⟨some 20, .mov (.t 4), some (18, false)⟩,
 ⟨some 21, .iaddr 3 (.t 19) (.t 20), some (18, false)⟩,
 ⟨some 22, .faddr 2 (.t 21), some (18, false)⟩,
 ⟨some 23, .load none (.t 22), some (18, false)⟩,
 ⟨some 24, .len (.t 23), some (18, false)⟩,
 ⟨some 25, .bin .gtr (.t 24) (.k (.d (.int .i64 1000))), some (18, false)⟩,
 ⟨some 26, .pick (.t 18) (.k (.d (.bool true))) (.t 25), none⟩]
def xr4 : List SOper := [
 ⟨some 2, .mov (.k (.d (.bool false))), none⟩]
def xr5 : List SOper := [
 ⟨some 27, .mov (.t 3), none⟩,
 ⟨some 28, .mov (.t 0), none⟩,
 ⟨some 29, .mov (.t 4), none⟩,
 ⟨some 30, .iaddr 3 (.t 28) (.t 29), none⟩,
 ⟨some 31, .faddr 2 (.t 30), none⟩,
 ⟨some 32, .load none (.t 31), none⟩,
 ⟨some 33, .len (.t 32), none⟩,
 ⟨some 34, .bin .add (.t 27) (.t 33), none⟩,
 ⟨some 3, .mov (.t 34), none⟩]
def xr6 : List SOper := [
 ⟨some 9, .mov (.t 4), none⟩,
 ⟨some 10, .bin .add (.t 9) (.k (.d (.int .i64 1))), none⟩,
 ⟨some 4, .mov (.t 10), none⟩]
def xix : SCode := (.seq (.seq (.region xr2 0 []) (.cond (.t 8) .skip (.exit 0))) (.seq (.block 1 (.seq (.seq (.region xr3 0 []) (.cond (.t 26) (.seq (.region xr4 0 []) .ret) .skip)) (.region xr5 0 []))) (.region xr6 0 [])))
theorem zab : qg xix.eq_1 := qh xix.eq_1
def xr7 : List SOper := [
 ⟨some 35, .mov (.t 0), none⟩,
 ⟨some 36, .len (.t 35), none⟩,
 ⟨some 37, .bin .leq (.t 36) (.k (.d (.int .i64 30))), none⟩,
 ⟨some 38, .mov (.t 37), none⟩,
 ⟨some 39, .mov (.t 3), some (38, true)⟩,
 ⟨some 40, .bin .leq (.t 39) (.k (.d (.int .i64 3000))), some (38, true)⟩,
 ⟨some 41, .pick (.t 38) (.t 40) (.k (.d (.bool false))), none⟩,
 ⟨some 2, .mov (.t 41), none⟩]
def s29 : SCode := (.seq (.region xrz 0 []) (.seq (.region xr0 0 []) (.seq (.seq (.region xr1 0 []) (.block 0 (.loop xix))) (.seq (.region xr7 0 []) .ret))))
theorem e29 : qg s29.eq_1 := qh s29.eq_1
theorem zac : qa xrz.eq_1 := qc
theorem zad : qa xr0.eq_1 := qc
theorem zae : qa xr1.eq_1 := qc
theorem zaf : qa xr2.eq_1 := qc
theorem zag : qa xr3.eq_1 := qc
theorem zah : qa xr4.eq_1 := qc
theorem zai : qa xr5.eq_1 := qc
theorem zaj : qa xr6.eq_1 := qc
theorem zak : qa xr7.eq_1 := qc
attribute [go_sem] zac zad zae zaf zag zah zai zaj zab zak e29
theorem F29 : FnIs Tryz.prog 29 Tryz.f29 [] news s29 [.tmp 2] 42 := zc follows Tryz.func29
def xr8 : List SOper := [
 ⟨some 2, .mov (.k (.d (.bool false))), none⟩]
def xr9 : List SOper := [
 ⟨some 3, .mov (.k (.d (.int .i64 0))), none⟩]
def xsa : List SOper := [
 ⟨some 4, .mov (.t 3), none⟩,
 ⟨some 5, .mov (.t 0), none⟩,
 ⟨some 6, .len (.t 5), none⟩,
 ⟨some 7, .bin .lss (.t 4) (.t 6), none⟩]
def xsb : List SOper := [
 ⟨some 10, .mov (.t 0), none⟩,
 ⟨some 11, .mov (.t 3), none⟩,
 ⟨some 12, .iaddr 2 (.t 10) (.t 11), none⟩,
 ⟨some 13, .faddr 1 (.t 12), none⟩,
 ⟨some 14, .load none (.t 13), none⟩,
 ⟨some 15, .call (.k (.d (.func (.func 29) [] []))) [(.t 14)], none⟩,
 ⟨some 16, .not (.t 15), none⟩]
def xsc : List SOper := [
 ⟨some 2, .mov (.k (.d (.bool false))), none⟩]
def xsd : List SOper := [
 ⟨some 8, .mov (.t 3), none⟩,
 ⟨some 9, .bin .add (.t 8) (.k (.d (.int .i64 1))), none⟩,
 ⟨some 3, .mov (.t 9), none⟩]
def xiy : SCode := (.seq (.seq (.region xsa 0 []) (.cond (.t 7) .skip (.exit 0))) (.seq (.block 1 (.seq (.region xsb 0 []) (.cond (.t 16) (.seq (.region xsc 0 []) .ret) .skip))) (.region xsd 0 [])))
theorem zal : qg xiy.eq_1 := qh xiy.eq_1
def xse : List SOper := [
 ⟨some 17, .mov (.t 0), none⟩,
 ⟨some 18, .len (.t 17), none⟩,
 ⟨some 19, .bin .leq (.t 18) (.k (.d (.int .i64 15))), none⟩,
 ⟨some 2, .mov (.t 19), none⟩]
def s23 : SCode := (.seq (.region xr8 0 []) (.seq (.seq (.region xr9 0 []) (.block 0 (.loop xiy))) (.seq (.region xse 0 []) .ret)))
theorem e23 : qg s23.eq_1 := qh s23.eq_1
theorem zam : qa xr8.eq_1 := qc
theorem zan : qa xr9.eq_1 := qc
theorem zao : qa xsa.eq_1 := qc
theorem zap : qa xsb.eq_1 := qc
theorem zaq : qa xsc.eq_1 := qc
theorem zar : qa xsd.eq_1 := qc
theorem zas : qa xse.eq_1 := qc
attribute [go_sem] zam zan zao zap zaq zar zal zas e23
theorem F23 : FnIs Tryz.prog 23 Tryz.f23 [] news s23 [.tmp 2] 20 := zc follows Tryz.func23
end
def SfTo (l : List OpS) (i : { i : Nat // i ≤ l.length }) : St :=
 ⟨[(0, true, .d (.sl 3 (l.map qk))), (3, true, .own 0 3 ((l.take i.val).map qk)), (4, true, .d (.int .i64 (i.val : Nat)))], [], [0], 1⟩
theorem q45 (l : List OpS) (hl : l.length ≤ 100000) (hv : ∀ o ∈ l, o.val.length ≤ 1000000) : qo Tryz.prog 31 [.d (.sl 3 (l.map qk))] [] (.d (.sl 3 (l.map qk))) [] := by
 refine F31.go ?_
 try (refine ev ?_; try exact True.intro)
 refine xc (SfTo l) (fun i => l.length - i.val) ⟨0, Nat.zero_le _⟩ ?_ (fun i => ?_)
 ·try (refine ev2 @SfTo.eq_1 @List.take_zero.{0} ?_; try exact True.intro)
 obtain ⟨i, hi⟩ := i
 try (refine ev1 @SfTo.eq_1 ?_; try exact True.intro)
 (repeat (with_reducible refine ob ?_)); refine zk _ (fun h => ?_) (fun h => ?_)
 ·have hil : i < l.length := by simpa using h
  have hx := hv _ (List.getElem_mem hil)
  try (refine ev2 (xi qk l hil) @qk.eq_1 ?_; try exact True.intro)
  (repeat (with_reducible refine ob ?_))
  refine ⟨⟨i + 1, hil⟩, ?_, by dsimp only; omega⟩
  try (refine ev4 @SfTo.eq_1 (qb9 qk l hil) @qk.eq_1 (qt (show i < 9223372036854775807 by omega)) ?_; try exact True.intro)
 ·have hil : i = l.length := by
   have : l.length ≤ i := by simpa using h
   omega
  subst hil
  try (refine ev1 @List.take_length.{0} ?_; try exact True.intro)
theorem qjl (m : Cont) (p : List UInt8) : (yl m p).length ≤ m.l.length := by
 rw [yl, (jl _).length_eq]
 simp only [preL, List.length_map]
 exact List.length_filter_le _ _
def Scon (s : Sto) (l : List En) (i : { i : Nat // i ≤ l.length }) : St :=
 ⟨[(5, true, .d (.sl 2 (l.map qn))), (6, true, .own 0 2 ((l.take i.val).map qn)), (7, true, .d (.int .i64 (i.val : Nat)))], [stoO s 1, mapO s.m], [0], 1⟩
theorem qdj (s : Sto) (p : List UInt8) (n : Nat) (hs : s.Ok n) :
  qo Tryz.prog 21 [.d (.ptr 0 0), .d (.str p)] [stoO s 1, mapO s.m] (.d (.sl 2 ((yl s.m p).map qn))) [stoO s 1, mapO s.m] := by
 have hls := qza s p hs.good.ok (by have := hs.good.few; omega) (fun x hx => by have := (hs.good.small x hx).2.2; omega)
 have hln := qjl s.m p
 have hfew := hs.good.few
 refine F21.go ?_
 try (refine ev2 @stoO.eq_1 @mapO.eq_1 ?_; try exact True.intro)
 simp only [stoO, mapO] at hls
 (repeat (with_reducible refine ob ?_)); refine clO [0, 1] x9r (hls) ?_ (hfit := by first | exact ⟨qe, trivial⟩ | exact ⟨qe, qe, trivial⟩ | (refine ev2 @qk.eq_1 @qn.eq_1 ?_; try exact True.intro))
 generalize yl s.m p = l at hln ⊢
 try (refine ev ?_; try exact True.intro)
 refine xc (Scon s l) (fun i => l.length - i.val) ⟨0, Nat.zero_le _⟩ ?_ (fun i => ?_)
 ·try (refine ev4 @Scon.eq_1 @List.take_zero.{0} @stoO.eq_1 @mapO.eq_1 ?_; try exact True.intro)
 obtain ⟨i, hi⟩ := i
 try (refine ev3 @Scon.eq_1 @stoO.eq_1 @mapO.eq_1 ?_; try exact True.intro)
 (repeat (with_reducible refine ob ?_)); refine zk _ (fun h => ?_) (fun h => ?_)
 ·have hil : i < l.length := by simpa using h
  try (refine ev2 (xi qn l hil) @qn.eq_1 ?_; try exact True.intro)
  (repeat (with_reducible refine ob ?_))
  refine ⟨⟨i + 1, hil⟩, ?_, by dsimp only; omega⟩
  try (refine ev6 @Scon.eq_1 @stoO.eq_1 @mapO.eq_1 (qb9 qn l hil) @qn.eq_1 (qt (show i < 9223372036854775807 by omega)) ?_; try exact True.intro)
 ·have hil : i = l.length := by
   have : l.length ≤ i := by simpa using h
   omega
  subst hil
  try (refine ev1 @List.take_length.{0} ?_; try exact True.intro)
def vSum (l : List OpS) : Nat := (l.map fun o => o.val.length).sum
def sFew (l : List OpS) : Bool := l.all (fun o => decide (o.key.length ≤ 100) && decide (o.val.length ≤ 1000)) && decide (l.length ≤ 30) && decide (vSum l ≤ 3000)
theorem qzk (a b : Int) : IntKind.i64.wrap (IntKind.i64.wrap a + b) = IntKind.i64.wrap (a + b) := by
 simp only [IntKind.wrap, IntKind.bits, IntKind.signed, if_true]
 simp
 omega
theorem qzl (l : List OpS) {i : Nat} (h : i < l.length) : vSum (l.take (i + 1)) = vSum (l.take i) + l[i].val.length := by
 unfold vSum
 rw [List.take_succ_eq_append_getElem h, List.map_append, List.sum_append]; simp
theorem qca {α : Type} {f : α → Bool} {l : List α} {i : Nat} (h : (l.take i).all f = true) (hil : i < l.length) (hf : f l[i] = true) : (l.take (i + 1)).all f = true := by
 rw [List.take_succ_eq_append_getElem hil, List.all_append, h]; simp [hf]
theorem qzm {α : Type} {f : α → Bool} {l : List α} {i : Nat} (hil : i < l.length) (hf : f l[i] = false) : l.all f = false := by
 rw [List.all_eq_false]; exact ⟨l[i], List.getElem_mem hil, by simp [hf]⟩
theorem xiz (l : List OpS) : (l.all fun o => decide (o.key.length ≤ 100) && decide (o.val.length ≤ 1000)) = true → vSum l ≤ 1000 * l.length := by
 induction l with
 | nil => intro _; simp [vSum]
 | cons o l ih =>
  intro h
  simp only [List.all_cons, Bool.and_eq_true, decide_eq_true_eq] at h
  have := ih (by simpa using h.2)
  simp only [vSum, List.map_cons, List.sum_cons, List.length_cons] at this ⊢
  omega
def Sfew (l : List OpS) (i : { i : Nat // i ≤ l.length ∧ (l.take i).all (fun o => decide (o.key.length ≤ 100) && decide (o.val.length ≤ 1000)) = true }) : St :=
 ⟨[(0, true, .d (.sl 3 (l.map qk))), (3, true, .d (.int .i64 (IntKind.i64.wrap (vSum (l.take i.val) : Nat)))), (4, true, .d (.int .i64 (i.val : Nat)))], [], [], 1⟩
theorem q88 (l : List OpS) (hl : l.length ≤ maxLen) : qo Tryz.prog 29 [.d (.sl 3 (l.map qk))] [] (.d (.bool (sFew l))) [] := by
 have hl : l.length ≤ 9223372036854775807 := hl
 refine F29.go ?_
 try (refine ev ?_; try exact True.intro)
 refine xc (Sfew l) (fun i => l.length - i.val) ⟨0, Nat.zero_le _, rfl⟩ ?_ (fun i => ?_)
 ·have w0 : IntKind.i64.wrap 0 = 0 := rfl
  try (refine ev6 @Sfew.eq_1 @List.take_zero.{0} @vSum.eq_1 @List.sum_nil.{0} @Int.ofNat_zero @w0 ?_; try exact True.intro)
 obtain ⟨i, hi, ha⟩ := i
 try (refine ev1 @Sfew.eq_1 ?_; try exact True.intro)
 (repeat (with_reducible refine ob ?_)); refine zk _ (fun h => ?_) (fun h => ?_)
 ·have hil : i < l.length := by simpa using h
  try (refine ev2 (xi qk l hil) @qk.eq_1 ?_; try exact True.intro)
  refine ⟨by omega, fun h => ⟨h, h, by omega⟩, fun h => by rw [h]; rfl, ?_⟩
  have hd1 : decide ((l[i].key.length : Int) > 100) = !decide (l[i].key.length ≤ 100) := by rw [← decide_not]; exact decide_eq_decide.2 (by omega)
  have hd2 : decide ((l[i].val.length : Int) > 1000) = !decide (l[i].val.length ≤ 1000) := by rw [← decide_not]; exact decide_eq_decide.2 (by omega)
  have hd : (decide ((l[i].key.length : Int) > 100) || decide ((l[i].val.length : Int) > 1000)) = !(decide (l[i].key.length ≤ 100) && decide (l[i].val.length ≤ 1000)) := by rw [hd1, hd2, Bool.not_and]
  refine zk _ (fun h => ?_) (fun h => ?_)
  ·rw [hd, Bool.not_eq_true'] at h
   have : sFew l = false := by rw [sFew, qzm hil h]; rfl
   try (refine ev1 @this ?_; try exact True.intro)
  ·rw [hd, Bool.not_eq_false'] at h
   try (refine ev2 (xi qk l hil) @qk.eq_1 ?_; try exact True.intro)
   (repeat (with_reducible refine ob ?_))
   refine ⟨⟨i + 1, hil, qca ha hil h⟩, ?_, by dsimp only; omega⟩
   try (refine ev4 @Sfew.eq_1 (qzl l hil) @qzk (qt (show i < 9223372036854775807 by omega)) ?_; try exact True.intro)
 ·have hil : i = l.length := by
   have : l.length ≤ i := by simpa using h
   omega
  subst hil
  rw [List.take_length] at ha
  have hv := xiz l ha
  try (refine ev3 @List.take_length.{0} @sFew.eq_1 @ha ?_; try exact True.intro)
  by_cases h30 : l.length ≤ 30
  ·rw [wrap_i64 (by omega) (by omega)]
   have e1 : decide ((l.length : Int) ≤ 30) = true := by simp; omega
   have e2 : decide (((vSum l : Nat) : Int) ≤ 3000) = decide (vSum l ≤ 3000) := decide_eq_decide.2 (by omega)
   simp only [e1, e2, h30, decide_true, Bool.true_and]
  ·have : decide ((l.length : Int) ≤ 30) = false := by simp; omega
   rw [this]
   simp [h30]
structure StepS where
 kind : Int
 ops : List OpS
 deriving DecidableEq, Inhabited
def qj (x : StepS) : List D := [.int .i64 x.kind, .sl 3 (x.ops.map qk)]
theorem qfi (o : StepS) : D.noPtrL (qj o) = true := by simp only [qj, D.noPtrL, D.noPtr, wz, Bool.and_self]
theorem qsc (l : List StepS) : D.noPtrR (l.map qj) = true := xp qfi l
attribute [go_sem] qfi qsc
def qsd (l : List StepS) : Bool := l.all (fun x => sFew x.ops) && decide (l.length ≤ 15)
def q46 (l : List StepS) (i : { i : Nat // i ≤ l.length ∧ (l.take i).all (fun x => sFew x.ops) = true }) : St :=
 ⟨[(0, true, .d (.sl 2 (l.map qj))), (3, true, .d (.int .i64 (i.val : Nat)))], [], [], 1⟩
theorem qzn (l : List StepS) (hl : l.length ≤ maxLen) (hx : ∀ x ∈ l, x.ops.length ≤ maxLen) : qo Tryz.prog 23 [.d (.sl 2 (l.map qj))] [] (.d (.bool (qsd l))) [] := by
 have hl : l.length ≤ 9223372036854775807 := hl
 refine F23.go ?_
 try (refine ev ?_; try exact True.intro)
 refine xc (q46 l) (fun i => l.length - i.val) ⟨0, Nat.zero_le _, rfl⟩ ?_ (fun i => ?_)
 ·try (refine ev1 @q46.eq_1 ?_; try exact True.intro)
 obtain ⟨i, hi, ha⟩ := i
 try (refine ev1 @q46.eq_1 ?_; try exact True.intro)
 (repeat (with_reducible refine ob ?_)); refine zk _ (fun h => ?_) (fun h => ?_)
 ·have hil : i < l.length := by simpa using h
  try (refine ev2 (xi qj l hil) @qj.eq_1 ?_; try exact True.intro)
  (repeat (with_reducible refine ob ?_))
  (repeat (with_reducible refine ob ?_)); first | refine cl F29 (q88 l[i].ops (hx _ (List.getElem_mem hil))) ?_ | refine clF F29 (q88 l[i].ops (hx _ (List.getElem_mem hil))) (fun _ => by (refine ev2 @qk.eq_1 @qn.eq_1 ?_; try exact True.intro)) ?_
  try (refine ev ?_; try exact True.intro)
  (repeat (with_reducible refine ob ?_)); refine zk _ (fun h => ?_) (fun h => ?_)
  ·have : qsd l = false := by rw [qsd, qzm hil (by simpa using h)]; rfl
   try (refine ev1 @this ?_; try exact True.intro)
  ·try (refine ev ?_; try exact True.intro)
   refine ⟨⟨i + 1, hil, qca ha hil (by simpa using h)⟩, ?_, by dsimp only; omega⟩
   try (refine ev2 @q46.eq_1 (qt (show i < 9223372036854775807 by omega)) ?_; try exact True.intro)
 ·have hil : i = l.length := by
   have : l.length ≤ i := by simpa using h
   omega
  subst hil
  rw [List.take_length] at ha
  have : qsd l = decide ((l.length : Int) ≤ 15) := by rw [qsd, ha, Bool.true_and]; exact decide_eq_decide.2 (by omega)
  try (refine ev1 @this ?_; try exact True.intro)
theorem q47 {l : List OpS} (h : sFew l = true) : l.length ≤ 30 ∧ ∀ o ∈ l, o.key.length ≤ 100 ∧ o.val.length ≤ 1000 := by
 unfold sFew at h
 simp only [Bool.and_eq_true, List.all_eq_true, decide_eq_true_eq] at h
 exact ⟨h.1.2, fun o ho => h.1.1 o ho⟩
theorem qzo {l : List StepS} (h : qsd l = true) : l.length ≤ 15 ∧ ∀ x ∈ l, sFew x.ops = true := by
 unfold qsd at h
 simp only [Bool.and_eq_true, List.all_eq_true, decide_eq_true_eq] at h
 exact ⟨h.2, h.1⟩
noncomputable section
set_option maxRecDepth 100000
def xsf : List SOper := [
 ⟨some 0, .mov (.k (.d (.bool false))), none⟩]
def xsg : List SOper := [
 ⟨some 5, .call (.k (.d (.func (.func 10) [] []))) [], none⟩,
 ⟨some 1, .mov (.t 5), none⟩]
def xsh : List SOper := [
 ⟨some 6, .mov (.t 1), none⟩,
 ⟨some 7, .buildSlice false 1 1 [(.int .u8 0)] [(0, 1, (.k (.d (.int .u8 1))))], none⟩,
 ⟨some 8, .build [(.str []), (.bool false), .nilsl] [(0, 1, (.k (.d (.str [97])))), (2, 1, (.t 7))], none⟩,
 ⟨some 9, .buildSlice false 1 1 [(.int .u8 0)] [(0, 1, (.k (.d (.int .u8 2))))], none⟩,
 ⟨some 10, .build [(.str []), (.bool false), .nilsl] [(0, 1, (.k (.d (.str [98])))), (2, 1, (.t 9))], none⟩,
 ⟨some 11, .buildSlice false 3 2 [(.str []), (.bool false), .nilsl] [(0, 3, (.t 8)), (3, 3, (.t 10))], none⟩,
 ⟨some 12, .call (.k (.d (.func (.func 14) [] []))) [(.t 6), (.t 11)], none⟩,
 ⟨some 2, .mov (.t 12), none⟩]
def xsi : List SOper := [
 ⟨some 13, .mov (.t 1), none⟩,
 ⟨some 14, .build [(.str []), (.bool false), .nilsl] [(0, 1, (.k (.d (.str [97])))), (1, 1, (.k (.d (.bool true))))], none⟩,
 ⟨some 15, .buildSlice false 3 1 [(.str []), (.bool false), .nilsl] [(0, 3, (.t 14))], none⟩,
 ⟨some 16, .call (.k (.d (.func (.func 14) [] []))) [(.t 13), (.t 15)], none⟩,
 ⟨some 3, .mov (.t 16), none⟩]
def xsj : List SOper := [
 ⟨some 17, .mov (.t 1), none⟩,
 ⟨some 18, .call (.k (.d (.func (.func 21) [] []))) [(.t 17), (.k (.d (.str [])))], none⟩,
 ⟨some 4, .mov (.t 18), none⟩]
def xsk : List SOper := [
 ⟨some 19, .mov (.t 2), none⟩,
 ⟨some 20, .bin .eql (.t 19) (.k (.d (.int .i64 0))), none⟩,
 ⟨some 21, .mov (.t 20), none⟩,
 ⟨some 22, .mov (.t 3), some (21, true)⟩,
 ⟨some 23, .bin .eql (.t 22) (.k (.d (.int .i64 0))), some (21, true)⟩,
 ⟨some 24, .pick (.t 21) (.t 23) (.k (.d (.bool false))), none⟩,
 ⟨some 25, .mov (.t 24), none⟩,
 ⟨some 26, .mov (.t 4), some (25, true)⟩,
 ⟨some 27, .len (.t 26), some (25, true)⟩,
 ⟨some 28, .bin .eql (.t 27) (.k (.d (.int .i64 1))), some (25, true)⟩,
 ⟨some 29, .pick (.t 25) (.t 28) (.k (.d (.bool false))), none⟩,
 ⟨some 30, .mov (.t 29), none⟩,
 ⟨some 31, .mov (.t 4), some (30, true)⟩,
 ⟨some 32, .iaddr 2 (.t 31) (.k (.d (.int .i64 0))), some (30, true)⟩,
 ⟨some 33, .faddr 0 (.t 32), some (30, true)⟩,
 ⟨some 34, .load none (.t 33), some (30, true)⟩,
 ⟨some 35, .bin .eql (.t 34) (.k (.d (.str [98]))), some (30, true)⟩,
 ⟨some 36, .pick (.t 30) (.t 35) (.k (.d (.bool false))), none⟩,
 ⟨some 37, .mov (.t 36), none⟩,
 ⟨some 38, .mov (.t 4), some (37, true)⟩,
 ⟨some 39, .iaddr 2 (.t 38) (.k (.d (.int .i64 0))), some (37, true)⟩,
 ⟨some 40, .faddr 1 (.t 39), some (37, true)⟩,
 ⟨some 41, .load none (.t 40), some (37, true)⟩,
 ⟨some 42, .b2s (.t 41), some (37, true)⟩,
 ⟨some 43, .bin .eql (.t 42) (.k (.d (.str [2]))), some (37, true)⟩,
 ⟨some 44, .pick (.t 37) (.t 43) (.k (.d (.bool false))), none⟩,
 ⟨some 0, .mov (.t 44), none⟩]
def s17 : SCode := (.seq (.region xsf 0 []) (.seq (.region xsg 2 []) (.seq (.region xsh 1 []) (.seq (.region xsi 1 []) (.seq (.region xsj 0 []) (.seq (.region xsk 0 []) .ret))))))
theorem e17 : qg s17.eq_1 := qh s17.eq_1
theorem zat : qa xsf.eq_1 := qc
theorem zau : qa xsg.eq_1 := qc
theorem zav : qa xsh.eq_1 := qc
theorem zaw : qa xsi.eq_1 := qc
theorem zax : qa xsj.eq_1 := qc
theorem zay : qa xsk.eq_1 := qc
attribute [go_sem] zat zau zav zaw zax zay e17
theorem F17 : FnIs Tryz.prog 17 Tryz.f17 [] news s17 [.tmp 0] 45 := zc follows Tryz.func17
end
def ops1 : List OpS := [⟨[97], false, [1]⟩, ⟨[98], false, [2]⟩]
def ops2 : List OpS := [⟨[97], true, []⟩]
def st1 : Sto := (xf newS ops1).1
def st2 : Sto := (xf st1 ops2).1
theorem c1 : (xf newS ops1).2 = 0 := by decide +kernel
theorem c2 : (xf st1 ops2).2 = 0 := by decide +kernel
theorem c3 : yl st2.m [] = [([98], [2])] := by decide +kernel
theorem qse : qo Tryz.prog 10 [] [] (.d (.ptr 1 0)) [mapO newS.m, stoO newS 0] := xqw
theorem qdk : qo Tryz.prog 17 [] [] (.d (.bool true)) [] := by
 have s1 : st1.Ok 1 := qeb (qm0 0) ops1
 have s2 : st2.Ok 2 := qeb s1 ops2
 have k0 := qse
 have k1 := qgd (by decide) (by decide) c1
 have k2 := qgd (s := st1) (by decide) (by have := s1.file; omega) c2
 have k3 := qdj st2 [] 2 s2
 rw [c3] at k3
 change qo _ _ _ _ _ [stoO st1 2, mapO newS.m, mapO st1.m] at k1
 change qo _ _ _ _ _ [stoO st2 2, mapO st1.m, mapO st2.m] at k2
 have o1 : ops1.map qk = [[.str [97], .bool false, .sl 1 [[.int .u8 1]]], [.str [98], .bool false, .sl 1 [[.int .u8 2]]]] := rfl
 have o2 : ops2.map qk = [[.str [97], .bool true, .sl 1 []]] := rfl
 have o3 : [(([98], [2]) : En)].map qn = [[.str [98], .sl 1 [[.int .u8 2]]]] := rfl
 rw [o1] at k1; rw [o2] at k2; rw [o3] at k3
 clear s1 s2 o1 o2 o3
 generalize newS = s0, st1 = s1, st2 = s2 at k0 k1 k2 k3
 simp only [stoO, mapO] at k0 k1 k2 k3
 refine F17.go ?_
 try (refine ev ?_; try exact True.intro)
 refine clO [0, 1] F10 k0 ?_
 try (refine ev ?_; try exact True.intro)
 refine clO [1, 0, 2] F14 k1 ?_
 try (refine ev ?_; try exact True.intro)
 refine clO [1, 2, 3] F14 k2 ?_
 try (refine ev ?_; try exact True.intro)
 refine clO [1, 3] F21 k3 ?_
 try (refine ev ?_; try exact True.intro)
 exact ⟨⟨[2], rfl⟩, by decide⟩
end Go.Proofs.YtinnaedmdoengaaGreat
namespace Go.Proofs.YtinnaedmdoengaaGreat
open Go.Abs
set_option linter.unusedSimpArgs false
set_option linter.unusedVariables false
noncomputable section
set_option maxRecDepth 100000
def q89 : List SOper := [
 ⟨some 2, .mov (.k (.d (.bool false))), none⟩]
def q9a : List SOper := [
 ⟨some 3, .mov (.t 0), none⟩,
 ⟨some 4, .bin .neq (.t 3) (.k (.d (.int .u8 0))), none⟩,
 ⟨some 2, .mov (.t 4), none⟩]
def s214 : SCode := (.seq (.region q89 0 []) (.seq (.region q9a 0 []) .ret))
theorem zhw : qg s214.eq_1 := qh s214.eq_1
theorem xsl : qa q89.eq_1 := qc
theorem xsm : qa q9a.eq_1 := qc
attribute [go_sem] xsl xsm zhw
theorem zgf : FnIs Tryz.prog 214 Tryz.f214 [] news s214 [.tmp 2] 5 := zc follows Tryz.func214
def q9b : List SOper := [
 ⟨some 4, .mov (.k (.d (.int .i64 0))), none⟩]
def q9c : List SOper := [
 ⟨some 6, .mov (.t 0), none⟩,
 ⟨some 7, .len (.t 6), none⟩,
 ⟨some 8, .mov (.k (.d (.int .i64 0))), none⟩]
def q9d : List SOper := [
 ⟨some 9, .bin .lss (.t 8) (.t 7), none⟩]
def q9e : List SOper := [
 ⟨some 10, .mov (.t 8), none⟩,
 ⟨some 5, .mov (.t 10), none⟩]
def q9f : List SOper := [
 ⟨some 11, .mov (.t 1), none⟩,
 ⟨some 12, .mov (.t 0), none⟩,
 ⟨some 13, .mov (.t 5), none⟩,
 ⟨some 14, .iaddr 1 (.t 12) (.t 13), none⟩,
 ⟨some 15, .load none (.t 14), none⟩,
 ⟨some 16, .call (.t 11) [(.t 15)], none⟩]
def q9g : List SOper := [
 ⟨some 17, .mov (.t 5), none⟩,
 ⟨some 4, .mov (.t 17), none⟩]
def q9h : List SOper := [
 ⟨some 18, .bin .add (.t 8) (.k (.d (.int .i64 1))), none⟩,
 ⟨some 8, .mov (.t 18), none⟩]
def qzp : SCode := (.seq (.region q9d 0 []) (.seq (.cond (.t 9) .skip (.exit 0)) (.seq (.block 1 (.seq (.region q9e 0 []) (.seq (.region q9f 0 []) (.cond (.t 16) (.seq (.region q9g 0 []) .ret) .skip)))) (.region q9h 0 []))))
theorem xsn : qg qzp.eq_1 := qh qzp.eq_1
def q9i : List SOper := [
 ⟨some 4, .mov (.k (.d (.int .i64 (-1)))), none⟩]
def s216 : SCode := (.seq (.region q9b 0 []) (.seq (.seq (.region q9c 0 []) (.block 0 (.loop qzp))) (.seq (.region q9i 0 []) .ret)))
theorem zhx : qg s216.eq_1 := qh s216.eq_1
theorem xso : qa q9b.eq_1 := qc
theorem xsp : qa q9c.eq_1 := qc
theorem xsq : qa q9d.eq_1 := qc
theorem xsr : qa q9e.eq_1 := qc
theorem xss : qa q9f.eq_1 := qc
theorem xst : qa q9g.eq_1 := qc
theorem xsu : qa q9h.eq_1 := qc
theorem xsv : qa q9i.eq_1 := qc
attribute [go_sem] xso xsp xsq xsr xss xst xsu xsn xsv zhx
theorem zgg : FnIs Tryz.prog 216 Tryz.f216 [] news s216 [.tmp 4] 19 := zc follows Tryz.func216
def q9j : List SOper := [
 ⟨some 4, .mov (.k (.d (.bool false))), none⟩]
def q9k : List SOper := [
 ⟨some 5, .mov (.t 0), none⟩,
 ⟨some 6, .mov (.t 1), none⟩,
 ⟨some 7, .call (.k (.d (.func (.func 216) [] []))) [(.t 5), (.t 6)], none⟩,
 ⟨some 8, .bin .geq (.t 7) (.k (.d (.int .i64 0))), none⟩,
 ⟨some 4, .mov (.t 8), none⟩]
def s213 : SCode := (.seq (.region q9j 0 []) (.seq (.region q9k 0 []) .ret))
theorem zhy : qg s213.eq_1 := qh s213.eq_1
theorem xsw : qa q9j.eq_1 := qc
theorem xsx : qa q9k.eq_1 := qc
attribute [go_sem] xsw xsx zhy
theorem zgh : FnIs Tryz.prog 213 Tryz.f213 [] news s213 [.tmp 4] 9 := zc follows Tryz.func213
def q9l : List SOper := [
 ⟨some 4, .mov (.k (.d (.bool false))), none⟩]
def q9m : List SOper := [
 ⟨some 7, .mov (.t 0), none⟩,
 ⟨some 8, .iaddr 1 (.t 7) (.k (.d (.int .i64 0))), none⟩,
 ⟨some 9, .load none (.t 8), none⟩,
 ⟨some 10, .mov (.t 0), none⟩,
 ⟨some 11, .iaddr 1 (.t 10) (.k (.d (.int .i64 1))), none⟩,
 ⟨some 12, .load none (.t 11), none⟩,
 ⟨some 13, .conv .i64 (.t 12), none⟩,
 ⟨some 5, .mov (.t 9), none⟩,
 ⟨some 6, .mov (.t 13), none⟩]
def q9n : List SOper := [
 ⟨some 15, .mov (.t 5), none⟩,
 ⟨some 16, .bin .neq (.t 15) (.k (.d (.int .u8 1))), none⟩,
 ⟨some 17, .mov (.t 16), none⟩,
 ⟨some 18, .mov (.t 5), some (17, true)⟩,
 ⟨some 19, .bin .neq (.t 18) (.k (.d (.int .u8 2))), some (17, true)⟩,
 ⟨some 20, .pick (.t 17) (.t 19) (.k (.d (.bool false))), none⟩,
 ⟨some 21, .mov (.t 20), none⟩,
 ⟨some 22, .mov (.t 6), some (21, false)⟩,
 ⟨some 23, .bin .gtr (.t 22) (.k (.d (.int .i64 22))), some (21, false)⟩,
 ⟨some 24, .pick (.t 21) (.k (.d (.bool true))) (.t 23), none⟩,
 ⟨some 25, .mov (.t 24), none⟩,
 ⟨some 26, .mov (.t 1), some (25, false)⟩,
 ⟨some 27, .mov (.t 6), some (25, false)⟩,
 ⟨some 28, .bin .add (.t 26) (.t 27), some (25, false)⟩,
 ⟨some 29, .bin .gtr (.t 28) (.k (.d (.int .i64 2000))), some (25, false)⟩,
 ⟨some 30, .pick (.t 25) (.k (.d (.bool true))) (.t 29), none⟩,
 ⟨some 14, .mov (.t 30), none⟩]
def q9o : List SOper := [
 ⟨some 4, .mov (.k (.d (.bool false))), none⟩]
def q9p : List SOper := [
 ⟨some 32, .mov (.t 5), none⟩,
 ⟨some 33, .bin .eql (.t 32) (.k (.d (.int .u8 1))), none⟩,
 ⟨some 34, .mov (.t 33), none⟩,
 ⟨some 35, .mov (.t 6), some (34, true)⟩,
 ⟨some 36, .bin .neq (.t 35) (.k (.d (.int .i64 22))), some (34, true)⟩,
 ⟨some 37, .pick (.t 34) (.t 36) (.k (.d (.bool false))), none⟩,
 ⟨some 38, .mov (.t 37), none⟩,
 ⟨some 39, .mov (.t 5), some (38, false)⟩,
 ⟨some 40, .bin .eql (.t 39) (.k (.d (.int .u8 2))), some (38, false)⟩,
 ⟨some 41, .mov (.t 40), some (38, false)⟩,
 ⟨some 42, .mov (.t 6), some (41, true)⟩,
 ⟨some 43, .bin .eql (.t 42) (.k (.d (.int .i64 0))), some (41, true)⟩,
 ⟨some 44, .pick (.t 41) (.t 43) (.k (.d (.bool false))), some (38, false)⟩,
 ⟨some 45, .mov (.t 44), some (38, false)⟩,
 ⟨some 46, .mov (.t 1), some (45, true)⟩,
 ⟨some 47, .bin .gtr (.t 46) (.k (.d (.int .i64 0))), some (45, true)⟩,
 ⟨some 48, .pick (.t 45) (.t 47) (.k (.d (.bool false))), some (38, false)⟩,
 ⟨some 49, .pick (.t 38) (.k (.d (.bool true))) (.t 48), none⟩,
 ⟨some 31, .mov (.t 49), none⟩]
def q9q : List SOper := [
 ⟨some 4, .mov (.k (.d (.bool false))), none⟩]
def q9r : List SOper := [
 ⟨some 50, .mov (.t 0), none⟩,
 ⟨some 51, .mov (.t 6), none⟩,
 ⟨some 52, .bin .add (.k (.d (.int .i64 2))) (.t 51), none⟩,
 ⟨some 53, .slice 1 (.t 50) (some (.t 52)) none none, none⟩,
 ⟨some 54, .call (.k (.d (.func (.func 213) [] []))) [(.t 53), (.k (.d (.func (.func 214) [] [])))], none⟩,
 ⟨some 55, .not (.t 54), none⟩,
 ⟨some 4, .mov (.t 55), none⟩]
def s204 : SCode := (.seq (.region q9l 0 []) (.seq (.region q9m 0 []) (.seq (.block 0 (.seq (.region q9n 0 []) (.cond (.t 14) (.seq (.region q9o 0 []) .ret) (.seq (.region q9p 0 []) (.cond (.t 31) (.seq (.region q9q 0 []) .ret) .skip))))) (.seq (.region q9r 0 []) .ret))))
theorem zhz : qg s204.eq_1 := qh s204.eq_1
theorem xsy : qa q9l.eq_1 := qc
theorem xsz : qa q9m.eq_1 := qc
theorem xs0 : qa q9n.eq_1 := qc
theorem xs1 : qa q9o.eq_1 := qc
theorem xs2 : qa q9p.eq_1 := qc
theorem xs3 : qa q9q.eq_1 := qc
theorem xs4 : qa q9r.eq_1 := qc
attribute [go_sem] xsy xsz xs0 xs1 xs2 xs3 xs4 zhz
theorem zgi : FnIs Tryz.prog 204 Tryz.f204 [] news s204 [.tmp 4] 56 := zc follows Tryz.func204
def xs5 : List SOper := [
 ⟨some 4, .mov (.k (.d (.bool false))), none⟩]
def xs6 : List SOper := [
 ⟨some 5, .mov (.t 0), none⟩,
 ⟨some 6, .b2s (.t 5), none⟩,
 ⟨some 7, .mov (.t 1), none⟩,
 ⟨some 8, .b2s (.t 7), none⟩,
 ⟨some 9, .bin .eql (.t 6) (.t 8), none⟩,
 ⟨some 4, .mov (.t 9), none⟩]
def s57 : SCode := (.seq (.region xs5 0 []) (.seq (.region xs6 0 []) .ret))
theorem e57 : qg s57.eq_1 := qh s57.eq_1
theorem zaz : qa xs5.eq_1 := qc
theorem za0 : qa xs6.eq_1 := qc
attribute [go_sem] zaz za0 e57
theorem F57 : FnIs Tryz.prog 57 Tryz.f57 [] news s57 [.tmp 4] 10 := zc follows Tryz.func57
def q9s : List SOper := [
 ⟨some 2, .mov (.k (.d (.int .i64 0))), none⟩]
def q9t : List SOper := [
 ⟨some 3, .mov (.t 0), none⟩,
 ⟨some 4, .len (.t 3), none⟩,
 ⟨some 5, .bin .eql (.t 4) (.k (.d (.int .i64 0))), none⟩]
def q9u : List SOper := [
 ⟨some 2, .mov (.k (.d (.int .i64 0))), none⟩]
def q9v : List SOper := [
 ⟨some 6, .mov (.t 0), none⟩,
 ⟨some 7, .mov (.t 0), none⟩,
 ⟨some 8, .len (.t 7), none⟩,
 ⟨some 9, .bin .sub (.t 8) (.k (.d (.int .i64 1))), none⟩,
 ⟨some 10, .iaddr 1 (.t 6) (.t 9), none⟩,
 ⟨some 11, .load none (.t 10), none⟩,
 ⟨some 2, .mov (.t 11), none⟩]
def s167 : SCode := (.seq (.region q9s 0 []) (.seq (.seq (.region q9t 0 []) (.cond (.t 5) (.seq (.region q9u 0 []) .ret) .skip)) (.seq (.region q9v 0 []) .ret)))
theorem zh0 : qg s167.eq_1 := qh s167.eq_1
theorem xs7 : qa q9s.eq_1 := qc
theorem xs8 : qa q9t.eq_1 := qc
theorem xs9 : qa q9u.eq_1 := qc
theorem xta : qa q9v.eq_1 := qc
attribute [go_sem] xs7 xs8 xs9 xta zh0
theorem za1 : FnIs Tryz.prog 167 Tryz.f167 [] news s167 [.tmp 2] 12 := zc follows Tryz.func167
end
theorem qv5 (c : UInt8) : qo Tryz.prog 214 [.d (.int .u8 (c.toNat : Nat))] [] (.d (.bool (!(c == 0)))) [] := by
 have e : (((c.toNat : Nat) : Int) != 0) = !(c == 0) := by
  show (!(((c.toNat : Nat) : Int) == 0)) = !(c == 0)
  congr 1
  rw [Bool.eq_iff_iff]
  simp only [beq_iff_eq]
  constructor
  ·intro h
   apply UInt8.toNat_inj.1
   show c.toNat = 0
   omega
  ·rintro rfl; rfl
 refine zgf.go ?_
 try (refine ev1 @e ?_; try exact True.intro)
def q48 (k : FuncId) (l : List UInt8) (f : UInt8 → Bool) (i : { i : Nat // (l.take i).any f = false }) : St :=
 ⟨[(0, true, .d (.sl 1 (qd l))), (1, true, .d (.func (.func k) [] [])), (7, true, .d (.int .i64 l.length)), (8, true, .d (.int .i64 (i.val : Nat)))], [], [], 1⟩
theorem qzq {k : FuncId} {f : UInt8 → Bool} (hb : (Tryz.prog.funcs[k]?).any (fun fn => fn.body.isSome && !(fn.name == "runtime.NumGoroutine")) = true)
  (hf : ∀ v : UInt8, qo Tryz.prog k [.d (.int .u8 (v.toNat : Nat))] [] (.d (.bool (f v))) []) (l : List UInt8) (hl : l.length ≤ maxLen) :
  qo Tryz.prog 216 [.d (.sl 1 (qd l)), .d (.func (.func k) [] [])] [] (.d (.int .i64 (idx f l))) [] := by
 refine zgg.go ?_
 try (refine ev ?_; try exact True.intro)
 refine xc (q48 k l f) (fun i => l.length - i.val) ⟨0, rfl⟩ ?_ (fun i => ?_)
 ·try (refine ev1 @q48.eq_1 ?_; try exact True.intro)
 obtain ⟨i, hi⟩ := i
 try (refine ev1 @q48.eq_1 ?_; try exact True.intro)
 (repeat (with_reducible refine ob ?_)); refine zk _ (fun h => ?_) (fun h => ?_)
 ·have hil : i < l.length := by simpa using h
  try (refine ev1 (xg l hil) ?_; try exact True.intro)
  (repeat (with_reducible refine ob ?_))
  refine xk (hf l[i]) hb (fun h => h) (fun _ => ⟨qe, trivial⟩) rfl rfl rfl ?_
  try (refine ev ?_; try exact True.intro)
  (repeat (with_reducible refine ob ?_)); refine zk _ (fun h => ?_) (fun h => ?_)
  ·try (refine ev1 (qe7 hi hil h) ?_; try exact True.intro)
  ·try (refine ev ?_; try exact True.intro)
   refine ⟨⟨i + 1, wy hi hil (by simpa using h)⟩, ?_, by dsimp only; omega⟩
   try (refine ev2 @q48.eq_1 (qt (show i < 9223372036854775807 by unfold maxLen at hl; omega)) ?_; try exact True.intro)
 ·have hil : l.length ≤ i := by simpa using h
  try (refine ev1 (qe6 hi hil) ?_; try exact True.intro)
theorem qpx {k : FuncId} {f : UInt8 → Bool} (hb : (Tryz.prog.funcs[k]?).any (fun fn => fn.body.isSome && !(fn.name == "runtime.NumGoroutine")) = true)
  (hf : ∀ v : UInt8, qo Tryz.prog k [.d (.int .u8 (v.toNat : Nat))] [] (.d (.bool (f v))) []) (l : List UInt8) (hl : l.length ≤ maxLen) :
  qo Tryz.prog 213 [.d (.sl 1 (qd l)), .d (.func (.func k) [] [])] [] (.d (.bool (l.any f))) [] := by
 refine zgh.go ?_
 try (refine ev ?_; try exact True.intro)
 (repeat (with_reducible refine ob ?_)); refine cl zgg (qzq hb hf l hl) ?_
 try (refine ev1 @qpc ?_; try exact True.intro)
theorem qpy : (Tryz.prog.funcs[214]?).any (fun fn => fn.body.isSome && !(fn.name == "runtime.NumGoroutine")) = true := zgf.body
theorem qm6 {h : List UInt8} (hl : 0 < h.length) : j0 h = h[0].toNat := by simp [j0, List.getD_eq_getElem?_getD, hl]
theorem qpz {h : List UInt8} (hl : 1 < h.length) : numB h = h[1].toNat := by simp [numB, List.getD_eq_getElem?_getD, hl]
theorem xtb (l : List UInt8) : l.any (fun c => !(c == 0)) = !l.all (fun c => c == 0) := by induction l <;> simp_all
theorem qp0 (h : List UInt8) (n : Nat) (hl : h.length = 24) (hn : n ≤ 100000) : qo Tryz.prog 204 [.d (.sl 1 (qd h)), .d (.int .i64 n)] [] (.d (.bool (qau h n))) [] := by
 have h0 : 0 < h.length := by omega
 have h1 : 1 < h.length := by omega
 have hk := qm6 h0
 have hm := qpz h1
 have l0 := w7 h[0]
 have l1 := w7 h[1]
 refine zgi.go ?_
 try (refine ev3 (xg h h0) (xg h h1) (xl (n := (h[1].toNat : Int)) (by unfold I64; omega)) ?_; try exact True.intro)
 rw [← hk, ← hm]
 rw [← hk] at l0
 rw [← hm] at l1
 (repeat (with_reducible refine ob ?_))
 generalize hkk : j0 h = k at *
 generalize hmm : numB h = m at *
 have w1 : IntKind.i64.wrap ((n : Int) + (m : Int)) = ((n + m : Nat) : Int) := by rw [xl (by unfold I64; omega)]; omega
 have w2 : IntKind.i64.wrap (2 + (m : Int)) = ((2 + m : Nat) : Int) := by rw [xl (by unfold I64; omega)]; omega
 try (refine ev2 @w1 @w2 ?_; try exact True.intro)
 refine zk _ (fun hc => ?_) (fun hc => ?_)
 ·have hb : qau h n = false := by
   rw [Bool.eq_false_iff]; intro hp
   obtain ⟨a1, a2, a3, a4, a5, a6⟩ := vm.1 hp
   rw [hkk] at a1; rw [hmm] at a2 a3
   simp only [Bool.or_eq_true, Bool.and_eq_true, decide_eq_true_eq, bne_iff_ne] at hc; omega
  try (refine ev1 @hb ?_; try exact True.intro)
 have hc1 : (k = 1 ∨ k = 2) ∧ m ≤ 22 ∧ n + m ≤ 2000 := by
  simp only [Bool.or_eq_false_iff, Bool.and_eq_false_iff, decide_eq_false_iff_not, bne_eq_false_iff_eq] at hc; omega
 try (refine ev ?_; try exact True.intro)
 (repeat (with_reducible refine ob ?_))
 refine zk _ (fun hd => ?_) (fun hd => ?_)
 ·have hb : qau h n = false := by
   rw [Bool.eq_false_iff]; intro hp
   obtain ⟨a1, a2, a3, a4, a5, a6⟩ := vm.1 hp
   rw [hkk] at a4 a5; rw [hmm] at a4 a5
   simp only [Bool.or_eq_true, Bool.and_eq_true, decide_eq_true_eq, bne_iff_ne, beq_iff_eq] at hd; omega
  try (refine ev1 @hb ?_; try exact True.intro)
 have hb : qau h n = (h.drop (2 + m)).all (fun c => c == 0) := by
  rw [Bool.eq_iff_iff, vm, hkk, hmm]
  simp only [Bool.or_eq_false_iff, Bool.and_eq_false_iff, decide_eq_false_iff_not, bne_eq_false_iff_eq, beq_eq_false_iff_ne] at hd
  exact ⟨fun x => x.2.2.2.2.2, fun x => ⟨hc1.1, hc1.2.1, hc1.2.2, by omega, by omega, x⟩⟩
 have hx : ((qd h).drop (2 + m)).take (h.length - (2 + m)) = qd (h.drop (2 + m)) := by rw [xq, xj, List.take_of_length_le (by rw [List.length_drop]; omega)]
 have e2 : (2 + (m : Int)).toNat = 2 + m := by omega
 try (refine ev3 @w2 @e2 @hx ?_; try exact True.intro)
 refine ⟨by omega, ?_⟩
 (repeat (with_reducible refine ob ?_)); refine cl zgh (qpx qpy qv5 (h.drop (2 + m)) (by rw [List.length_drop]; unfold maxLen; omega)) ?_
 try (refine ev2 @xtb @hb ?_; try exact True.intro)
theorem qzr (a b : List UInt8) : qo Tryz.prog 57 [.d (.ref 0 0 1 a.length), .d (.sl 1 (qd b))] [.row ((a.map jp).map .d)] (.d (.bool (a == b))) [.row ((a.map jp).map .d)] := by
 refine F57.go ?_
 try (refine ev ?_; try exact True.intro)
 rw [Nat.mul_one, qgc (s := a) rfl rfl, List.take_of_length_le (by simp)]
 exact ⟨⟨⟨Nat.le_refl _, qd9 a⟩, a, rfl⟩, by rw [qdu]⟩
def va (l : List Nat) : List (List D) := l.map fun n => [.int .i64 (n : Nat)]
theorem qzs (l : List Nat) (hl : l.length ≤ 1000000000) : qo Tryz.prog 167 [.d (.sl 1 (va l))] [] (.d (.int .i64 (l.getLastD 0 : Nat))) [] := by
 refine za1.go ?_
 try (refine ev ?_; try exact True.intro)
 have hel : (va l).length = l.length := by simp [va]
 refine zk _ (fun hc => ?_) (fun hc => ?_)
 ·have : l = [] := by simpa [hel] using hc
  subst this
  try (refine ev2 @List.getLastD_nil.{0} @Int.ofNat_zero ?_; try exact True.intro)
 ·have hne : 0 < l.length := by simp only [hel, beq_eq_false_iff_ne] at hc; omega
  have e1 : IntKind.i64.wrap (((va l).length : Int) - 1) = ((l.length - 1 : Nat) : Int) := by rw [hel, xl (by unfold I64; omega)]; omega
  have e2 : (va l).getD (l.length - 1) [] = [.int .i64 (l.getLastD 0 : Nat)] := by
   rw [va, xi (fun n : Nat => [D.int .i64 (n : Int)]) l (by omega) [], List.getLastD_eq_getLast?, List.getLast?_eq_getElem?, List.getElem?_eq_getElem (by omega)]
   rfl
  try (refine ev3 @e1 @Int.toNat_natCast @e2 ?_; try exact True.intro)
  rw [hel]
  omega
end Go.Proofs.YtinnaedmdoengaaGreat
namespace Go.Proofs.YtinnaedmdoengaaGreat
open Go.Abs
set_option linter.unusedSimpArgs false
set_option linter.unusedVariables false
noncomputable section
set_option maxRecDepth 100000
def q9w : List SOper := [
 ⟨some 2, .mov (.k (.d .nilsl)), none⟩,
 ⟨some 3, .mov (.k (.d .nilsl)), none⟩,
 ⟨some 4, .mov (.k (.d (.int .i64 0))), none⟩]
def q9x : List SOper := [
 ⟨some 5, .mov (.k (.d (.int .u64 14695981039346656037))), none⟩]
def q9y : List SOper := [
 ⟨some 6, .mov (.k (.d .nilsl)), none⟩]
def q9z : List SOper := [
 ⟨some 7, .mov (.k (.d (.int .i64 0))), none⟩]
def q90 : List SOper := [
 ⟨some 11, .mov (.t 7), none⟩,
 ⟨some 12, .bin .add (.t 11) (.k (.d (.int .i64 32))), none⟩,
 ⟨some 13, .mov (.t 0), none⟩,
 ⟨some 14, .len (.t 13), none⟩,
 ⟨some 15, .bin .leq (.t 12) (.t 14), none⟩]
def q91 : List SOper := [
 ⟨some 16, .mov (.t 0), none⟩,
 ⟨some 17, .mov (.t 7), none⟩,
 ⟨some 18, .mov (.t 7), none⟩,
 ⟨some 19, .bin .add (.t 18) (.k (.d (.int .i64 24))), none⟩,
 ⟨some 20, .slice 1 (.t 16) (some (.t 17)) (some (.t 19)) none, none⟩,
 ⟨some 8, .mov (.t 20), none⟩]
def q92 : List SOper := [
 ⟨some 22, .mov (.t 5), none⟩,
 ⟨some 23, .mov (.t 8), none⟩,
 ⟨some 24, .call (.k (.d (.func (.func 103) [] []))) [(.t 22), (.t 23)], none⟩,
 ⟨some 21, .mov (.t 24), none⟩,
 ⟨some 25, .extract 0 (.t 21), none⟩,
 ⟨some 26, .extract 1 (.t 21), none⟩,
 ⟨some 10, .alloc 1 [(.d (.int .u8 0)), (.d (.int .u8 0)), (.d (.int .u8 0)), (.d (.int .u8 0)), (.d (.int .u8 0)), (.d (.int .u8 0)), (.d (.int .u8 0)), (.d (.int .u8 0))], none⟩,
 ⟨some 9, .mov (.t 25), none⟩,
 ⟨none, .store (some 8) (.t 10) (.t 26), none⟩]
def q93 : List SOper := [
 ⟨some 27, .sliceA 8 1 (.t 10) none none none, none⟩,
 ⟨some 28, .mov (.t 0), none⟩,
 ⟨some 29, .mov (.t 7), none⟩,
 ⟨some 30, .bin .add (.t 29) (.k (.d (.int .i64 24))), none⟩,
 ⟨some 31, .mov (.t 7), none⟩,
 ⟨some 32, .bin .add (.t 31) (.k (.d (.int .i64 32))), none⟩,
 ⟨some 33, .slice 1 (.t 28) (some (.t 30)) (some (.t 32)) none, none⟩,
 ⟨some 34, .call (.k (.d (.func (.func 57) [] []))) [(.t 27), (.t 33)], none⟩,
 ⟨some 35, .not (.t 34), none⟩]
def q94 : List SOper := [
 ⟨some 36, .mov (.t 2), none⟩,
 ⟨some 37, .mov (.t 3), none⟩,
 ⟨some 2, .mov (.t 36), none⟩,
 ⟨some 3, .mov (.t 37), none⟩,
 ⟨some 4, .mov (.k (.d (.int .i64 5))), none⟩]
def q95 : List SOper := [
 ⟨some 38, .mov (.t 8), none⟩,
 ⟨some 39, .mov (.t 6), none⟩,
 ⟨some 40, .len (.t 39), none⟩,
 ⟨some 41, .call (.k (.d (.func (.func 204) [] []))) [(.t 38), (.t 40)], none⟩,
 ⟨some 42, .not (.t 41), none⟩]
def qzt : List SOper := [
 ⟨some 43, .mov (.t 2), none⟩,
 ⟨some 44, .mov (.t 3), none⟩,
 ⟨some 2, .mov (.t 43), none⟩,
 ⟨some 3, .mov (.t 44), none⟩,
 ⟨some 4, .mov (.k (.d (.int .i64 4))), none⟩]
def qzu : List SOper := [
 ⟨some 45, .mov (.t 6), none⟩,
 ⟨some 46, .mov (.t 8), none⟩,
 ⟨some 47, .mov (.t 8), none⟩,
 ⟨some 48, .iaddr 1 (.t 47) (.k (.d (.int .i64 1))), none⟩,
 ⟨some 49, .load none (.t 48), none⟩,
 ⟨some 50, .conv .i64 (.t 49), none⟩,
 ⟨some 51, .bin .add (.k (.d (.int .i64 2))) (.t 50), none⟩,
 ⟨some 52, .slice 1 (.t 46) (some (.k (.d (.int .i64 2)))) (some (.t 51)) none, none⟩,
 ⟨some 53, .append false 1 1 (.t 45) (.t 52), none⟩,
 ⟨some 6, .mov (.t 53), none⟩]
def qzv : List SOper := [
 ⟨some 54, .mov (.t 7), none⟩,
 ⟨some 55, .bin .add (.t 54) (.k (.d (.int .i64 32))), none⟩,
 ⟨some 56, .mov (.t 9), none⟩,
 ⟨some 7, .mov (.t 55), none⟩,
 ⟨some 5, .mov (.t 56), none⟩]
def qzw : List SOper := [
 ⟨some 57, .mov (.t 8), none⟩,
 ⟨some 58, .iaddr 1 (.t 57) (.k (.d (.int .i64 0))), none⟩,
 ⟨some 59, .load none (.t 58), none⟩,
 ⟨some 60, .bin .eql (.t 59) (.k (.d (.int .u8 2))), none⟩]
def qzx : List SOper := [
 ⟨some 61, .mov (.t 2), none⟩,
 ⟨some 62, .buildSlice false 1 0 [(.int .u8 0)] [], none⟩,
 ⟨some 63, .mov (.t 6), none⟩,
 ⟨some 64, .append false 1 1 (.t 62) (.t 63), none⟩,
 ⟨some 65, .buildSlice false 1 1 [.nilsl] [(0, 1, (.t 64))], none⟩,
 ⟨some 66, .append false 1 24 (.t 61) (.t 65), none⟩,
 ⟨some 67, .mov (.t 3), none⟩,
 ⟨some 68, .mov (.t 7), none⟩,
 ⟨some 69, .buildSlice false 1 1 [(.int .i64 0)] [(0, 1, (.t 68))], none⟩,
 ⟨some 70, .append false 1 8 (.t 67) (.t 69), none⟩,
 ⟨some 2, .mov (.t 66), none⟩,
 ⟨some 3, .mov (.t 70), none⟩,
 ⟨some 6, .mov (.k (.d .nilsl)), none⟩]
def qsf : SCode := (.seq (.seq (.region q90 0 []) (.cond (.t 15) .skip (.exit 0))) (.block 1 (.seq (.region q91 0 []) (.seq (.region q92 1 []) (.seq (.seq (.region q93 0 []) (.cond (.t 35) (.seq (.region q94 0 []) .ret) .skip)) (.seq (.seq (.region q95 0 []) (.cond (.t 42) (.seq (.region qzt 0 []) .ret) .skip)) (.seq (.region qzu 0 []) (.seq (.region qzv 0 []) (.seq (.region qzw 0 []) (.cond (.t 60) (.region qzx 0 []) .skip))))))))))
theorem xi0 : qg qsf.eq_1 := qh qsf.eq_1
def qzy : List SOper := [
 ⟨some 71, .mov (.t 3), none⟩,
 ⟨some 72, .call (.k (.d (.func (.func 167) [] []))) [(.t 71)], none⟩,
 ⟨some 73, .mov (.t 0), none⟩,
 ⟨some 74, .len (.t 73), none⟩,
 ⟨some 75, .bin .neq (.t 72) (.t 74), none⟩]
def qzz : List SOper := [
 ⟨some 76, .mov (.t 2), none⟩,
 ⟨some 77, .mov (.t 3), none⟩,
 ⟨some 2, .mov (.t 76), none⟩,
 ⟨some 3, .mov (.t 77), none⟩,
 ⟨some 4, .mov (.k (.d (.int .i64 4))), none⟩]
def qz0 : List SOper := [
 ⟨some 78, .mov (.t 2), none⟩,
 ⟨some 79, .mov (.t 3), none⟩,
 ⟨some 2, .mov (.t 78), none⟩,
 ⟨some 3, .mov (.t 79), none⟩,
 ⟨some 4, .mov (.k (.d (.int .i64 0))), none⟩]
def s166 : SCode := (.seq (.region q9w 0 []) (.seq (.region q9x 0 []) (.seq (.region q9y 0 []) (.seq (.region q9z 0 []) (.seq (.block 0 (.loop qsf)) (.seq (.seq (.region qzy 0 []) (.cond (.t 75) (.seq (.region qzz 0 []) .ret) .skip)) (.seq (.region qz0 0 []) .ret)))))))
theorem zh1 : qg s166.eq_1 := qh s166.eq_1
theorem xtc : qa q9w.eq_1 := qc
theorem xtd : qa q9x.eq_1 := qc
theorem xte : qa q9y.eq_1 := qc
theorem xtf : qa q9z.eq_1 := qc
theorem xtg : qa q90.eq_1 := qc
theorem xth : qa q91.eq_1 := qc
theorem xti : qa q92.eq_1 := qc
theorem xtj : qa q93.eq_1 := qc
theorem xtk : qa q94.eq_1 := qc
theorem xtl : qa q95.eq_1 := qc
theorem xi1 : qa qzt.eq_1 := qc
theorem xi2 : qa qzu.eq_1 := qc
theorem xi3 : qa qzv.eq_1 := qc
theorem xi4 : qa qzw.eq_1 := qc
theorem xi5 : qa qzx.eq_1 := qc
theorem xi6 : qa qzy.eq_1 := qc
theorem xi7 : qa qzz.eq_1 := qc
theorem xi8 : qa qz0.eq_1 := qc
attribute [go_sem] xtc xtd xte xtf xtg xth xti xtj xtk xtl xi1 xi2 xi3 xi4 xi5 xi0 xi6 xi7 xi8 zh1
theorem zgj : FnIs Tryz.prog 166 Tryz.f166 [] news s166 [.tmp 2, .tmp 3, .tmp 4] 80 := zc follows Tryz.func166
def q96 : List SOper := [
 ⟨some 2, .mov (.k (.d .nilsl)), none⟩,
 ⟨some 3, .mov (.k (.d (.int .i64 0))), none⟩,
 ⟨some 4, .mov (.k (.d (.int .i64 0))), none⟩]
def q97 : List SOper := [
 ⟨some 7, .mov (.t 0), none⟩,
 ⟨some 8, .call (.k (.d (.func (.func 166) [] []))) [(.t 7)], none⟩,
 ⟨some 6, .mov (.t 8), none⟩,
 ⟨some 9, .extract 0 (.t 6), none⟩,
 ⟨some 10, .extract 1 (.t 6), none⟩,
 ⟨some 11, .extract 2 (.t 6), none⟩,
 ⟨some 2, .mov (.t 9), none⟩,
 ⟨some 5, .mov (.t 10), none⟩,
 ⟨some 4, .mov (.t 11), none⟩]
def q98 : List SOper := [
 ⟨some 12, .mov (.t 2), none⟩,
 ⟨some 13, .mov (.t 5), none⟩,
 ⟨some 14, .call (.k (.d (.func (.func 167) [] []))) [(.t 13)], none⟩,
 ⟨some 15, .mov (.t 4), none⟩,
 ⟨some 2, .mov (.t 12), none⟩,
 ⟨some 3, .mov (.t 14), none⟩,
 ⟨some 4, .mov (.t 15), none⟩]
def s111 : SCode := (.seq (.region q96 0 []) (.seq (.region q97 0 []) (.seq (.region q98 0 []) .ret)))
theorem zh2 : qg s111.eq_1 := qh s111.eq_1
theorem xtm : qa q96.eq_1 := qc
theorem xtn : qa q97.eq_1 := qc
theorem xto : qa q98.eq_1 := qc
attribute [go_sem] xtm xtn xto zh2
theorem zgk : FnIs Tryz.prog 111 Tryz.f111 [] news s111 [.tmp 2, .tmp 3, .tmp 4] 16 := zc follows Tryz.func111
def xtp : List SOper := [
 ⟨some 2, .alloc 1 [(.d .nilsl), (.d (.int .i64 0))], none⟩,
 ⟨some 3, .mov (.k (.d .nilsl)), none⟩]
def xtq : List SOper := [
 ⟨some 8, .mov (.t 0), none⟩,
 ⟨some 9, .call (.k (.d (.func (.func 111) [] []))) [(.t 8)], none⟩,
 ⟨some 7, .mov (.t 9), none⟩,
 ⟨some 10, .extract 0 (.t 7), none⟩,
 ⟨some 11, .extract 1 (.t 7), none⟩,
 ⟨some 12, .extract 2 (.t 7), none⟩,
 ⟨some 4, .mov (.t 10), none⟩,
 ⟨some 5, .mov (.t 11), none⟩,
 ⟨some 6, .mov (.t 12), none⟩]
def xtr : List SOper := [
 ⟨some 13, .mov (.t 0), none⟩,
 ⟨some 14, .mov (.t 5), none⟩,
 ⟨some 15, .slice 1 (.t 13) none (some (.t 14)) none, none⟩,
 ⟨some 16, .call (.k (.d (.func (.func 63) [] []))) [(.t 15)], none⟩,
 ⟨some 17, .mov (.t 5), none⟩,
 ⟨some 18, .build [.nilsl, (.int .i64 0)] [(0, 1, (.t 16)), (1, 1, (.t 17))], none⟩,
 ⟨some 19, .mov (.t 4), none⟩,
 ⟨none, .store (some 2) (.t 2) (.t 18), none⟩,
 ⟨some 3, .mov (.t 19), none⟩]
def s58 : SCode := (.seq (.region xtp 1 []) (.seq (.region xtq 0 []) (.seq (.region xtr 0 []) .ret)))
theorem e58 : qg s58.eq_1 := qh s58.eq_1
theorem za2 : qa xtp.eq_1 := qc
theorem za3 : qa xtq.eq_1 := qc
theorem za4 : qa xtr.eq_1 := qc
attribute [go_sem] za2 za3 za4 e58
theorem F58 : FnIs Tryz.prog 58 Tryz.f58 [] news s58 [.cell 2 (some 2), .tmp 3] 20 := zc follows Tryz.func58
end
def kw (l : List (List UInt8)) : List (List D) := l.map fun r => [.sl 1 (qd r)]
theorem qm7 (l : List (List UInt8)) : D.noPtrR (kw l) = true := xp (fun r => by simp only [D.noPtrL, D.noPtr, jb, Bool.and_self]) l
theorem qsg (l : List (List UInt8)) : (kw l).length = l.length := by simp [kw]
theorem qsh : kw [] = [] := rfl
theorem qg9 (l : List (List UInt8)) (r : List UInt8) : kw l ++ [[.sl 1 (qd r)]] = kw (l ++ [r]) := by simp [kw]
theorem qm8 (l : List Nat) : D.noPtrR (va l) = true := xp (fun _ => rfl) l
theorem qsi (l : List Nat) : (va l).length = l.length := by simp [va]
theorem qsj : va [] = [] := rfl
attribute [go_sem] qm7 qsg qsh qm8 qsi qsj
def qz1 (b : List UInt8) (s : Rds) : St :=
 ⟨[(0, true, .d (.sl 1 (qd b))), (2, true, .own 0 1 (kw s.recs)), (3, true, .own 1 1 (va s.ends)), (4, true, .d (.int .i64 0)), (5, true, .d (.int .u64 (s.seed : Nat))), (6, true, .own 2 1 (qd s.now)), (7, true, .d (.int .i64 (s.pos : Nat)))], [], [0, 1, 2], 1⟩
set_option maxRecDepth 10000 in
theorem xi9 (b : List UInt8) (hb : b.length ≤ 1000000000) : qo Tryz.prog 166 [.d (.sl 1 (qd b))] [] (.tup [.d (.sl 1 (kw (jq b rds0).1.recs)), .d (.sl 1 (va (jq b rds0).1.ends)), .d (.int .i64 (jq b rds0).2)]) [] := by
 refine zgj.goT ?_
 try (refine ev ?_; try exact True.intro)
 refine xc (fun i : { s : Rds // s.Ok b ∧ jq b s = jq b rds0 } => qz1 b i.val) (fun i => b.length - i.val.pos) ⟨rds0, qcz b, rfl⟩ ?_ (fun i => ?_)
 ·try (refine ev5 @qz1.eq_1 @rds0.eq_1 @qv0.eq_1 @Int.ofNat_zero @qu ?_; try exact True.intro)
 obtain ⟨s, hs, hx⟩ := i
 obtain ⟨q1, q2, q3, q4, q5, q6, q7⟩ := hs
 have w1 : IntKind.i64.wrap ((s.pos : Int) + 32) = ((s.pos + 32 : Nat) : Int) := by rw [xl (by unfold I64; omega)]; omega
 have w2 : IntKind.i64.wrap ((s.pos : Int) + 24) = ((s.pos + 24 : Nat) : Int) := by rw [xl (by unfold I64; omega)]; omega
 try (refine ev2 @qz1.eq_1 @w1 ?_; try exact True.intro)
 refine zk _ (fun hc => ?_) (fun hc => ?_)
 ·have hil : s.pos + 32 ≤ b.length := by simp at hc; omega
  have hh : (qr b s.pos).length = 24 := by rw [qr, List.length_take, List.length_drop]; omega
  have e1 : ((s.pos : Int) + 24).toNat - s.pos = 24 := by omega
  have e2 : ((s.pos : Int) + 32).toNat - ((s.pos : Int) + 24).toNat = 8 := by omega
  have e5 : ((s.pos : Int) + 24).toNat = s.pos + 24 := by omega
  have e3 : ((qd b).drop s.pos).take 24 = qd (qr b s.pos) := by rw [xq, xj]; rfl
  have e4 : ((qd b).drop (s.pos + 24)).take 8 = qd (yz b s.pos) := by rw [xq, xj]; rfl
  try (refine ev6 @w2 @e1 @e2 @e3 @e4 @Int.toNat_natCast ?_; try exact True.intro)
  (repeat (with_reducible refine ob ?_))
  (repeat (with_reducible refine ob ?_)); refine cl x6i (q4s s.seed (qr b s.pos) q2 (by omega)) ?_
  try (refine ev5 @qpj @e1 @e2 @e4 @e5 ?_; try exact True.intro)
  have hq := qzr (be8 (fnv s.seed (qr b s.pos))) (yz b s.pos)
  rw [ja] at hq
  have e4b : ((qd b).drop ((s.pos : Int) + 24).toNat).take 8 = qd (yz b s.pos) := by rw [e5]; exact e4
  try (refine ev5 @w1 @w2 @ja @e2 @e4b ?_; try exact True.intro)
  refine ⟨by omega, ?_⟩
  refine clO [0] F57 hq ?_
  try (refine ev ?_; try exact True.intro)
  refine zk _ (fun hd => ?_) (fun hd => ?_)
  ·have he : cErr b s = some 5 := by
    unfold cErr
    rw [if_neg (by simpa using hd)]
   have hr := hx.symm.trans (qcy hil he)
   try (refine ev1 @hr ?_; try exact True.intro)
  have hd1 : be8 (fnv s.seed (qr b s.pos)) = yz b s.pos := by simpa using hd
  try (refine ev ?_; try exact True.intro)
  (repeat (with_reducible refine ob ?_)); refine cl zgi (qp0 (qr b s.pos) s.now.length hh (by omega)) ?_
  try (refine ev ?_; try exact True.intro)
  refine zk _ (fun hd => ?_) (fun hd => ?_)
  ·have he : cErr b s = some 4 := by
    unfold cErr
    rw [if_pos hd1, if_neg (by simpa using hd)]
   have hr := hx.symm.trans (qcy hil he)
   try (refine ev1 @hr ?_; try exact True.intro)
  have hd2 : qau (qr b s.pos) s.now.length = true := by simpa using hd
  have he : cErr b s = none := by
   unfold cErr
   rw [if_pos hd1, if_pos hd2]
  obtain ⟨p1, p2, p3, p4, p5, p6⟩ := vm.1 hd2
  have hk0 := qm6 (h := qr b s.pos) (by omega)
  have hm0 := qpz (h := qr b s.pos) (by omega)
  have w3 : IntKind.i64.wrap ((numB (qr b s.pos) : Nat) : Int) = (numB (qr b s.pos) : Nat) := xl (by unfold I64; omega)
  have w4 : IntKind.i64.wrap (2 + ((numB (qr b s.pos) : Nat) : Int)) = ((2 + numB (qr b s.pos) : Nat) : Int) := by rw [xl (by unfold I64; omega)]; omega
  have e6 : (2 + ((numB (qr b s.pos) : Nat) : Int)).toNat - 2 = numB (qr b s.pos) := by omega
  have e7 : ((qd (qr b s.pos)).drop 2).take (numB (qr b s.pos)) = qd (((qr b s.pos).drop 2).take (numB (qr b s.pos))) := by rw [xq, xj]
  have hln : (((qr b s.pos).drop 2).take (numB (qr b s.pos))).length ≤ 22 := by rw [List.length_take]; omega
  try (refine ev5 (xg (qr b s.pos) (show 0 < (qr b s.pos).length by omega)) (xg (qr b s.pos) (show 1 < (qr b s.pos).length by omega)) hm0.symm hk0.symm @w3 ?_; try exact True.intro)
  try (refine ev4 @w4 @e6 @e7 @xd ?_; try exact True.intro)
  refine ⟨by omega, by omega, by omega, by omega, ?_⟩
  have hcn : s.now ++ ((qr b s.pos).drop 2).take (numB (qr b s.pos)) = cNow b s := rfl
  rw [hcn]
  have hcl := qm2 he
  have hok := qm3 ⟨q1, q2, q3, q4, q5, q6, q7⟩ hil he
  have hnx := (qdg hil he).symm.trans hx
  refine zk _ (fun hd => ?_) (fun hd => ?_)
  ·have hk2 : j0 (qr b s.pos) = 2 := by simp at hd; omega
   have hn : qb7 b s = ⟨s.pos + 32, fnv s.seed (qr b s.pos), [], s.recs ++ [cNow b s], s.ends ++ [s.pos + 32]⟩ := by rw [qb7, if_pos hk2]
   try (refine ev1 @qg9 ?_; try exact True.intro)
   (repeat (with_reducible refine ob ?_))
   refine ⟨⟨qb7 b s, hok, hnx⟩, ?_, by dsimp only; rw [hn]; dsimp only; omega⟩
   have hes : va s.ends ++ [[.int .i64 ((s.pos : Int) + 32)]] = va (s.ends ++ [s.pos + 32]) := by simp [va]
   try (refine ev5 @qz1.eq_1 @hn @w1 @hes @qu ?_; try exact True.intro)
  ·have hk2 : ¬ j0 (qr b s.pos) = 2 := by simp at hd; omega
   have hn : qb7 b s = ⟨s.pos + 32, fnv s.seed (qr b s.pos), cNow b s, s.recs, s.ends⟩ := by rw [qb7, if_neg hk2]
   try (refine ev ?_; try exact True.intro)
   refine ⟨⟨qb7 b s, hok, hnx⟩, ?_, by dsimp only; rw [hn]; dsimp only; omega⟩
   try (refine ev3 @qz1.eq_1 @hn @w1 ?_; try exact True.intro)
 ·have hxe := hx.symm.trans (qbm (b := b) (s := s) (by simp at hc; omega))
  try (refine ev ?_; try exact True.intro)
  (repeat (with_reducible refine ob ?_)); refine cl za1 (qzs s.ends (by omega)) ?_
  try (refine ev ?_; try exact True.intro)
  have hu : s.ends.getLastD 0 = s.used := rfl
  refine zk _ (fun hd => ?_) (fun hd => ?_)
  ·have hr : jq b rds0 = (s, 4) := by
    rw [hxe, if_neg]
    intro h
    rw [← hu] at h
    rw [h] at hd
    simp at hd
   try (refine ev1 @hr ?_; try exact True.intro)
  ·have hr : jq b rds0 = (s, 0) := by
    rw [hxe, if_pos]
    rw [← hu]
    simp only [bne_eq_false_iff_eq] at hd
    omega
   try (refine ev1 @hr ?_; try exact True.intro)
theorem qv6 (b : List UInt8) (hb : b.length ≤ 1000000000) : qo Tryz.prog 111 [.d (.sl 1 (qd b))] [] (.tup [.d (.sl 1 (kw (jq b rds0).1.recs)), .d (.int .i64 ((jq b rds0).1.used : Nat)), .d (.int .i64 (jq b rds0).2)]) [] := by
 have hok := qb8 (qcz b)
 have h1 := hok.ends
 have h2 := hok.pos
 refine zgk.goT ?_
 try (refine ev ?_; try exact True.intro)
 (repeat (with_reducible refine ob ?_)); refine cl zgj (xi9 b hb) ?_
 try (refine ev ?_; try exact True.intro)
 (repeat (with_reducible refine ob ?_)); refine cl za1 (qzs (jq b rds0).1.ends (by omega)) ?_
 try (refine ev1 @Rds.used.eq_1 ?_; try exact True.intro)
def jd (b : List UInt8) : List (List UInt8) := (jq b rds0).1.recs
def wi (b : List UInt8) : Nat := (jq b rds0).1.used
theorem qm9 (b : List UInt8) : wi b ≤ b.length := Nat.le_trans (qb8 (qcz b)).used (qb8 (qcz b)).pos
theorem qp1 (b : List UInt8) : (jd b).length ≤ b.length := Nat.le_trans (qb8 (qcz b)).recs (qb8 (qcz b)).pos
theorem qec (b : List UInt8) : ∀ r ∈ jd b, r.length ≤ 2000 := (qb8 (qcz b)).small
theorem qll (b : List UInt8) (hb : b.length ≤ 1000000000) : qo Tryz.prog 58 [.d (.sl 1 (qd b))] [] (.tup [.d (.agg (zt (b.take (wi b)) (wi b))), .d (.sl 1 (kw (jd b)))]) [] := by
 have hr := qv6 b hb
 have hu := qm9 b
 change qo Tryz.prog 111 [.d (.sl 1 (qd b))] [] (.tup [.d (.sl 1 (kw (jd b))), .d (.int .i64 (wi b : Nat)), .d (.int .i64 (jq b rds0).2)]) [] at hr
 refine F58.goT ?_
 try (refine ev ?_; try exact True.intro)
 (repeat (with_reducible refine ob ?_)); refine cl zgk (hr) ?_
 have e1 : ((qd b).drop 0).take (wi b - 0) = qd (b.take (wi b)) := by rw [List.drop_zero, xj, Nat.sub_zero]
 try (refine ev2 @xj @Nat.sub_zero ?_; try exact True.intro)
 (repeat (with_reducible refine ob ?_))
 (repeat (with_reducible refine ob ?_)); refine cl F63 (ky (b.take (wi b)) (by rw [List.length_take]; omega)) ?_
 try (refine ev1 @zt.eq_1 ?_; try exact True.intro)
end Go.Proofs.YtinnaedmdoengaaGreat
namespace Go.Proofs.YtinnaedmdoengaaGreat
open Go.Abs
set_option linter.unusedSimpArgs false
set_option linter.unusedVariables false
noncomputable section
set_option maxRecDepth 100000
def xaa : List SOper := [
 ⟨some 4, .mov (.k (.d (.int .u64 0))), none⟩]
def xab : List SOper := [
 ⟨some 7, .mov (.t 0), none⟩,
 ⟨some 5, .mov (.t 7), none⟩]
def xac : List SOper := [
 ⟨some 6, .mov (.k (.d (.int .i64 0))), none⟩]
def xad : List SOper := [
 ⟨some 8, .mov (.t 6), none⟩,
 ⟨some 9, .mov (.t 1), none⟩,
 ⟨some 10, .len (.t 9), none⟩,
 ⟨some 11, .bin .lss (.t 8) (.t 10), none⟩]
def xae : List SOper := [
 ⟨some 14, .mov (.t 5), none⟩,
 ⟨some 15, .mov (.t 1), none⟩,
 ⟨some 16, .mov (.t 6), none⟩,
 ⟨some 17, .iaddr 1 (.t 15) (.t 16), none⟩,
 ⟨some 18, .load none (.t 17), none⟩,
 ⟨some 19, .conv .u64 (.t 18), none⟩,
 ⟨some 20, .bin .xor (.t 14) (.t 19), none⟩,
 ⟨some 21, .bin .mul (.t 20) (.k (.d (.int .u64 1099511628211))), none⟩,
 ⟨some 5, .mov (.t 21), none⟩]
def xaf : List SOper := [
 ⟨some 12, .mov (.t 6), none⟩,
 ⟨some 13, .bin .add (.t 12) (.k (.d (.int .i64 1))), none⟩,
 ⟨some 6, .mov (.t 13), none⟩]
def qz2 : SCode := (.seq (.seq (.region xad 0 []) (.cond (.t 11) .skip (.exit 0))) (.seq (.block 1 (.region xae 0 [])) (.region xaf 0 [])))
theorem xts : qg qz2.eq_1 := qh qz2.eq_1
def xag : List SOper := [
 ⟨some 22, .mov (.t 5), none⟩,
 ⟨some 4, .mov (.t 22), none⟩]
def s175 : SCode := (.seq (.region xaa 0 []) (.seq (.region xab 0 []) (.seq (.seq (.region xac 0 []) (.block 0 (.loop qz2))) (.seq (.region xag 0 []) .ret))))
theorem zh3 : qg s175.eq_1 := qh s175.eq_1
theorem xtt : qa xaa.eq_1 := qc
theorem xtu : qa xab.eq_1 := qc
theorem xtv : qa xac.eq_1 := qc
theorem xtw : qa xad.eq_1 := qc
theorem xtx : qa xae.eq_1 := qc
theorem xty : qa xaf.eq_1 := qc
theorem xtz : qa xag.eq_1 := qc
attribute [go_sem] xtt xtu xtv xtw xtx xty xts xtz zh3
theorem x6m : FnIs Tryz.prog 175 Tryz.f175 [] news s175 [.tmp 4] 23 := zc follows Tryz.func175
def qz3 : List SOper := [
 ⟨some 2, .mov (.k (.d .nilsl)), none⟩]
def qz4 : List SOper := [
 ⟨some 5, .makeSlice true 1 1 [(.int .u8 0)] (.k (.d (.int .i64 8))) (.k (.d (.int .i64 8))), none⟩,
 ⟨some 3, .mov (.t 5), none⟩]
def qz5 : List SOper := [
 ⟨some 4, .mov (.k (.d (.int .i64 7))), none⟩]
def qz6 : List SOper := [
 ⟨some 6, .mov (.t 4), none⟩,
 ⟨some 7, .bin .geq (.t 6) (.k (.d (.int .i64 0))), none⟩]
def qz7 : List SOper := [
 ⟨some 10, .mov (.t 3), none⟩,
 ⟨some 11, .mov (.t 4), none⟩,
 ⟨some 12, .mov (.t 0), none⟩,
 ⟨some 13, .bin .rem (.t 12) (.k (.d (.int .u64 256))), none⟩,
 ⟨some 14, .conv .u8 (.t 13), none⟩,
 ⟨some 15, .iaddr 1 (.t 10) (.t 11), none⟩,
 ⟨none, .store none (.t 15) (.t 14), none⟩]
def qz8 : List SOper := [
 ⟨some 16, .mov (.t 0), none⟩,
 ⟨some 17, .bin .quo (.t 16) (.k (.d (.int .u64 256))), none⟩,
 ⟨some 0, .mov (.t 17), none⟩]
def qz9 : List SOper := [
 ⟨some 8, .mov (.t 4), none⟩,
 ⟨some 9, .bin .sub (.t 8) (.k (.d (.int .i64 1))), none⟩,
 ⟨some 4, .mov (.t 9), none⟩]
def qsk : SCode := (.seq (.seq (.region qz6 0 []) (.cond (.t 7) .skip (.exit 0))) (.seq (.block 1 (.seq (.region qz7 0 []) (.region qz8 0 []))) (.region qz9 0 [])))
theorem xja : qg qsk.eq_1 := qh qsk.eq_1
def q0a : List SOper := [
 ⟨some 18, .mov (.t 3), none⟩,
 ⟨some 2, .mov (.t 18), none⟩]
def xjb : SCode := (.seq (.region qz3 0 []) (.seq (.region qz4 0 []) (.seq (.seq (.pause (.region qz5 0 [])) (.block 0 (.loop qsk))) (.seq (.region q0a 0 []) (.pause .ret)))))
theorem za5 : qg xjb.eq_1 := qh xjb.eq_1
theorem xjc : qa qz3.eq_1 := qc
theorem xjd : qa qz4.eq_1 := qc
theorem xje : qa qz5.eq_1 := qc
theorem xjf : qa qz6.eq_1 := qc
theorem xjg : qa qz7.eq_1 := qc
theorem xjh : qa qz8.eq_1 := qc
theorem xji : qa qz9.eq_1 := qc
theorem xjj : qa q0a.eq_1 := qc
attribute [go_sem] xjc xjd xje xjf xjg xjh xji xja xjj za5
theorem xjk : FnIs Tryz.prog 176 Tryz.f176 [5] news xjb [.tmp 2] 19 := zc follows Tryz.func176
def xah : List SOper := [
 ⟨some 2, .mov (.k (.d (.bool false))), none⟩]
def xai : List SOper := [
 ⟨some 5, .mov (.t 0), none⟩,
 ⟨some 6, .iaddr 1 (.t 5) (.k (.d (.int .i64 1))), none⟩,
 ⟨some 7, .load none (.t 6), none⟩,
 ⟨some 8, .conv .i64 (.t 7), none⟩,
 ⟨some 3, .mov (.t 8), none⟩]
def xaj : List SOper := [
 ⟨some 9, .mov (.t 0), none⟩,
 ⟨some 10, .iaddr 1 (.t 9) (.k (.d (.int .i64 0))), none⟩,
 ⟨some 11, .load none (.t 10), none⟩,
 ⟨some 12, .bin .neq (.t 11) (.k (.d (.int .u8 1))), none⟩,
 ⟨some 13, .mov (.t 12), none⟩,
 ⟨some 14, .mov (.t 0), some (13, true)⟩,
 ⟨some 15, .iaddr 1 (.t 14) (.k (.d (.int .i64 0))), some (13, true)⟩,
 ⟨some 16, .load none (.t 15), some (13, true)⟩,
 ⟨some 17, .bin .neq (.t 16) (.k (.d (.int .u8 2))), some (13, true)⟩,
 ⟨some 18, .pick (.t 13) (.t 17) (.k (.d (.bool false))), none⟩,
 ⟨some 19, .mov (.t 18), none⟩,
 ⟨some 20, .mov (.t 3), some (19, false)⟩,
 ⟨some 21, .bin .gtr (.t 20) (.k (.d (.int .i64 22))), some (19, false)⟩,
 ⟨some 22, .pick (.t 19) (.k (.d (.bool true))) (.t 21), none⟩,
 ⟨some 23, .mov (.t 22), none⟩,
 ⟨some 24, .mov (.t 0), some (23, false)⟩,
 ⟨some 25, .iaddr 1 (.t 24) (.k (.d (.int .i64 0))), some (23, false)⟩,
 ⟨some 26, .load none (.t 25), some (23, false)⟩,
 ⟨some 27, .bin .eql (.t 26) (.k (.d (.int .u8 1))), some (23, false)⟩,
 ⟨some 28, .mov (.t 27), some (23, false)⟩,
 ⟨some 29, .mov (.t 3), some (28, true)⟩,
 ⟨some 30, .bin .neq (.t 29) (.k (.d (.int .i64 22))), some (28, true)⟩,
 ⟨some 31, .pick (.t 28) (.t 30) (.k (.d (.bool false))), some (23, false)⟩,
 ⟨some 32, .pick (.t 23) (.k (.d (.bool true))) (.t 31), none⟩]
def xak : List SOper := [
 ⟨some 2, .mov (.k (.d (.bool false))), none⟩]
def xal : List SOper := [
 ⟨some 33, .mov (.t 3), none⟩,
 ⟨some 34, .bin .add (.k (.d (.int .i64 2))) (.t 33), none⟩,
 ⟨some 4, .mov (.t 34), none⟩]
def xam : List SOper := [
 ⟨some 35, .mov (.t 4), none⟩,
 ⟨some 36, .bin .lss (.t 35) (.k (.d (.int .i64 24))), none⟩]
def xan : List SOper := [
 ⟨some 39, .mov (.t 0), none⟩,
 ⟨some 40, .mov (.t 4), none⟩,
 ⟨some 41, .iaddr 1 (.t 39) (.t 40), none⟩,
 ⟨some 42, .load none (.t 41), none⟩,
 ⟨some 43, .bin .neq (.t 42) (.k (.d (.int .u8 0))), none⟩]
def xao : List SOper := [
 ⟨some 2, .mov (.k (.d (.bool false))), none⟩]
def xap : List SOper := [
 ⟨some 37, .mov (.t 4), none⟩,
 ⟨some 38, .bin .add (.t 37) (.k (.d (.int .i64 1))), none⟩,
 ⟨some 4, .mov (.t 38), none⟩]
def q0b : SCode := (.seq (.seq (.region xam 0 []) (.cond (.t 36) .skip (.exit 0))) (.seq (.block 1 (.seq (.region xan 0 []) (.cond (.t 43) (.seq (.region xao 0 []) .ret) .skip))) (.region xap 0 [])))
theorem xt0 : qg q0b.eq_1 := qh q0b.eq_1
def q0c : List SOper := [
 ⟨some 2, .mov (.k (.d (.bool true))), none⟩]
def s177 : SCode := (.seq (.region xah 0 []) (.seq (.region xai 0 []) (.seq (.seq (.region xaj 0 []) (.cond (.t 32) (.seq (.region xak 0 []) .ret) .skip)) (.seq (.seq (.region xal 0 []) (.block 0 (.loop q0b))) (.seq (.region q0c 0 []) .ret)))))
theorem zh4 : qg s177.eq_1 := qh s177.eq_1
theorem xt1 : qa xah.eq_1 := qc
theorem xt2 : qa xai.eq_1 := qc
theorem xt3 : qa xaj.eq_1 := qc
theorem xt4 : qa xak.eq_1 := qc
theorem xt5 : qa xal.eq_1 := qc
theorem xt6 : qa xam.eq_1 := qc
theorem xt7 : qa xan.eq_1 := qc
theorem xt8 : qa xao.eq_1 := qc
theorem xt9 : qa xap.eq_1 := qc
theorem xjl : qa q0c.eq_1 := qc
attribute [go_sem] xt1 xt2 xt3 xt4 xt5 xt6 xt7 xt8 xt9 xt0 xjl zh4
theorem zgl : FnIs Tryz.prog 177 Tryz.f177 [] news s177 [.tmp 2] 44 := zc follows Tryz.func177
def xaq : List SOper := [
 ⟨some 2, .mov (.k (.d .nilsl)), none⟩,
 ⟨some 3, .mov (.k (.d (.int .i64 0))), none⟩,
 ⟨some 4, .mov (.k (.d (.int .i64 0))), none⟩]
def xar : List SOper := [
 ⟨some 5, .mov (.k (.d .nilsl)), none⟩]
def xas : List SOper := [
 ⟨some 6, .mov (.k (.d .nilsl)), none⟩]
def xat : List SOper := [
 ⟨some 7, .mov (.k (.d (.int .u64 14695981039346656037))), none⟩]
def xau : List SOper := [
 ⟨some 8, .mov (.k (.d (.int .i64 0))), none⟩,
 ⟨some 9, .mov (.k (.d (.int .i64 0))), none⟩]
def xav : List SOper := [
 ⟨some 13, .mov (.t 8), none⟩,
 ⟨some 14, .bin .add (.t 13) (.k (.d (.int .i64 32))), none⟩,
 ⟨some 15, .mov (.t 0), none⟩,
 ⟨some 16, .len (.t 15), none⟩,
 ⟨some 17, .bin .leq (.t 14) (.t 16), none⟩]
def xaw : List SOper := [
 ⟨some 18, .mov (.t 0), none⟩,
 ⟨some 19, .mov (.t 8), none⟩,
 ⟨some 20, .mov (.t 8), none⟩,
 ⟨some 21, .bin .add (.t 20) (.k (.d (.int .i64 32))), none⟩,
 ⟨some 22, .slice 1 (.t 18) (some (.t 19)) (some (.t 21)) none, none⟩,
 ⟨some 10, .mov (.t 22), none⟩]
def xax : List SOper := [
 ⟨some 23, .mov (.t 7), none⟩,
 ⟨some 24, .mov (.t 10), none⟩,
 ⟨some 25, .slice 1 (.t 24) none (some (.k (.d (.int .i64 24)))) none, none⟩,
 ⟨some 26, .call (.k (.d (.func (.func 175) [] []))) [(.t 23), (.t 25)], none⟩,
 ⟨some 11, .mov (.t 26), none⟩]
def xay : List SOper := [
 ⟨some 27, .mov (.t 11), none⟩,
 ⟨some 28, .call (.k (.d (.func (.func 176) [] []))) [(.t 27)], none⟩,
 ⟨some 29, .b2s (.t 28), none⟩,
 ⟨some 30, .mov (.t 10), none⟩,
 ⟨some 31, .slice 1 (.t 30) (some (.k (.d (.int .i64 24)))) none none, none⟩,
 ⟨some 32, .b2s (.t 31), none⟩,
 ⟨some 33, .bin .neq (.t 29) (.t 32), none⟩]
def xaz : List SOper := [
 ⟨some 34, .mov (.t 5), none⟩,
 ⟨some 35, .mov (.t 9), none⟩,
 ⟨some 2, .mov (.t 34), none⟩,
 ⟨some 3, .mov (.t 35), none⟩,
 ⟨some 4, .mov (.k (.d (.int .i64 5))), none⟩]
def q0d : List SOper := [
 ⟨some 36, .mov (.t 10), none⟩,
 ⟨some 37, .iaddr 1 (.t 36) (.k (.d (.int .i64 1))), none⟩,
 ⟨some 38, .load none (.t 37), none⟩,
 ⟨some 39, .conv .i64 (.t 38), none⟩,
 ⟨some 12, .mov (.t 39), none⟩]
def q0e : List SOper := [
 ⟨some 40, .mov (.t 10), none⟩,
 ⟨some 41, .call (.k (.d (.func (.func 177) [] []))) [(.t 40)], none⟩,
 ⟨some 42, .not (.t 41), none⟩,
 ⟨some 43, .mov (.t 42), none⟩,
 ⟨some 44, .mov (.t 10), some (43, false)⟩,
 ⟨some 45, .iaddr 1 (.t 44) (.k (.d (.int .i64 0))), some (43, false)⟩,
 ⟨some 46, .load none (.t 45), some (43, false)⟩,
 ⟨some 47, .bin .eql (.t 46) (.k (.d (.int .u8 2))), some (43, false)⟩,
 ⟨some 48, .mov (.t 47), some (43, false)⟩,
 ⟨some 49, .mov (.t 12), some (48, true)⟩,
 ⟨some 50, .bin .eql (.t 49) (.k (.d (.int .i64 0))), some (48, true)⟩,
 ⟨some 51, .pick (.t 48) (.t 50) (.k (.d (.bool false))), some (43, false)⟩,
 ⟨some 52, .mov (.t 51), some (43, false)⟩,
 ⟨some 53, .mov (.t 6), some (52, true)⟩,
 ⟨some 54, .len (.t 53), some (52, true)⟩,
 ⟨some 55, .bin .gtr (.t 54) (.k (.d (.int .i64 0))), some (52, true)⟩,
 ⟨some 56, .pick (.t 52) (.t 55) (.k (.d (.bool false))), some (43, false)⟩,
 ⟨some 57, .pick (.t 43) (.k (.d (.bool true))) (.t 56), none⟩,
 ⟨some 58, .mov (.t 57), none⟩,
 ⟨some 59, .mov (.t 6), some (58, false)⟩,
 ⟨some 60, .len (.t 59), some (58, false)⟩,
 ⟨some 61, .mov (.t 12), some (58, false)⟩,
 ⟨some 62, .bin .add (.t 60) (.t 61), some (58, false)⟩,
 ⟨some 63, .bin .gtr (.t 62) (.k (.d (.int .i64 2000))), some (58, false)⟩,
 ⟨some 64, .pick (.t 58) (.k (.d (.bool true))) (.t 63), none⟩]
def q0f : List SOper := [
 ⟨some 65, .mov (.t 5), none⟩,
 ⟨some 66, .mov (.t 9), none⟩,
 ⟨some 2, .mov (.t 65), none⟩,
 ⟨some 3, .mov (.t 66), none⟩,
 ⟨some 4, .mov (.k (.d (.int .i64 4))), none⟩]
def q0g : List SOper := [
 ⟨some 67, .mov (.t 6), none⟩,
 ⟨some 68, .mov (.t 10), none⟩,
 ⟨some 69, .mov (.t 12), none⟩,
 ⟨some 70, .bin .add (.k (.d (.int .i64 2))) (.t 69), none⟩,
 ⟨some 71, .slice 1 (.t 68) (some (.k (.d (.int .i64 2)))) (some (.t 70)) none, none⟩,
 ⟨some 72, .append false 1 1 (.t 67) (.t 71), none⟩,
 ⟨some 6, .mov (.t 72), none⟩]
def q0h : List SOper := [
 ⟨some 73, .mov (.t 8), none⟩,
 ⟨some 74, .bin .add (.t 73) (.k (.d (.int .i64 32))), none⟩,
 ⟨some 75, .mov (.t 11), none⟩,
 ⟨some 8, .mov (.t 74), none⟩,
 ⟨some 7, .mov (.t 75), none⟩]
def q0i : List SOper := [
 ⟨some 76, .mov (.t 10), none⟩,
 ⟨some 77, .iaddr 1 (.t 76) (.k (.d (.int .i64 0))), none⟩,
 ⟨some 78, .load none (.t 77), none⟩,
 ⟨some 79, .bin .eql (.t 78) (.k (.d (.int .u8 2))), none⟩]
def q0j : List SOper := [
 ⟨some 80, .mov (.t 5), none⟩,
 ⟨some 81, .buildSlice false 1 0 [(.int .u8 0)] [], none⟩,
 ⟨some 82, .mov (.t 6), none⟩,
 ⟨some 83, .append false 1 1 (.t 81) (.t 82), none⟩,
 ⟨some 84, .buildSlice false 1 1 [.nilsl] [(0, 1, (.t 83))], none⟩,
 ⟨some 85, .append false 1 24 (.t 80) (.t 84), none⟩,
 ⟨some 86, .mov (.t 8), none⟩,
 ⟨some 5, .mov (.t 85), none⟩,
 ⟨some 6, .mov (.k (.d .nilsl)), none⟩,
 ⟨some 9, .mov (.t 86), none⟩]
def qsl : SCode := (.seq (.seq (.region xav 0 []) (.cond (.t 17) .skip (.exit 0))) (.block 1 (.seq (.region xaw 0 []) (.seq (.region xax 0 []) (.seq (.seq (.region xay 0 [(1, 5)]) (.cond (.t 33) (.seq (.region xaz 0 []) .ret) .skip)) (.seq (.region q0d 0 []) (.seq (.seq (.region q0e 0 []) (.cond (.t 64) (.seq (.region q0f 0 []) .ret) .skip)) (.seq (.region q0g 0 []) (.seq (.region q0h 0 []) (.seq (.region q0i 0 []) (.cond (.t 79) (.region q0j 0 []) .skip)))))))))))
theorem xjm : qg qsl.eq_1 := qh qsl.eq_1
def q0k : List SOper := [
 ⟨some 87, .mov (.t 9), none⟩,
 ⟨some 88, .mov (.t 0), none⟩,
 ⟨some 89, .len (.t 88), none⟩,
 ⟨some 90, .bin .neq (.t 87) (.t 89), none⟩]
def q0l : List SOper := [
 ⟨some 91, .mov (.t 5), none⟩,
 ⟨some 92, .mov (.t 9), none⟩,
 ⟨some 2, .mov (.t 91), none⟩,
 ⟨some 3, .mov (.t 92), none⟩,
 ⟨some 4, .mov (.k (.d (.int .i64 4))), none⟩]
def q0m : List SOper := [
 ⟨some 93, .mov (.t 5), none⟩,
 ⟨some 94, .mov (.t 9), none⟩,
 ⟨some 2, .mov (.t 93), none⟩,
 ⟨some 3, .mov (.t 94), none⟩,
 ⟨some 4, .mov (.k (.d (.int .i64 0))), none⟩]
def s116 : SCode := (.seq (.region xaq 0 []) (.seq (.region xar 0 []) (.seq (.region xas 0 []) (.seq (.region xat 0 []) (.seq (.region xau 0 []) (.seq (.block 0 (.loop qsl)) (.seq (.seq (.region q0k 0 []) (.cond (.t 90) (.seq (.region q0l 0 []) .ret) .skip)) (.seq (.region q0m 0 []) .ret))))))))
theorem zh5 : qg s116.eq_1 := qh s116.eq_1
theorem xua : qa xaq.eq_1 := qc
theorem xub : qa xar.eq_1 := qc
theorem xuc : qa xas.eq_1 := qc
theorem xud : qa xat.eq_1 := qc
theorem xue : qa xau.eq_1 := qc
theorem xuf : qa xav.eq_1 := qc
theorem xug : qa xaw.eq_1 := qc
theorem xuh : qa xax.eq_1 := qc
theorem xui : qa xay.eq_1 := qc
theorem xuj : qa xaz.eq_1 := qc
theorem xjn : qa q0d.eq_1 := qc
theorem xjo : qa q0e.eq_1 := qc
theorem xjp : qa q0f.eq_1 := qc
theorem xjq : qa q0g.eq_1 := qc
theorem xjr : qa q0h.eq_1 := qc
theorem xjs : qa q0i.eq_1 := qc
theorem xjt : qa q0j.eq_1 := qc
theorem xju : qa q0k.eq_1 := qc
theorem xjv : qa q0l.eq_1 := qc
theorem xjw : qa q0m.eq_1 := qc
attribute [go_sem] xua xub xuc xud xue xuf xug xuh xui xuj xjn xjo xjp xjq xjr xjs xjt xjm xju xjv xjw zh5
theorem zgm : FnIs Tryz.prog 116 Tryz.f116 [] news s116 [.tmp 2, .tmp 3, .tmp 4] 95 := zc follows Tryz.func116
def xuk : List SOper := [
 ⟨some 2, .alloc 1 [(.d .nilsl), (.d (.int .i64 0))], none⟩,
 ⟨some 3, .mov (.k (.d .nilsl)), none⟩]
def xul : List SOper := [
 ⟨some 8, .mov (.t 0), none⟩,
 ⟨some 9, .call (.k (.d (.func (.func 116) [] []))) [(.t 8)], none⟩,
 ⟨some 7, .mov (.t 9), none⟩,
 ⟨some 10, .extract 0 (.t 7), none⟩,
 ⟨some 11, .extract 1 (.t 7), none⟩,
 ⟨some 12, .extract 2 (.t 7), none⟩,
 ⟨some 4, .mov (.t 10), none⟩,
 ⟨some 5, .mov (.t 11), none⟩,
 ⟨some 6, .mov (.t 12), none⟩]
def xum : List SOper := [
 ⟨some 13, .buildSlice false 1 0 [(.int .u8 0)] [], none⟩,
 ⟨some 14, .mov (.t 0), none⟩,
 ⟨some 15, .mov (.t 5), none⟩,
 ⟨some 16, .slice 1 (.t 14) none (some (.t 15)) none, none⟩,
 ⟨some 17, .append false 1 1 (.t 13) (.t 16), none⟩,
 ⟨some 18, .mov (.t 5), none⟩,
 ⟨some 19, .build [.nilsl, (.int .i64 0)] [(0, 1, (.t 17)), (1, 1, (.t 18))], none⟩,
 ⟨some 20, .mov (.t 4), none⟩,
 ⟨none, .store (some 2) (.t 2) (.t 19), none⟩,
 ⟨some 3, .mov (.t 20), none⟩]
def s60 : SCode := (.seq (.region xuk 1 []) (.seq (.region xul 0 []) (.seq (.region xum 0 []) .ret)))
theorem e60 : qg s60.eq_1 := qh s60.eq_1
theorem za6 : qa xuk.eq_1 := qc
theorem za7 : qa xul.eq_1 := qc
theorem za8 : qa xum.eq_1 := qc
attribute [go_sem] za6 za7 za8 e60
theorem F60 : FnIs Tryz.prog 60 Tryz.f60 [] news s60 [.cell 2 (some 2), .tmp 3] 21 := zc follows Tryz.func60
end
def qtu (h : Nat) (s : List UInt8) (i : { i : Nat // i ≤ s.length }) : St :=
 ⟨[(1, true, .d (.sl 1 (qd s))), (5, true, .d (.int .u64 (fnv h (s.take i.val) : Nat))), (6, true, .d (.int .i64 (i.val : Nat)))], [], [], 1⟩
theorem qna (h : Nat) (s : List UInt8) (hh : h < 18446744073709551616) (hl : s.length ≤ 1000000000) : qo Tryz.prog 175 [.d (.int .u64 h), .d (.sl 1 (qd s))] [] (.d (.int .u64 (fnv h s : Nat))) [] := by
 refine x6m.go ?_
 try (refine ev ?_; try exact True.intro)
 refine xc (qtu h s) (fun i => s.length - i.val) ⟨0, Nat.zero_le _⟩ ?_ (fun i => ?_)
 ·try (refine ev4 @qtu.eq_1 @List.take_zero.{0} @qmv @Int.ofNat_zero ?_; try exact True.intro)
 obtain ⟨i, hi⟩ := i
 try (refine ev1 @qtu.eq_1 ?_; try exact True.intro)
 (repeat (with_reducible refine ob ?_)); refine zk _ (fun h => ?_) (fun h => ?_)
 ·have hil : i < s.length := by simpa using h
  try (refine ev1 (xg s hil) ?_; try exact True.intro)
  (repeat (with_reducible refine ob ?_))
  try simp only [qmw _ _ (qe8 hh (s.take i)) (w7 s[i]), go_sem, Nat.reduceAdd, Nat.reduceMul, Nat.reduceSub, Nat.reduceEqDiff, Nat.reduceLT, Nat.reduceLeDiff, Nat.reduceBEq, reduceIte, reduceCtorEq, Int.reduceAdd, Int.reduceLT, Int.reduceLE, Int.reduceGT, Int.reduceGE, Int.reduceEq, Int.reduceNe, Int.reduceBEq, Int.reduceBNe, Int.reduceToNat, Int.reduceNeg]
  refine ⟨⟨i + 1, hil⟩, ?_, by dsimp only; omega⟩
  try (refine ev4 @qtu.eq_1 (qt (show i < 9223372036854775807 by omega)) (List.take_succ_eq_append_getElem hil) @qhu ?_; try exact True.intro)
 ·have hie : i = s.length := by simp at h; omega
  subst hie
  try (refine ev1 @List.take_length.{0} ?_; try exact True.intro)
theorem q0n (h : Nat) : ∀ {k : Nat}, k < 8 → ((List.replicate (8 - k) 0 ++ (be8 h).drop (8 - k)).map jp).set (7 - k) (D.int .u8 ((UInt8.ofNat (h / 256 ^ k)).toNat : Int)) = (List.replicate (8 - (k + 1)) 0 ++ (be8 h).drop (8 - (k + 1))).map jp
 | 0, _ => rfl
 | 1, _ => rfl
 | 2, _ => rfl
 | 3, _ => rfl
 | 4, _ => rfl
 | 5, _ => rfl
 | 6, _ => rfl
 | 7, _ => rfl
def qtv (h : Nat) (k : { k : Nat // k ≤ 8 }) : St :=
 ⟨[(0, true, .d (.int .u64 (h / 256 ^ k.val : Nat))), (3, true, .d (.ref 0 0 1 8)), (4, true, .d (.int .i64 (7 - (k.val : Int))))], [.row (((List.replicate (8 - k.val) 0 ++ (be8 h).drop (8 - k.val)).map jp).map .d)], [], 1⟩
theorem qp2 (h : Nat) (hh : h < 18446744073709551616) : qo Tryz.prog 176 [.d (.int .u64 h)] [] (.d (.sl 1 (qd (be8 h)))) [] := by
 refine xjk.go ?_
 try (refine ev ?_; try exact True.intro)
 refine ⟨by decide, ?_⟩
 refine qtg (.fr 3) 32 1 (List.replicate 8 [D.int .u8 0]) ?_
 refine pu ?_
 try (refine ev ?_; try exact True.intro)
 refine xc (qtv h) (fun k => 8 - k.val) ⟨0, by simp⟩ ?_ (fun k => ?_)
 ·try (refine ev8 @qtv.eq_1 @Nat.pow_zero @Nat.div_one @Nat.sub_zero @Int.ofNat_zero @Int.sub_zero @be8.eq_1 @jp.eq_1 ?_; try exact True.intro)
  rfl
 obtain ⟨k, hk⟩ := k
 try (refine ev1 @qtv.eq_1 ?_; try exact True.intro)
 refine zk _ (fun hc => ?_) (fun hc => ?_)
 ·have hkl : k < 8 := by simp at hc; omega
  have e1 : (7 - (k : Int)).toNat = 7 - k := by omega
  have e2 : IntKind.u8.wrap (((h / 256 ^ k : Nat) : Int).tmod 256) = ((UInt8.ofNat (h / 256 ^ k)).toNat : Int) := by
   generalize h / 256 ^ k = x
   rw [Int.tmod_eq_emod_of_nonneg (by omega), qcu, UInt8.toNat_ofNat']
   omega
  have e3 : IntKind.u64.wrap (((h / 256 ^ k : Nat) : Int).tdiv 256) = ((h / 256 ^ (k + 1) : Nat) : Int) := by
   have h1 : h / 256 ^ k ≤ h := Nat.div_le_self _ _
   have h2 : h / 256 ^ (k + 1) = h / 256 ^ k / 256 := by rw [Nat.pow_succ, Nat.div_div_eq_div_mul]
   rw [h2]
   generalize h / 256 ^ k = x at h1
   rw [Int.tdiv_eq_ediv_of_nonneg (by omega), show ((x : Int) / 256) = ((x / 256 : Nat) : Int) by omega, f2 _ (by omega)]
  have e4 : IntKind.i64.wrap (7 - (k : Int) - 1) = 7 - ((k + 1 : Nat) : Int) := by rw [xl (by unfold I64; omega)]; omega
  try (refine ev6 @Nat.mul_one @e1 @e2 @e3 @qb3 (q0n h hkl) ?_; try exact True.intro)
  refine ⟨by omega, by simp only [List.length_replicate, List.length_drop, ja]; omega, ⟨k + 1, hkl⟩, ?_, by dsimp only; omega⟩
  try (refine ev2 @qtv.eq_1 @e4 ?_; try exact True.intro)
 ·have : k = 8 := by simp at hc; omega
  subst this
  try (refine ev ?_; try exact True.intro)
  refine q58 0 1 (qd (be8 h)) ?_ (hc := ?_) (hcc := ?_) (hes := ?_) (hok := D.okWR_noPtr (jb _))
  ·refine pu ?_
   try (refine ev1 @ja ?_; try exact True.intro)
  ·try (refine ev ?_; try exact True.intro)
   rw [qab]
  ·try (refine ev ?_; try exact True.intro)
  ·intro r hr
   obtain ⟨x, _, rfl⟩ := List.mem_map.1 hr
   rfl
def pr47 (h : List UInt8) : Bool := (decide (j0 h = 1) || decide (j0 h = 2)) && decide (numB h ≤ 22) && !(decide (j0 h = 1) && decide (numB h ≠ 22)) && (h.drop (2 + numB h)).all (fun c => c == 0)
theorem qnb {h : List UInt8} : pr47 h = true ↔ (j0 h = 1 ∨ j0 h = 2) ∧ numB h ≤ 22 ∧ (j0 h = 1 → numB h = 22) ∧ (h.drop (2 + numB h)).all (fun c => c == 0) = true := by
 unfold pr47
 simp only [Bool.and_eq_true, Bool.or_eq_true, Bool.not_eq_true', Bool.and_eq_false_iff, decide_eq_true_eq, decide_eq_false_iff_not]
 constructor
 ·rintro ⟨⟨⟨h1, h2⟩, h3⟩, h4⟩
  exact ⟨h1, h2, by omega, h4⟩
 ·rintro ⟨h1, h2, h3, h4⟩
  exact ⟨⟨⟨h1, h2⟩, by omega⟩, h4⟩
theorem qjm (h : List UInt8) (n : Nat) : qau h n = true ↔ pr47 h = true ∧ (j0 h = 2 → numB h = 0 → n = 0) ∧ n + numB h ≤ 2000 := by
 rw [vm, qnb]
 constructor
 ·rintro ⟨h1, h2, h3, h4, h5, h6⟩
  exact ⟨⟨h1, h2, h4, h6⟩, h5, h3⟩
 ·rintro ⟨⟨h1, h2, h4, h6⟩, h5, h3⟩
  exact ⟨h1, h2, h3, h4, h5, h6⟩
theorem xjx {l : List UInt8} {m k : Nat} (h : m + k < l.length) : (l.drop m)[k]'(by rw [List.length_drop]; omega) = l[m + k] := by simp
def q49 (c : List UInt8) (m : Nat) (p : List UInt8) (k : { k : Nat // k ≤ p.length ∧ (p.take k).all (fun c => c == 0) = true }) : St :=
 ⟨[(0, true, .d (.sl 1 (qd c))), (4, true, .d (.int .i64 (m + k.val : Nat)))], [], [], 1⟩
theorem qp3 (h t : List UInt8) (hl : h.length = 24) (ht : t.length = 8) : qo Tryz.prog 177 [.d (.sl 1 (qd (h ++ t)))] [] (.d (.bool (pr47 h))) [] := by
 have h0 : 0 < h.length := by omega
 have h1 : 1 < h.length := by omega
 have hcl : (h ++ t).length = 32 := by rw [List.length_append]; omega
 have hk := qm6 h0
 have hm := qpz h1
 have l0 := w7 h[0]
 have l1 := w7 h[1]
 have g0 : (qd (h ++ t)).getD 0 [] = [.int .u8 (j0 h : Nat)] := by rw [xg (h ++ t) (by omega), List.getElem_append_left h0, hk]
 have g1 : (qd (h ++ t)).getD 1 [] = [.int .u8 (numB h : Nat)] := by rw [xg (h ++ t) (by omega), List.getElem_append_left h1, hm]
 rw [← hk] at l0
 rw [← hm] at l1
 refine zgl.go ?_
 try (refine ev3 @g0 @g1 (xl (n := ((numB h : Nat) : Int)) (by unfold I64; omega)) ?_; try exact True.intro)
 (repeat (with_reducible refine ob ?_))
 generalize hkk : j0 h = k at *
 generalize hmm : numB h = m at *
 refine zk _ (fun hc => ?_) (fun hc => ?_)
 ·have hb : pr47 h = false := by
   rw [Bool.eq_false_iff]; intro hp
   obtain ⟨a1, a2, a3, a4⟩ := qnb.1 hp
   rw [hkk] at a1 a3; rw [hmm] at a2 a3
   simp only [Bool.or_eq_true, Bool.and_eq_true, decide_eq_true_eq, bne_iff_ne, beq_iff_eq] at hc; omega
  try (refine ev1 @hb ?_; try exact True.intro)
 have hc1 : (k = 1 ∨ k = 2) ∧ m ≤ 22 ∧ (k = 1 → m = 22) := by
  simp only [Bool.or_eq_false_iff, Bool.and_eq_false_iff, decide_eq_false_iff_not, bne_eq_false_iff_eq, beq_eq_false_iff_ne] at hc; omega
 have hb : pr47 h = (h.drop (2 + m)).all (fun c => c == 0) := by
  rw [Bool.eq_iff_iff, qnb, hkk, hmm]
  exact ⟨fun x => x.2.2.2, fun x => ⟨hc1.1, hc1.2.1, hc1.2.2, x⟩⟩
 have w2 : IntKind.i64.wrap (2 + (m : Int)) = ((2 + m : Nat) : Int) := by rw [xl (by unfold I64; omega)]; omega
 have hpl : (h.drop (2 + m)).length = 22 - m := by rw [List.length_drop]; omega
 try (refine ev1 @w2 ?_; try exact True.intro)
 refine xc (q49 (h ++ t) (2 + m) (h.drop (2 + m))) (fun k => 22 - k.val) ⟨0, Nat.zero_le _, by simp⟩ ?_ (fun k => ?_)
 ·try (refine ev3 @q49.eq_1 @Int.ofNat_zero @Int.add_zero ?_; try exact True.intro)
 obtain ⟨j, hj, ha⟩ := k
 try (refine ev1 @q49.eq_1 ?_; try exact True.intro)
 refine zk _ (fun hd => ?_) (fun hd => ?_)
 ·have hil : 2 + m + j < h.length := by simp at hd; omega
  have hjp : j < (h.drop (2 + m)).length := by omega
  have e1 : (2 + (m : Int) + (j : Int)).toNat = 2 + m + j := by omega
  have g2 : (qd (h ++ t)).getD (2 + m + j) [] = [.int .u8 (((h.drop (2 + m))[j]).toNat : Nat)] := by rw [xg (h ++ t) (by omega), List.getElem_append_left hil, xjx hil]
  try (refine ev2 @e1 @g2 ?_; try exact True.intro)
  refine ⟨by omega, ?_⟩
  refine zk _ (fun hz => ?_) (fun hz => ?_)
  ·have : (h.drop (2 + m)).all (fun c => c == 0) = false := by
    refine qzm hjp ?_
    rw [beq_eq_false_iff_ne]
    intro h0
    rw [h0] at hz
    simp at hz
   rw [this] at hb
   try (refine ev1 @hb ?_; try exact True.intro)
  ·have h00 : ((h.drop (2 + m))[j] == 0) = true := by
    rw [beq_iff_eq]
    apply UInt8.toNat_inj.1
    simp only [bne_eq_false_iff_eq] at hz
    show _ = 0
    omega
   try (refine ev ?_; try exact True.intro)
   refine ⟨⟨j + 1, hjp, qca ha hjp h00⟩, ?_, by dsimp only; omega⟩
   have w5 : IntKind.i64.wrap (2 + (m : Int) + (j : Int) + 1) = ((2 + m + (j + 1) : Nat) : Int) := by rw [xl (by unfold I64; omega)]; omega
   try (refine ev2 @q49.eq_1 @w5 ?_; try exact True.intro)
 ·have : j = (h.drop (2 + m)).length := by simp at hd; omega
  rw [this, List.take_length] at ha
  rw [ha] at hb
  try (refine ev1 @hb ?_; try exact True.intro)
def qp4 (b : List UInt8) (s : Rds) : St :=
 ⟨[(0, true, .d (.sl 1 (qd b))), (5, true, .own 0 1 (kw s.recs)), (6, true, .own 1 1 (qd s.now)), (7, true, .d (.int .u64 (s.seed : Nat))), (8, true, .d (.int .i64 (s.pos : Nat))), (9, true, .d (.int .i64 (s.used : Nat)))], [], [0, 1], 1⟩
theorem qv7 (b : List UInt8) (p : Nat) : (b.drop p).take 32 = qr b p ++ yz b p := by
 rw [qr, yz, ← List.drop_drop, show (32 : Nat) = 24 + 8 from rfl, List.take_add]
set_option maxRecDepth 10000 in
theorem q5a (b : List UInt8) (hb : b.length ≤ 1000000000) : qo Tryz.prog 116 [.d (.sl 1 (qd b))] [] (.tup [.d (.sl 1 (kw (jq b rds0).1.recs)), .d (.int .i64 ((jq b rds0).1.used : Nat)), .d (.int .i64 (jq b rds0).2)]) [] := by
 refine zgm.goT ?_
 try (refine ev ?_; try exact True.intro)
 refine xc (fun i : { s : Rds // s.Ok b ∧ jq b s = jq b rds0 } => qp4 b i.val) (fun i => b.length - i.val.pos) ⟨rds0, qcz b, rfl⟩ ?_ (fun i => ?_)
 ·try (refine ev7 @qp4.eq_1 @rds0.eq_1 @qv0.eq_1 @Rds.used.eq_1 @List.getLastD_nil.{0} @Int.ofNat_zero @qu ?_; try exact True.intro)
 obtain ⟨s, hs, hx⟩ := i
 obtain ⟨q1, q2, q3, q4, q5, q6, q7⟩ := hs
 have w1 : IntKind.i64.wrap ((s.pos : Int) + 32) = ((s.pos + 32 : Nat) : Int) := by rw [xl (by unfold I64; omega)]; omega
 try (refine ev2 @qp4.eq_1 @w1 ?_; try exact True.intro)
 refine zk _ (fun hc => ?_) (fun hc => ?_)
 ·have hil : s.pos + 32 ≤ b.length := by simp at hc; omega
  have hh : (qr b s.pos).length = 24 := by rw [qr, List.length_take, List.length_drop]; omega
  have ht : (yz b s.pos).length = 8 := by rw [yz, List.length_take, List.length_drop]; omega
  have hht : (qr b s.pos ++ yz b s.pos).length = 32 := by rw [List.length_append]; omega
  have e1 : ((s.pos : Int) + 32).toNat - s.pos = 32 := by omega
  have e3 : ((qd b).drop s.pos).take 32 = qd (qr b s.pos ++ yz b s.pos) := by rw [xq, xj, qv7]
  have e4 : (qd (qr b s.pos ++ yz b s.pos)).take 24 = qd (qr b s.pos) := by rw [xj, ← hh, List.take_left]
  have e5 : ((qd (qr b s.pos ++ yz b s.pos)).drop 24).take (32 - 24) = qd (yz b s.pos) := by
   have : (qr b s.pos ++ yz b s.pos).drop 24 = yz b s.pos := List.drop_left' hh
   rw [xq, this, xj, List.take_of_length_le (by omega)]
  have e6 : (qr b s.pos).length + (yz b s.pos).length = 32 := by omega
  try (refine ev6 @w1 @e1 @e3 @e4 @hht @Int.toNat_natCast ?_; try exact True.intro)
  refine ⟨by omega, ?_⟩
  (repeat (with_reducible refine ob ?_)); refine cl x6m (qna s.seed (qr b s.pos) q2 (by omega)) ?_
  try (refine ev ?_; try exact True.intro)
  (repeat (with_reducible refine ob ?_)); refine cl xjk (qp2 (fnv s.seed (qr b s.pos)) (qe8 q2 _)) ?_
  try (refine ev2 @e5 @hht ?_; try exact True.intro)
  refine zk _ (fun hd => ?_) (fun hd => ?_)
  ·have he : cErr b s = some 5 := by
    unfold cErr
    rw [if_neg (by simpa using hd)]
   have hr := hx.symm.trans (qcy hil he)
   try (refine ev1 @hr ?_; try exact True.intro)
  have hd1 : be8 (fnv s.seed (qr b s.pos)) = yz b s.pos := by simpa using hd
  have g0 : (qd (qr b s.pos ++ yz b s.pos)).getD 0 [] = [.int .u8 (j0 (qr b s.pos) : Nat)] := by rw [xg _ (by omega), List.getElem_append_left (by omega), qm6 (h := qr b s.pos) (by omega)]
  have g1 : (qd (qr b s.pos ++ yz b s.pos)).getD 1 [] = [.int .u8 (numB (qr b s.pos) : Nat)] := by rw [xg _ (by omega), List.getElem_append_left (by omega), qpz (h := qr b s.pos) (by omega)]
  have hnb : numB (qr b s.pos) < 256 := by rw [qpz (h := qr b s.pos) (by omega)]; exact w7 _
  have w3 : IntKind.i64.wrap ((numB (qr b s.pos) : Nat) : Int) = (numB (qr b s.pos) : Nat) := xl (by unfold I64; omega)
  try (refine ev3 @g1 @hht @w3 ?_; try exact True.intro)
  (repeat (with_reducible refine ob ?_))
  (repeat (with_reducible refine ob ?_)); refine cl zgl (qp3 (qr b s.pos) (yz b s.pos) hh ht) ?_
  have w6 : IntKind.i64.wrap ((s.now.length : Int) + ((numB (qr b s.pos) : Nat) : Int)) = ((s.now.length + numB (qr b s.pos) : Nat) : Int) := by rw [xl (by unfold I64; omega)]; omega
  try (refine ev3 @g0 @hht @w6 ?_; try exact True.intro)
  refine ⟨fun h => ⟨h, fun h2 => by rw [h, h2]; rfl⟩, fun h => ⟨h, fun h2 => by rw [h, h2]; rfl⟩, fun h => by simpa using h, fun h => by rw [h]; rfl, ?_⟩
  refine zk _ (fun hd => ?_) (fun hd => ?_)
  ·have he : cErr b s = some 4 := by
    unfold cErr
    rw [if_pos hd1, if_neg]
    rw [qjm]
    rintro ⟨k1, k2, k3⟩
    rw [k1] at hd
    simp only [Bool.not_true, Bool.false_or, Bool.or_eq_true, Bool.and_eq_true, beq_iff_eq, decide_eq_true_eq] at hd
    omega
   have hr := hx.symm.trans (qcy hil he)
   try (refine ev1 @hr ?_; try exact True.intro)
  simp only [Bool.or_eq_false_iff, Bool.not_eq_false', Bool.and_eq_false_iff, beq_eq_false_iff_ne, decide_eq_false_iff_not] at hd
  have hd2 : qau (qr b s.pos) s.now.length = true := by rw [qjm]; exact ⟨hd.1.1, by omega, by omega⟩
  have he : cErr b s = none := by
   unfold cErr
   rw [if_pos hd1, if_pos hd2]
  obtain ⟨p1, p2, p3, p4, p5, p6⟩ := vm.1 hd2
  have w4 : IntKind.i64.wrap (2 + ((numB (qr b s.pos) : Nat) : Int)) = ((2 + numB (qr b s.pos) : Nat) : Int) := by rw [xl (by unfold I64; omega)]; omega
  have e6 : (2 + ((numB (qr b s.pos) : Nat) : Int)).toNat - 2 = numB (qr b s.pos) := by omega
  have e7 : ((qd (qr b s.pos ++ yz b s.pos)).drop 2).take (numB (qr b s.pos)) = qd (((qr b s.pos).drop 2).take (numB (qr b s.pos))) := by
   rw [xq, xj, List.drop_append_of_le_length (by omega), List.take_append_of_le_length (by rw [List.length_drop]; omega)]
  have hln : (((qr b s.pos).drop 2).take (numB (qr b s.pos))).length ≤ 22 := by rw [List.length_take]; omega
  try (refine ev7 @g0 @w1 @w4 @e6 @e7 @hht @xd ?_; try exact True.intro)
  have hcn : s.now ++ ((qr b s.pos).drop 2).take (numB (qr b s.pos)) = cNow b s := rfl
  rw [hcn]
  have hcl := qm2 he
  have hok := qm3 ⟨q1, q2, q3, q4, q5, q6, q7⟩ hil he
  have hnx := (qdg hil he).symm.trans hx
  refine ⟨by omega, by omega, ?_⟩
  refine zk _ (fun hd => ?_) (fun hd => ?_)
  ·have hk2 : j0 (qr b s.pos) = 2 := by simp at hd; omega
   have hn : qb7 b s = ⟨s.pos + 32, fnv s.seed (qr b s.pos), [], s.recs ++ [cNow b s], s.ends ++ [s.pos + 32]⟩ := by rw [qb7, if_pos hk2]
   try (refine ev1 @qg9 ?_; try exact True.intro)
   (repeat (with_reducible refine ob ?_))
   refine ⟨⟨qb7 b s, hok, hnx⟩, ?_, by dsimp only; rw [hn]; dsimp only; omega⟩
   try (refine ev6 @qp4.eq_1 @hn @w1 @Rds.used.eq_1 @qfg @qu ?_; try exact True.intro)
  ·have hk2 : ¬ j0 (qr b s.pos) = 2 := by simp at hd; omega
   have hn : qb7 b s = ⟨s.pos + 32, fnv s.seed (qr b s.pos), cNow b s, s.recs, s.ends⟩ := by rw [qb7, if_neg hk2]
   try (refine ev ?_; try exact True.intro)
   refine ⟨⟨qb7 b s, hok, hnx⟩, ?_, by dsimp only; rw [hn]; dsimp only; omega⟩
   try (refine ev4 @qp4.eq_1 @hn @w1 @Rds.used.eq_1 ?_; try exact True.intro)
 ·have hxe := hx.symm.trans (qbm (b := b) (s := s) (by simp at hc; omega))
  try (refine ev ?_; try exact True.intro)
  refine zk _ (fun hd => ?_) (fun hd => ?_)
  ·have hr : jq b rds0 = (s, 4) := by
    rw [hxe, if_neg]
    intro h
    rw [h] at hd
    simp at hd
   try (refine ev1 @hr ?_; try exact True.intro)
  ·have hr : jq b rds0 = (s, 0) := by
    rw [hxe, if_pos]
    simp only [bne_eq_false_iff_eq] at hd
    omega
   try (refine ev1 @hr ?_; try exact True.intro)
theorem qtw (b : List UInt8) (hb : b.length ≤ 1000000000) : qo Tryz.prog 60 [.d (.sl 1 (qd b))] [] (.tup [.d (.agg (zt (b.take (wi b)) (wi b))), .d (.sl 1 (kw (jd b)))]) [] := by
 have hr := q5a b hb
 have hu := qm9 b
 change qo Tryz.prog 116 [.d (.sl 1 (qd b))] [] (.tup [.d (.sl 1 (kw (jd b))), .d (.int .i64 (wi b : Nat)), .d (.int .i64 (jq b rds0).2)]) [] at hr
 refine F60.goT ?_
 try (refine ev ?_; try exact True.intro)
 (repeat (with_reducible refine ob ?_)); refine cl zgm (hr) ?_
 try (refine ev2 @xj @Nat.sub_zero ?_; try exact True.intro)
 (repeat (with_reducible refine ob ?_))
 try (refine ev1 @zt.eq_1 ?_; try exact True.intro)
end Go.Proofs.YtinnaedmdoengaaGreat
namespace Go.Proofs.YtinnaedmdoengaaGreat
open Go.Abs
set_option linter.unusedSimpArgs false
set_option linter.unusedVariables false
noncomputable section
set_option maxRecDepth 100000
def xa0 : List SOper := [
 ⟨some 2, .mov (.k (.d .nilsl)), none⟩]
def xa1 : List SOper := [
 ⟨some 5, .mov (.t 0), none⟩,
 ⟨some 6, .conv .u64 (.t 5), none⟩,
 ⟨some 7, .bin .mul (.t 6) (.k (.d (.int .u64 2))), none⟩,
 ⟨some 3, .mov (.t 7), none⟩]
def xa2 : List SOper := [
 ⟨some 8, .mov (.t 0), none⟩,
 ⟨some 9, .bin .lss (.t 8) (.k (.d (.int .i64 0))), none⟩]
def xa3 : List SOper := [
 ⟨some 10, .mov (.t 0), none⟩,
 ⟨some 11, .bin .add (.t 10) (.k (.d (.int .i64 1))), none⟩,
 ⟨some 12, .neg (.t 11), none⟩,
 ⟨some 13, .conv .u64 (.t 12), none⟩,
 ⟨some 14, .bin .mul (.t 13) (.k (.d (.int .u64 2))), none⟩,
 ⟨some 15, .bin .add (.t 14) (.k (.d (.int .u64 1))), none⟩,
 ⟨some 3, .mov (.t 15), none⟩]
def xa4 : List SOper := [
 ⟨some 4, .mov (.k (.d .nilsl)), none⟩]
def xa5 : List SOper := [
 ⟨some 16, .mov (.t 3), none⟩,
 ⟨some 17, .bin .geq (.t 16) (.k (.d (.int .u64 128))), none⟩]
def xa6 : List SOper := [
 ⟨some 18, .mov (.t 4), none⟩,
 ⟨some 19, .mov (.t 3), none⟩,
 ⟨some 20, .bin .rem (.t 19) (.k (.d (.int .u64 128))), none⟩,
 ⟨some 21, .conv .u8 (.t 20), none⟩,
 ⟨some 22, .bin .add (.t 21) (.k (.d (.int .u8 128))), none⟩,
 ⟨some 23, .buildSlice false 1 1 [(.int .u8 0)] [(0, 1, (.t 22))], none⟩,
 ⟨some 24, .append false 1 1 (.t 18) (.t 23), none⟩,
 ⟨some 4, .mov (.t 24), none⟩]
def xa7 : List SOper := [
 ⟨some 25, .mov (.t 3), none⟩,
 ⟨some 26, .bin .quo (.t 25) (.k (.d (.int .u64 128))), none⟩,
 ⟨some 3, .mov (.t 26), none⟩]
def q0o : SCode := (.seq (.seq (.region xa5 0 []) (.cond (.t 17) .skip (.exit 0))) (.block 1 (.seq (.region xa6 0 []) (.region xa7 0 []))))
theorem xun : qg q0o.eq_1 := qh q0o.eq_1
def xa8 : List SOper := [
 ⟨some 27, .mov (.t 4), none⟩,
 ⟨some 28, .mov (.t 3), none⟩,
 ⟨some 29, .conv .u8 (.t 28), none⟩,
 ⟨some 30, .buildSlice false 1 1 [(.int .u8 0)] [(0, 1, (.t 29))], none⟩,
 ⟨some 31, .append false 1 1 (.t 27) (.t 30), none⟩,
 ⟨some 2, .mov (.t 31), none⟩]
def s125 : SCode := (.seq (.region xa0 0 []) (.seq (.region xa1 0 []) (.seq (.seq (.region xa2 0 []) (.cond (.t 9) (.region xa3 0 []) .skip)) (.seq (.region xa4 0 []) (.seq (.block 0 (.loop q0o)) (.seq (.region xa8 0 []) .ret))))))
theorem zh6 : qg s125.eq_1 := qh s125.eq_1
theorem xuo : qa xa0.eq_1 := qc
theorem xup : qa xa1.eq_1 := qc
theorem xuq : qa xa2.eq_1 := qc
theorem xur : qa xa3.eq_1 := qc
theorem xus : qa xa4.eq_1 := qc
theorem xut : qa xa5.eq_1 := qc
theorem xuu : qa xa6.eq_1 := qc
theorem xuv : qa xa7.eq_1 := qc
theorem xuw : qa xa8.eq_1 := qc
attribute [go_sem] xuo xup xuq xur xus xut xuu xuv xun xuw zh6
theorem za9 : FnIs Tryz.prog 125 Tryz.f125 [] news s125 [.tmp 2] 32 := zc follows Tryz.func125
def xa9 : List SOper := [
 ⟨some 2, .mov (.k (.d .nilsl)), none⟩]
def xba : List SOper := [
 ⟨some 3, .mov (.t 0), none⟩,
 ⟨some 4, .len (.t 3), none⟩,
 ⟨some 5, .call (.k (.d (.func (.func 125) [] []))) [(.t 4)], none⟩,
 ⟨some 6, .mov (.t 0), none⟩,
 ⟨some 7, .append false 1 1 (.t 5) (.t 6), none⟩,
 ⟨some 2, .mov (.t 7), none⟩]
def s130 : SCode := (.seq (.region xa9 0 []) (.seq (.region xba 0 []) .ret))
theorem zh7 : qg s130.eq_1 := qh s130.eq_1
theorem xux : qa xa9.eq_1 := qc
theorem xuy : qa xba.eq_1 := qc
attribute [go_sem] xux xuy zh7
theorem zba : FnIs Tryz.prog 130 Tryz.f130 [] news s130 [.tmp 2] 8 := zc follows Tryz.func130
def xbb : List SOper := [
 ⟨some 2, .mov (.k (.d .nilsl)), none⟩]
def xbc : List SOper := [
 ⟨some 3, .mov (.t 0), none⟩,
 ⟨some 4, .s2b (.t 3), none⟩,
 ⟨some 5, .call (.k (.d (.func (.func 130) [] []))) [(.t 4)], none⟩,
 ⟨some 2, .mov (.t 5), none⟩]
def s128 : SCode := (.seq (.region xbb 0 []) (.seq (.region xbc 0 []) .ret))
theorem zh8 : qg s128.eq_1 := qh s128.eq_1
theorem xuz : qa xbb.eq_1 := qc
theorem xu0 : qa xbc.eq_1 := qc
attribute [go_sem] xuz xu0 zh8
theorem zgn : FnIs Tryz.prog 128 Tryz.f128 [] news s128 [.tmp 2] 6 := zc follows Tryz.func128
def xbd : List SOper := [
 ⟨some 2, .mov (.k (.d .nilsl)), none⟩]
def xbe : List SOper := [
 ⟨some 3, .mov (.t 0), none⟩]
def xbf : List SOper := [
 ⟨some 4, .buildSlice false 1 1 [(.int .u8 0)] [(0, 1, (.k (.d (.int .u8 1))))], none⟩,
 ⟨some 2, .mov (.t 4), none⟩]
def xbg : List SOper := [
 ⟨some 5, .buildSlice false 1 1 [(.int .u8 0)] [(0, 1, (.k (.d (.int .u8 0))))], none⟩,
 ⟨some 2, .mov (.t 5), none⟩]
def s129 : SCode := (.seq (.region xbd 0 []) (.seq (.seq (.region xbe 0 []) (.cond (.t 3) (.seq (.region xbf 0 []) .ret) .skip)) (.seq (.region xbg 0 []) .ret)))
theorem zh9 : qg s129.eq_1 := qh s129.eq_1
theorem xu1 : qa xbd.eq_1 := qc
theorem xu2 : qa xbe.eq_1 := qc
theorem xu3 : qa xbf.eq_1 := qc
theorem xu4 : qa xbg.eq_1 := qc
attribute [go_sem] xu1 xu2 xu3 xu4 zh9
theorem zbb : FnIs Tryz.prog 129 Tryz.f129 [] news s129 [.tmp 2] 6 := zc follows Tryz.func129
def xbh : List SOper := [
 ⟨some 1, .box 1 (.t 0), none⟩,
 ⟨some 2, .mov (.k (.d (.bool false))), none⟩]
def xbi : List SOper := [
 ⟨some 3, .faddr 0 (.t 1), none⟩,
 ⟨some 4, .load none (.t 3), none⟩,
 ⟨some 5, .lenS (.t 4), none⟩,
 ⟨some 6, .bin .geq (.t 5) (.k (.d (.int .i64 1))), none⟩,
 ⟨some 7, .mov (.t 6), none⟩,
 ⟨some 8, .faddr 0 (.t 1), some (7, true)⟩,
 ⟨some 9, .load none (.t 8), some (7, true)⟩,
 ⟨some 10, .lenS (.t 9), some (7, true)⟩,
 ⟨some 11, .bin .leq (.t 10) (.k (.d (.int .i64 40))), some (7, true)⟩,
 ⟨some 12, .pick (.t 7) (.t 11) (.k (.d (.bool false))), none⟩,
 ⟨some 13, .mov (.t 12), none⟩,
 ⟨some 14, .faddr 2 (.t 1), some (13, true)⟩,
 ⟨some 15, .load none (.t 14), some (13, true)⟩,
 ⟨some 16, .len (.t 15), some (13, true)⟩,
 ⟨some 17, .bin .leq (.t 16) (.k (.d (.int .i64 900))), some (13, true)⟩,
 ⟨some 18, .pick (.t 13) (.t 17) (.k (.d (.bool false))), none⟩,
 ⟨some 19, .mov (.t 18), none⟩,
 ⟨some 20, .faddr 1 (.t 1), some (19, true)⟩,
 ⟨some 21, .load none (.t 20), some (19, true)⟩,
 ⟨some 22, .not (.t 21), some (19, true)⟩,
 ⟨some 23, .mov (.t 22), some (19, true)⟩,
 ⟨some 24, .faddr 2 (.t 1), some (23, false)⟩,
 ⟨some 25, .load none (.t 24), some (23, false)⟩,
 ⟨some 26, .len (.t 25), some (23, false)⟩,
 ⟨some 27, .bin .eql (.t 26) (.k (.d (.int .i64 0))), some (23, false)⟩,
 ⟨some 28, .pick (.t 23) (.k (.d (.bool true))) (.t 27), some (19, true)⟩,
 ⟨some 29, .pick (.t 19) (.t 28) (.k (.d (.bool false))), none⟩,
 ⟨some 2, .mov (.t 29), none⟩]
def s127 : SCode := (.seq (.region xbh 1 []) (.seq (.region xbi 0 []) .ret))
theorem zia : qg s127.eq_1 := qh s127.eq_1
theorem xu5 : qa xbh.eq_1 := qc
theorem xu6 : qa xbi.eq_1 := qc
attribute [go_sem] xu5 xu6 zia
theorem zbc : FnIs Tryz.prog 127 Tryz.f127 [] news s127 [.tmp 2] 30 := zc follows Tryz.func127
def xu7 : List SOper := [
 ⟨some 2, .mov (.k (.d .nilsl)), none⟩,
 ⟨some 3, .mov (.k (.d (.int .i64 0))), none⟩]
def xu8 : List SOper := [
 ⟨some 6, .mov (.t 0), none⟩,
 ⟨some 7, .len (.t 6), none⟩,
 ⟨some 8, .bin .eql (.t 7) (.k (.d (.int .i64 0))), none⟩]
def xu9 : List SOper := [
 ⟨some 2, .mov (.k (.d .nilsl)), none⟩,
 ⟨some 3, .mov (.k (.d (.int .i64 1))), none⟩]
def xva : List SOper := [
 ⟨some 9, .mov (.t 0), none⟩,
 ⟨some 10, .len (.t 9), none⟩,
 ⟨some 11, .call (.k (.d (.func (.func 125) [] []))) [(.t 10)], none⟩,
 ⟨some 4, .mov (.t 11), none⟩]
def xvb : List SOper := [
 ⟨some 5, .mov (.k (.d (.int .i64 0))), none⟩]
def xvc : List SOper := [
 ⟨some 12, .mov (.t 5), none⟩,
 ⟨some 13, .mov (.t 0), none⟩,
 ⟨some 14, .len (.t 13), none⟩,
 ⟨some 15, .bin .lss (.t 12) (.t 14), none⟩]
def xvd : List SOper := [
 ⟨some 18, .mov (.t 0), none⟩,
 ⟨some 19, .mov (.t 5), none⟩,
 ⟨some 20, .iaddr 3 (.t 18) (.t 19), none⟩,
 ⟨some 21, .load (some 3) (.t 20), none⟩,
 ⟨some 22, .call (.k (.d (.func (.func 127) [] []))) [(.t 21)], none⟩,
 ⟨some 23, .not (.t 22), none⟩]
def xve : List SOper := [
 ⟨some 2, .mov (.k (.d .nilsl)), none⟩,
 ⟨some 3, .mov (.k (.d (.int .i64 1))), none⟩]
def xvf : List SOper := [
 ⟨some 24, .mov (.t 4), none⟩,
 ⟨some 25, .mov (.t 0), none⟩,
 ⟨some 26, .mov (.t 5), none⟩,
 ⟨some 27, .iaddr 3 (.t 25) (.t 26), none⟩,
 ⟨some 28, .faddr 0 (.t 27), none⟩,
 ⟨some 29, .load none (.t 28), none⟩,
 ⟨some 30, .call (.k (.d (.func (.func 128) [] []))) [(.t 29)], none⟩,
 ⟨some 31, .append false 1 1 (.t 24) (.t 30), none⟩,
 ⟨some 32, .mov (.t 0), none⟩,
 ⟨some 33, .mov (.t 5), none⟩,
 ⟨some 34, .iaddr 3 (.t 32) (.t 33), none⟩,
 ⟨some 35, .faddr 1 (.t 34), none⟩,
 ⟨some 36, .load none (.t 35), none⟩,
 ⟨some 37, .call (.k (.d (.func (.func 129) [] []))) [(.t 36)], none⟩,
 ⟨some 38, .append false 1 1 (.t 31) (.t 37), none⟩,
 ⟨some 4, .mov (.t 38), none⟩]
def xvg : List SOper := [
 ⟨some 39, .mov (.t 4), none⟩,
 ⟨some 40, .mov (.t 0), none⟩,
 ⟨some 41, .mov (.t 5), none⟩,
 ⟨some 42, .iaddr 3 (.t 40) (.t 41), none⟩,
 ⟨some 43, .faddr 2 (.t 42), none⟩,
 ⟨some 44, .load none (.t 43), none⟩,
 ⟨some 45, .call (.k (.d (.func (.func 130) [] []))) [(.t 44)], none⟩,
 ⟨some 46, .append false 1 1 (.t 39) (.t 45), none⟩,
 ⟨some 4, .mov (.t 46), none⟩]
def xbj : List SOper := [
 ⟨some 16, .mov (.t 5), none⟩,
 ⟨some 17, .bin .add (.t 16) (.k (.d (.int .i64 1))), none⟩,
 ⟨some 5, .mov (.t 17), none⟩]
def q0p : SCode := (.seq (.seq (.region xvc 0 []) (.cond (.t 15) .skip (.exit 0))) (.seq (.block 1 (.seq (.seq (.region xvd 0 []) (.cond (.t 23) (.seq (.region xve 0 []) .ret) .skip)) (.seq (.region xvf 0 [(6, 12)]) (.region xvg 0 [])))) (.region xbj 0 [])))
theorem xvh : qg q0p.eq_1 := qh q0p.eq_1
def xbk : List SOper := [
 ⟨some 47, .mov (.t 0), none⟩,
 ⟨some 48, .len (.t 47), none⟩,
 ⟨some 49, .bin .gtr (.t 48) (.k (.d (.int .i64 20))), none⟩,
 ⟨some 50, .mov (.t 49), none⟩,
 ⟨some 51, .mov (.t 4), some (50, false)⟩,
 ⟨some 52, .len (.t 51), some (50, false)⟩,
 ⟨some 53, .bin .gtr (.t 52) (.k (.d (.int .i64 2000))), some (50, false)⟩,
 ⟨some 54, .pick (.t 50) (.k (.d (.bool true))) (.t 53), none⟩]
def xbl : List SOper := [
 ⟨some 2, .mov (.k (.d .nilsl)), none⟩,
 ⟨some 3, .mov (.k (.d (.int .i64 6))), none⟩]
def xbm : List SOper := [
 ⟨some 55, .mov (.t 4), none⟩,
 ⟨some 2, .mov (.t 55), none⟩,
 ⟨some 3, .mov (.k (.d (.int .i64 0))), none⟩]
def s73 : SCode := (.seq (.region xu7 0 []) (.seq (.seq (.region xu8 0 []) (.cond (.t 8) (.seq (.region xu9 0 []) .ret) .skip)) (.seq (.region xva 0 []) (.seq (.seq (.region xvb 0 []) (.block 0 (.loop q0p))) (.seq (.seq (.region xbk 0 []) (.cond (.t 54) (.seq (.region xbl 0 []) .ret) .skip)) (.seq (.region xbm 0 []) .ret))))))
theorem e73 : qg s73.eq_1 := qh s73.eq_1
theorem zbd : qa xu7.eq_1 := qc
theorem zbe : qa xu8.eq_1 := qc
theorem zbf : qa xu9.eq_1 := qc
theorem zbg : qa xva.eq_1 := qc
theorem zbh : qa xvb.eq_1 := qc
theorem zbi : qa xvc.eq_1 := qc
theorem zbj : qa xvd.eq_1 := qc
theorem zbk : qa xve.eq_1 := qc
theorem zbl : qa xvf.eq_1 := qc
theorem zbm : qa xvg.eq_1 := qc
theorem xvi : qa xbj.eq_1 := qc
theorem xvj : qa xbk.eq_1 := qc
theorem xvk : qa xbl.eq_1 := qc
theorem xvl : qa xbm.eq_1 := qc
attribute [go_sem] zbd zbe zbf zbg zbh zbi zbj zbk zbl zbm xvi xvh xvj xvk xvl e73
theorem F73 : FnIs Tryz.prog 73 Tryz.f73 [] news s73 [.tmp 2, .tmp 3] 56 := zc follows Tryz.func73
end
def qc0 (n : Int) (i : { x : List UInt8 × Nat // x.1 ++ y4 x.2 = wInt n ∧ x.2 < 18446744073709551616 }) : St :=
 ⟨[(3, true, .d (.int .u64 (i.val.2 : Nat))), (4, true, .own 0 1 (qd i.val.1))], [], [0], 1⟩
theorem qp5 (n : Int) (hn : I64 n) : qo Tryz.prog 125 [.d (.int .i64 n)] [] (.own 0 1 (qd (wInt n))) [] := by
 have hz := q4l hn
 obtain ⟨hn1, hn2⟩ := hn
 have hrest : ∀ Q : SExit → St → Prop, True := fun _ => trivial
 refine za9.go ?_
 try (refine ev ?_; try exact True.intro)
 have b128 : ∀ u : Nat, u < 18446744073709551616 → IntKind.u8.wrap (IntKind.u8.wrap ((u : Int).tmod 128) + 128) = ((UInt8.ofNat (u % 128 + 128)).toNat : Int) := by
  intro u hu
  rw [Int.tmod_eq_emod_of_nonneg (by omega), qcu, qcu, show ((u : Int) % 128 % 256 + 128) % 256 = ((u % 128 + 128 : Nat) : Int) by omega]
  simp [UInt8.toNat_ofNat]; omega
 have q128 : ∀ u : Nat, u < 18446744073709551616 → IntKind.u64.wrap ((u : Int).tdiv 128) = ((u / 128 : Nat) : Int) := by
  intro u hu
  rw [Int.tdiv_eq_ediv_of_nonneg (by omega), show ((u : Int) / 128) = ((u / 128 : Nat) : Int) by omega, f2 _ (by omega)]
 refine zk _ (fun h => ?_) (fun h => ?_)
 ·have e : IntKind.u64.wrap (IntKind.u64.wrap (IntKind.u64.wrap (IntKind.i64.wrap (0 - IntKind.i64.wrap (n + 1))) * 2) + 1) = ((zz n : Nat) : Int) := by
   simp at h
   rw [xl (n := n + 1) (by unfold I64; omega), xl (by unfold I64; omega)]
   simp only [qd8]
   unfold zz; rw [if_neg (by omega)]; omega
  try (refine ev1 @e ?_; try exact True.intro)
  refine xc (qc0 n) (fun i => i.val.2) ⟨([], zz n), by simp [wInt], hz⟩ ?_ (fun i => ?_)
  ·try (refine ev2 @qc0.eq_1 @qu ?_; try exact True.intro)
  obtain ⟨⟨p, u⟩, hi, hu⟩ := i
  simp only at hi hu
  have hl : p.length ≤ 10 := by
   have h1 := congrArg List.length hi
   have h2 := wx (n := n) ⟨hn1, hn2⟩
   simp at h1; omega
  try (refine ev1 @qc0.eq_1 ?_; try exact True.intro)
  refine zk _ (fun hc => ?_) (fun hc => ?_)
  ·have hc2 : ¬ u < 128 := by simp at hc; omega
   try (refine ev4 (b128 u hu) (q128 u hu) @wk @xd ?_; try exact True.intro)
   (repeat (with_reducible refine ob ?_))
   refine ⟨⟨(p ++ [UInt8.ofNat (u % 128 + 128)], u / 128), ?_, by omega⟩, ?_, by simp only; omega⟩
   ·simp only at hi ⊢; rw [qas hc2] at hi; rw [← hi]; simp
   ·try (refine ev1 @qc0.eq_1 ?_; try exact True.intro)
  ·have hc2 : u < 128 := by simp at hc; omega
   try (refine ev3 @qmu @wk @xd ?_; try exact True.intro)
   (repeat (with_reducible refine ob ?_))
   simp only [yh hc2] at hi
   try (refine ev1 @hi ?_; try exact True.intro)
 ·have e : IntKind.u64.wrap (IntKind.u64.wrap n * 2) = ((zz n : Nat) : Int) := by
   simp at h
   simp only [qd8]
   unfold zz; rw [if_pos (by omega)]; omega
  try (refine ev1 @e ?_; try exact True.intro)
  refine xc (qc0 n) (fun i => i.val.2) ⟨([], zz n), by simp [wInt], hz⟩ ?_ (fun i => ?_)
  ·try (refine ev2 @qc0.eq_1 @qu ?_; try exact True.intro)
  obtain ⟨⟨p, u⟩, hi, hu⟩ := i
  simp only at hi hu
  have hl : p.length ≤ 10 := by
   have h1 := congrArg List.length hi
   have h2 := wx (n := n) ⟨hn1, hn2⟩
   simp at h1; omega
  try (refine ev1 @qc0.eq_1 ?_; try exact True.intro)
  refine zk _ (fun hc => ?_) (fun hc => ?_)
  ·have hc2 : ¬ u < 128 := by simp at hc; omega
   try (refine ev4 (b128 u hu) (q128 u hu) @wk @xd ?_; try exact True.intro)
   (repeat (with_reducible refine ob ?_))
   refine ⟨⟨(p ++ [UInt8.ofNat (u % 128 + 128)], u / 128), ?_, by omega⟩, ?_, by simp only; omega⟩
   ·simp only at hi ⊢; rw [qas hc2] at hi; rw [← hi]; simp
   ·try (refine ev1 @qc0.eq_1 ?_; try exact True.intro)
  ·have hc2 : u < 128 := by simp at hc; omega
   try (refine ev3 @qmu @wk @xd ?_; try exact True.intro)
   (repeat (with_reducible refine ob ?_))
   simp only [yh hc2] at hi
   try (refine ev1 @hi ?_; try exact True.intro)
theorem qjn (s : List UInt8) (hs : s.length ≤ 100000000) : qo Tryz.prog 130 [.d (.sl 1 (qd s))] [] (.own 0 1 (qd (yi s))) [] := by
 have hw := wx (zy (n := s.length) (by omega))
 refine zba.go ?_
 try (refine ev ?_; try exact True.intro)
 refine clA za9 (qp5 s.length (zy (by omega))) ?_
 try (refine ev2 @xd @yi.eq_1 ?_; try exact True.intro)
 omega
theorem qv8 (s : List UInt8) (hs : s.length ≤ 100000000) : qo Tryz.prog 128 [.d (.str s)] [] (.own 0 1 (qd (yi s))) [] := by
 refine zgn.go ?_
 try (refine ev ?_; try exact True.intro)
 refine clA zba (qjn s hs) ?_
 try (refine ev ?_; try exact True.intro)
theorem qlm (v : Bool) : qo Tryz.prog 129 [.d (.bool v)] [] (.full 1 (qd [if v then 1 else 0])) [] := by
 refine zbb.go ?_
 try (refine ev ?_; try exact True.intro)
 have e1 : [[D.int .u8 1]] = qd [1] := rfl
 have e0 : [[D.int .u8 0]] = qd [0] := rfl
 cases v with
 | true =>
  (repeat (with_reducible refine ob ?_)); refine qct ?_
  try (refine ev1 @e1 ?_; try exact True.intro)
 | false =>
  (repeat (with_reducible refine ob ?_)); refine no_ ?_
  try (refine ev1 @e0 ?_; try exact True.intro)
def qsm (o : OpS) : Bool := decide ((o.key.length : Int) ≥ 1) && decide ((o.key.length : Int) ≤ 40) && decide ((o.val.length : Int) ≤ 900) && (!o.del || (o.val.length : Int) == 0)
theorem qv9 (o : OpS) : qsm o = zu o := by
 unfold qsm zu
 congr 1
 cases o.del
 ·rfl
 ·rw [Bool.eq_iff_iff]; simp
theorem qwa (o : OpS) : qo Tryz.prog 127 [.d (.agg (qk o))] [] (.d (.bool (zu o))) [] := by
 rw [← qv9]
 refine zbc.go ?_
 try (refine ev2 @qk.eq_1 @qsm.eq_1 ?_; try exact True.intro)
 intro h
 exact ⟨h, fun h2 => by rw [h]; simpa using h2⟩
def q5b (l : List OpS) (i : { i : Nat // i ≤ l.length ∧ ∀ o ∈ l.take i, zu o = true }) : St :=
 ⟨[(0, true, .d (.sl 3 (l.map qk))), (4, true, .own 0 1 (qd (wInt l.length ++ (l.take i.val).flatMap wOp))), (5, true, .d (.int .i64 (i.val : Nat)))], [], [0], 1⟩
set_option maxRecDepth 10000 in
theorem jc (l : List OpS) (hl : l.length ≤ 100000) : qo Tryz.prog 73 [.d (.sl 3 (l.map qk))] [] (.tup [.d (.sl 1 (qd (ql l).1)), .d (.int .i64 (ql l).2)]) [] := by
 refine F73.goT ?_
 try (refine ev ?_; try exact True.intro)
 (repeat (with_reducible refine ob ?_)); refine zk _ (fun h => ?_) (fun h => ?_)
 ·have hb : ql l = ([], 1) := by
   unfold ql
   rw [if_pos]
   simp at h ⊢
   exact .inl h
  try (refine ev2 @hb @qu ?_; try exact True.intro)
 have hw := wx (zy (n := l.length) (by omega))
 try (refine ev ?_; try exact True.intro)
 refine clA za9 (qp5 l.length (zy (by omega))) ?_
 try (refine ev ?_; try exact True.intro)
 refine xc (q5b l) (fun i => l.length - i.val) ⟨0, Nat.zero_le _, by simp⟩ ?_ (fun i => ?_)
 ·try (refine ev4 @q5b.eq_1 @List.take_zero.{0} @List.flatMap_nil.{0,0} @List.append_nil.{0} ?_; try exact True.intro)
 obtain ⟨i, hi, hp⟩ := i
 try (refine ev1 @q5b.eq_1 ?_; try exact True.intro)
 refine zk _ (fun hc => ?_) (fun hc => ?_)
 ·have hil : i < l.length := by simpa using hc
  have hwl := qda hp
  have hwt : (l.take i).length ≤ i := by rw [List.length_take]; omega
  try (refine ev2 (xi qk l hil) @qk.eq_1 ?_; try exact True.intro)
  (repeat (with_reducible refine ob ?_))
  have hpo := qwa l[i]
  simp only [qk] at hpo
  (repeat (with_reducible refine ob ?_)); first | refine cl zbc (hpo) ?_ | refine clF zbc (hpo) (fun _ => by (refine ev3 @qk.eq_1 @qn.eq_1 @qj.eq_1 ?_; try exact True.intro)) ?_
  try (refine ev ?_; try exact True.intro)
  refine zk _ (fun hc => ?_) (fun hc => ?_)
  ·have hb : ql l = ([], 1) := by
    unfold ql
    rw [if_pos]
    simp only [Bool.or_eq_true, List.any_eq_true]
    exact .inr ⟨l[i], List.getElem_mem hil, hc⟩
   try (refine ev2 @hb @qu ?_; try exact True.intro)
  have hpi : zu l[i] = true := by simpa using hc
  obtain ⟨q1, q2, q3, _⟩ := jg.1 hpi
  try (refine ev2 (xi qk l hil) @qk.eq_1 ?_; try exact True.intro)
  (repeat (with_reducible refine ob ?_))
  have hw2 := qr3 hpi
  have hk := qbh l[i].key (by omega)
  have hv := qbh l[i].val (by omega)
  refine clA zgn (qv8 l[i].key (by omega)) ?_
  try (refine ev1 @xd ?_; try exact True.intro)
  (repeat (with_reducible refine ob ?_))
  try (refine ev2 (xi qk l hil) @qk.eq_1 ?_; try exact True.intro)
  (repeat (with_reducible refine ob ?_))
  (repeat (with_reducible refine ob ?_)); first | refine cl zbb (qlm l[i].del) ?_ | refine clF zbb (qlm l[i].del) (fun _ => by (refine ev3 @qk.eq_1 @qn.eq_1 @qj.eq_1 ?_; try exact True.intro)) ?_
  try (refine ev1 @xd ?_; try exact True.intro)
  (repeat (with_reducible refine ob ?_))
  try (refine ev2 (xi qk l hil) @qk.eq_1 ?_; try exact True.intro)
  (repeat (with_reducible refine ob ?_))
  refine clA zba (qjn l[i].val (by omega)) ?_
  try (refine ev1 @xd ?_; try exact True.intro)
  (repeat (with_reducible refine ob ?_))
  have h1 : wInt l.length ++ (l.take (i + 1)).flatMap wOp = wInt l.length ++ List.flatMap wOp (List.take i l) ++ yi l[i].key ++ [if l[i].del = true then 1 else 0] ++ yi l[i].val := by
   rw [qi9 wOp l hil]; simp [wOp]
  refine ⟨⟨i + 1, hil, fun o ho => ?_⟩, ?_, by dsimp only; omega⟩
  ·rw [List.take_succ_eq_append_getElem hil] at ho
   rcases List.mem_append.1 ho with ho | ho
   ·exact hp o ho
   ·simp at ho; subst ho; exact hpi
  try (refine ev3 @q5b.eq_1 @h1 (qt (show i < 9223372036854775807 by omega)) ?_; try exact True.intro)
 ·have hil : i = l.length := by simp at hc; omega
  subst hil
  rw [List.take_length] at hp
  have hwl := qda hp
  have hne : ¬ (decide (l.length = 0) || l.any (fun o => !zu o)) = true := by
   simp only [Bool.or_eq_true, decide_eq_true_eq, not_or, List.any_eq_true, not_exists, not_and]
   exact ⟨by simp at h; simpa using h, fun o ho => by simp [hp o ho]⟩
  have hx : wInt l.length ++ l.flatMap wOp = wOps l := rfl
  try (refine ev2 @List.take_length.{0} @hx ?_; try exact True.intro)
  refine ⟨fun h => by rw [h]; rfl, ?_⟩
  refine zk _ (fun hc => ?_) (fun hc => ?_)
  ·have hb : ql l = ([], 6) := by
    unfold ql
    rw [if_neg hne, if_pos]
    simp only [Bool.or_eq_true, decide_eq_true_eq] at hc ⊢
    omega
   try (refine ev2 @hb @qu ?_; try exact True.intro)
  ·have hb : ql l = (wOps l, 0) := by
    unfold ql
    rw [if_neg hne, if_neg]
    simp only [Bool.or_eq_true, Bool.or_eq_false_iff, decide_eq_true_eq, decide_eq_false_iff_not] at hc ⊢
    omega
   try (refine ev1 @hb ?_; try exact True.intro)
end Go.Proofs.YtinnaedmdoengaaGreat
namespace Go.Proofs.YtinnaedmdoengaaGreat
open Go.Abs
set_option linter.unusedSimpArgs false
set_option linter.unusedVariables false
structure Rd where
 b : List UInt8
 pos : Nat
 failed : Bool
 deriving DecidableEq, Inhabited
def rdO (r : Rd) : AObj := .row [.d (.sl 1 (qd r.b)), .d (.int .i64 (r.pos : Nat)), .d (.bool r.failed)]
structure Rd.Ok (r : Rd) : Prop where
 len : r.b.length ≤ 1000000000
 pos : r.pos ≤ r.b.length
def ki (n : Nat) (r : Rd) : List UInt8 × Rd := if r.failed || decide (r.b.length - r.pos < n) then ([], { r with failed := true }) else ((r.b.drop r.pos).take n, { r with pos := r.pos + n })
noncomputable section
set_option maxRecDepth 100000
def xvm : List SOper := [
 ⟨some 2, .mov (.k (.d .nilptr)), none⟩]
def xvn : List SOper := [
 ⟨some 3, .mov (.t 0), none⟩,
 ⟨some 4, .append false 1 1 (.k (.d .nilsl)) (.t 3), none⟩,
 ⟨some 5, .build [.nilsl, (.int .i64 0), (.bool false)] [(0, 1, (.t 4))], none⟩,
 ⟨some 6, .box 1 (.t 5), none⟩,
 ⟨some 2, .mov (.t 6), none⟩]
def s54 : SCode := (.seq (.region xvm 0 []) (.seq (.region xvn 1 []) .ret))
theorem e54 : qg s54.eq_1 := qh s54.eq_1
theorem zbn : qa xvm.eq_1 := qc
theorem zbo : qa xvn.eq_1 := qc
attribute [go_sem] zbn zbo e54
theorem F54 : FnIs Tryz.prog 54 Tryz.f54 [] news s54 [.tmp 2] 7 := zc follows Tryz.func54
def xbn : List SOper := [
 ⟨some 4, .mov (.k (.d .nilsl)), none⟩]
def xbo : List SOper := [
 ⟨some 5, .mov (.t 0), none⟩,
 ⟨some 6, .nilCheck (.t 5), none⟩,
 ⟨some 7, .faddr 2 (.t 6), none⟩,
 ⟨some 8, .load none (.t 7), none⟩,
 ⟨some 9, .mov (.t 8), none⟩,
 ⟨some 10, .mov (.t 1), some (9, false)⟩,
 ⟨some 11, .mov (.t 0), some (9, false)⟩,
 ⟨some 12, .nilCheck (.t 11), some (9, false)⟩,
 ⟨some 13, .faddr 0 (.t 12), some (9, false)⟩,
 ⟨some 14, .load none (.t 13), some (9, false)⟩,
 ⟨some 15, .len (.t 14), some (9, false)⟩,
 ⟨some 16, .mov (.t 0), some (9, false)⟩,
 ⟨some 17, .nilCheck (.t 16), some (9, false)⟩,
 ⟨some 18, .faddr 1 (.t 17), some (9, false)⟩,
 ⟨some 19, .load none (.t 18), some (9, false)⟩,
 ⟨some 20, .bin .sub (.t 15) (.t 19), some (9, false)⟩,
 ⟨some 21, .bin .gtr (.t 10) (.t 20), some (9, false)⟩,
 ⟨some 22, .pick (.t 9) (.k (.d (.bool true))) (.t 21), none⟩]
def xbp : List SOper := [
 ⟨some 23, .mov (.t 0), none⟩,
 ⟨some 24, .nilCheck (.t 23), none⟩,
 ⟨some 25, .faddr 2 (.t 24), none⟩,
 ⟨none, .store none (.t 25) (.k (.d (.bool true))), none⟩]
def xbq : List SOper := [
 ⟨some 4, .mov (.k (.d .nilsl)), none⟩]
def xbr : List SOper := [
 ⟨some 26, .mov (.t 0), none⟩,
 ⟨some 27, .nilCheck (.t 26), none⟩,
 ⟨some 28, .faddr 1 (.t 27), none⟩,
 ⟨some 29, .load none (.t 28), none⟩,
 ⟨some 30, .mov (.t 1), none⟩,
 ⟨some 31, .bin .add (.t 29) (.t 30), none⟩,
 ⟨some 32, .nilCheck (.t 26), none⟩,
 ⟨some 33, .faddr 1 (.t 32), none⟩,
 ⟨none, .store none (.t 33) (.t 31), none⟩]
def xbs : List SOper := [
 ⟨some 34, .mov (.t 0), none⟩,
 ⟨some 35, .nilCheck (.t 34), none⟩,
 ⟨some 36, .faddr 0 (.t 35), none⟩,
 ⟨some 37, .load none (.t 36), none⟩,
 ⟨some 38, .mov (.t 0), none⟩,
 ⟨some 39, .nilCheck (.t 38), none⟩,
 ⟨some 40, .faddr 1 (.t 39), none⟩,
 ⟨some 41, .load none (.t 40), none⟩,
 ⟨some 42, .mov (.t 1), none⟩,
 ⟨some 43, .bin .sub (.t 41) (.t 42), none⟩,
 ⟨some 44, .mov (.t 0), none⟩,
 ⟨some 45, .nilCheck (.t 44), none⟩,
 ⟨some 46, .faddr 1 (.t 45), none⟩,
 ⟨some 47, .load none (.t 46), none⟩,
 ⟨some 48, .slice 1 (.t 37) (some (.t 43)) (some (.t 47)) none, none⟩,
 ⟨some 4, .mov (.t 48), none⟩]
def s152 : SCode := (.seq (.region xbn 0 []) (.seq (.seq (.region xbo 0 []) (.cond (.t 22) (.seq (.region xbp 0 []) (.seq (.region xbq 0 []) .ret)) .skip)) (.seq (.region xbr 0 []) (.seq (.region xbs 0 []) .ret))))
theorem zib : qg s152.eq_1 := qh s152.eq_1
theorem xvo : qa xbn.eq_1 := qc
theorem xvp : qa xbo.eq_1 := qc
theorem xvq : qa xbp.eq_1 := qc
theorem xvr : qa xbq.eq_1 := qc
theorem xvs : qa xbr.eq_1 := qc
theorem xvt : qa xbs.eq_1 := qc
attribute [go_sem] xvo xvp xvq xvr xvs xvt zib
theorem x6n : FnIs Tryz.prog 152 Tryz.f152 [] news s152 [.tmp 4] 49 := zc follows Tryz.func152
def xbt : List SOper := [
 ⟨some 2, .mov (.k (.d (.int .i64 0))), none⟩]
def xbu : List SOper := [
 ⟨some 3, .mov (.t 0), none⟩,
 ⟨some 4, .eqnil false .ptr (.t 3), none⟩]
def xbv : List SOper := [
 ⟨some 2, .mov (.k (.d (.int .i64 0))), none⟩]
def xbw : List SOper := [
 ⟨some 5, .mov (.t 0), none⟩,
 ⟨some 6, .nilCheck (.t 5), none⟩,
 ⟨some 7, .faddr 0 (.t 6), none⟩,
 ⟨some 8, .load none (.t 7), none⟩,
 ⟨some 9, .len (.t 8), none⟩,
 ⟨some 10, .mov (.t 0), none⟩,
 ⟨some 11, .nilCheck (.t 10), none⟩,
 ⟨some 12, .faddr 1 (.t 11), none⟩,
 ⟨some 13, .load none (.t 12), none⟩,
 ⟨some 14, .bin .sub (.t 9) (.t 13), none⟩,
 ⟨some 2, .mov (.t 14), none⟩]
def s162 : SCode := (.seq (.region xbt 0 []) (.seq (.seq (.region xbu 0 []) (.cond (.t 4) (.seq (.region xbv 0 []) .ret) .skip)) (.seq (.region xbw 0 []) .ret)))
theorem zic : qg s162.eq_1 := qh s162.eq_1
theorem xvu : qa xbt.eq_1 := qc
theorem xvv : qa xbu.eq_1 := qc
theorem xvw : qa xbv.eq_1 := qc
theorem xvx : qa xbw.eq_1 := qc
attribute [go_sem] xvu xvv xvw xvx zic
theorem zgo : FnIs Tryz.prog 162 Tryz.f162 [] news s162 [.tmp 2] 15 := zc follows Tryz.func162
def xbx : List SOper := [
 ⟨some 2, .mov (.k (.d (.int .i64 0))), none⟩]
def xby : List SOper := [
 ⟨some 4, .mov (.t 0), none⟩,
 ⟨some 5, .eqnil false .ptr (.t 4), none⟩,
 ⟨some 3, .mov (.t 5), none⟩]
def xbz : List SOper := [
 ⟨some 2, .mov (.k (.d (.int .i64 7))), none⟩]
def xb0 : List SOper := [
 ⟨some 7, .mov (.t 0), none⟩,
 ⟨some 8, .nilCheck (.t 7), none⟩,
 ⟨some 9, .faddr 2 (.t 8), none⟩,
 ⟨some 10, .load none (.t 9), none⟩,
 ⟨some 11, .mov (.t 10), none⟩,
 ⟨some 12, .mov (.t 0), some (11, false)⟩,
 ⟨some 13, .call (.k (.d (.func (.func 162) [] []))) [(.t 12)], some (11, false)⟩,
 ⟨some 14, .bin .gtr (.t 13) (.k (.d (.int .i64 0))), some (11, false)⟩,
 ⟨some 15, .pick (.t 11) (.k (.d (.bool true))) (.t 14), none⟩,
 ⟨some 6, .mov (.t 15), none⟩]
def xb1 : List SOper := [
 ⟨some 2, .mov (.k (.d (.int .i64 4))), none⟩]
def xb2 : List SOper := [
 ⟨some 2, .mov (.k (.d (.int .i64 0))), none⟩]
def s109 : SCode := (.seq (.region xbx 0 []) (.seq (.block 0 (.seq (.region xby 0 []) (.cond (.t 3) (.seq (.region xbz 0 []) .ret) (.seq (.region xb0 0 []) (.cond (.t 6) (.seq (.region xb1 0 []) .ret) .skip))))) (.seq (.region xb2 0 []) .ret)))
theorem zid : qg s109.eq_1 := qh s109.eq_1
theorem xvy : qa xbx.eq_1 := qc
theorem xvz : qa xby.eq_1 := qc
theorem xv0 : qa xbz.eq_1 := qc
theorem xv1 : qa xb0.eq_1 := qc
theorem xv2 : qa xb1.eq_1 := qc
theorem xv3 : qa xb2.eq_1 := qc
attribute [go_sem] xvy xvz xv0 xv1 xv2 xv3 zid
theorem zgp : FnIs Tryz.prog 109 Tryz.f109 [] news s109 [.tmp 2] 16 := zc follows Tryz.func109
end
theorem q5c (b : List UInt8) (hb : b.length ≤ 1000000000) : qo Tryz.prog 54 [.d (.sl 1 (qd b))] [] (.d (.ptr 0 0)) [rdO ⟨b, 0, false⟩] := by
 refine F54.go ?_
 try (refine ev ?_; try exact True.intro)
 (repeat (with_reducible refine ob ?_))
 try (refine ev2 @rdO.eq_1 @Int.ofNat_zero ?_; try exact True.intro)
theorem qnc (r : Rd) (n : Nat) (hr : r.Ok) (hn : n ≤ 1000000000) : qo Tryz.prog 152 [.d (.ptr 0 0), .d (.int .i64 n)] [rdO r] (.d (.sl 1 (qd (ki n r).1))) [rdO (ki n r).2] := by
 have h1 := hr.len
 have h2 := hr.pos
 have e1 : IntKind.i64.wrap ((r.b.length : Int) - (r.pos : Int)) = ((r.b.length - r.pos : Nat) : Int) := by rw [xl (by unfold I64; omega)]; omega
 have e2 : IntKind.i64.wrap ((r.pos : Int) + (n : Int)) = ((r.pos + n : Nat) : Int) := by rw [xl (by unfold I64; omega)]; omega
 have e3 : IntKind.i64.wrap ((r.pos : Int) + (n : Int) - (n : Int)) = ((r.pos : Nat) : Int) := by rw [xl (by unfold I64; omega)]; omega
 have e5 : ((r.pos : Int) + (n : Int)).toNat = r.pos + n := by omega
 refine x6n.go ?_
 try (refine ev2 @rdO.eq_1 @e1 ?_; try exact True.intro)
 refine ⟨fun h => by rw [h]; rfl, ?_⟩
 have hd : (r.failed || decide ((n : Int) > ((r.b.length - r.pos : Nat) : Int))) = (r.failed || decide (r.b.length - r.pos < n)) := by
  congr 1; exact decide_eq_decide.2 (by omega)
 refine zk _ (fun h => ?_) (fun h => ?_)
 ·rw [hd] at h
  have hx : ki n r = ([], { r with failed := true }) := by unfold ki; rw [if_pos h]
  try (refine ev2 @hx @qu ?_; try exact True.intro)
 ·rw [hd] at h
  have hx : ki n r = ((r.b.drop r.pos).take n, { r with pos := r.pos + n }) := by unfold ki; rw [if_neg (by rw [h]; simp)]
  simp only [Bool.or_eq_false_iff, decide_eq_false_iff_not] at h
  have e4 : r.pos + n - r.pos = n := by omega
  try (refine ev2 @hx @e2 ?_; try exact True.intro)
  try (refine ev1 @e3 ?_; try exact True.intro)
  (repeat (with_reducible refine ob ?_))
  try (refine ev6 @xq @xj @e4 @e3 @e5 @Int.toNat_natCast ?_; try exact True.intro)
theorem qc1 {r : Rd} (hr : r.Ok) (n : Nat) : (ki n r).2.Ok ∧ (ki n r).2.b = r.b := by
 unfold ki
 split
 ·exact ⟨⟨hr.len, hr.pos⟩, rfl⟩
 ·rename_i h
  simp only [Bool.or_eq_true, decide_eq_true_eq, not_or] at h
  have := hr.pos
  exact ⟨⟨hr.len, by simp only; omega⟩, rfl⟩
theorem q5d (r : Rd) (hr : r.Ok) : qo Tryz.prog 162 [.d (.ptr 0 0)] [rdO r] (.d (.int .i64 (r.b.length - r.pos : Nat))) [rdO r] := by
 have h1 := hr.len
 have h2 := hr.pos
 have e1 : IntKind.i64.wrap ((r.b.length : Int) - (r.pos : Int)) = ((r.b.length - r.pos : Nat) : Int) := by rw [xl (by unfold I64; omega)]; omega
 refine zgo.go ?_
 try (refine ev1 @rdO.eq_1 ?_; try exact True.intro)
 (repeat (with_reducible refine ob ?_)); refine no_ ?_
 try (refine ev1 @e1 ?_; try exact True.intro)
def rEnd (r : Rd) : Int := if r.failed || decide (r.pos < r.b.length) then 4 else 0
theorem xjy (r : Rd) (hr : r.Ok) : qo Tryz.prog 109 [.d (.ptr 0 0)] [rdO r] (.d (.int .i64 (rEnd r))) [rdO r] := by
 have h2 := hr.pos
 have hl := q5d r hr
 simp only [rdO] at hl
 obtain ⟨b, p, f⟩ := r
 refine zgp.go ?_
 try (refine ev1 @rdO.eq_1 ?_; try exact True.intro)
 (repeat (with_reducible refine ob ?_)); refine no_ ?_
 cases f
 ·try (refine ev ?_; try exact True.intro)
  (repeat (with_reducible refine ob ?_)); refine clO [0] zgo (hl) ?_
  try (refine ev ?_; try exact True.intro)
  refine zk _ (fun h => ?_) (fun h => ?_)
  ·have hx : rEnd ⟨b, p, false⟩ = 4 := by unfold rEnd; rw [if_pos]; simp at h ⊢; omega
   try (refine ev1 @hx ?_; try exact True.intro)
  ·have hx : rEnd ⟨b, p, false⟩ = 0 := by unfold rEnd; rw [if_neg]; simp at h ⊢; omega
   try (refine ev1 @hx ?_; try exact True.intro)
 ·try (refine ev ?_; try exact True.intro)
  refine qiw (.int .i64 0) rfl ?_
  try (refine ev1 @rEnd.eq_1 ?_; try exact True.intro)
  (repeat (with_reducible refine ob ?_)); refine qct ?_
  try (refine ev ?_; try exact True.intro)
def unz (u : Nat) : Int := if u % 2 = 0 then (u / 2 : Nat) else -((u / 2 : Nat) : Int) - 1
def qho : Nat → Nat → Nat → Rd → Int × Rd
 | 0, _, _, r => (0, { r with failed := true })
 | k + 1, i, u, r =>
  if (ki 1 r).2.failed then (0, (ki 1 r).2) else
   if ((ki 1 r).1.headD 0).toNat < 128 then (unz ((u + ((ki 1 r).1.headD 0).toNat % 128 * 128 ^ i) % 18446744073709551616), { (ki 1 r).2 with failed := (((ki 1 r).1.headD 0).toNat == 0 && decide (0 < i)) || (decide (i = 9) && decide (((ki 1 r).1.headD 0).toNat > 1)) })
   else qho k (i + 1) ((u + ((ki 1 r).1.headD 0).toNat % 128 * 128 ^ i) % 18446744073709551616) (ki 1 r).2
def rInt (r : Rd) : Int × Rd := qho 10 0 0 r
noncomputable section
set_option maxRecDepth 100000
def xb3 : List SOper := [
 ⟨some 2, .mov (.k (.d (.int .i64 0))), none⟩]
def xb4 : List SOper := [
 ⟨some 3, .mov (.k (.d (.int .u64 0))), none⟩]
def xb5 : List SOper := [
 ⟨some 6, .mov (.k (.d (.int .i64 0))), none⟩]
def xb6 : List SOper := [
 ⟨some 7, .bin .lss (.t 6) (.k (.d (.int .i64 10))), none⟩]
def xb7 : List SOper := [
 ⟨some 8, .mov (.t 6), none⟩,
 ⟨some 4, .mov (.t 8), none⟩]
def xb8 : List SOper := [
 ⟨some 9, .mov (.t 0), none⟩,
 ⟨some 10, .call (.k (.d (.func (.func 152) [] []))) [(.t 9), (.k (.d (.int .i64 1)))], none⟩,
 ⟨some 5, .mov (.t 10), none⟩]
def xb9 : List SOper := [
 ⟨some 11, .mov (.t 0), none⟩,
 ⟨some 12, .nilCheck (.t 11), none⟩,
 ⟨some 13, .faddr 2 (.t 12), none⟩,
 ⟨some 14, .load none (.t 13), none⟩]
def xca : List SOper := [
 ⟨some 2, .mov (.k (.d (.int .i64 0))), none⟩]
def xcb : List SOper := [
 ⟨some 15, .mov (.t 3), none⟩,
 ⟨some 16, .mov (.t 5), none⟩,
 ⟨some 17, .iaddr 1 (.t 16) (.k (.d (.int .i64 0))), none⟩,
 ⟨some 18, .load none (.t 17), none⟩,
 ⟨some 19, .bin .and (.t 18) (.k (.d (.int .u8 127))), none⟩,
 ⟨some 20, .conv .u64 (.t 19), none⟩,
 ⟨some 21, .mov (.t 4), none⟩,
 ⟨some 22, .bin .mul (.k (.d (.int .i64 7))) (.t 21), none⟩,
 ⟨some 23, .bin .shl (.t 20) (.t 22), none⟩,
 ⟨some 24, .bin .or (.t 15) (.t 23), none⟩,
 ⟨some 3, .mov (.t 24), none⟩]
def xcc : List SOper := [
 ⟨some 25, .mov (.t 5), none⟩,
 ⟨some 26, .iaddr 1 (.t 25) (.k (.d (.int .i64 0))), none⟩,
 ⟨some 27, .load none (.t 26), none⟩,
 ⟨some 28, .bin .lss (.t 27) (.k (.d (.int .u8 128))), none⟩]
def q0q : List SOper := [
 ⟨some 29, .mov (.t 0), none⟩,
 ⟨some 30, .mov (.t 5), none⟩,
 ⟨some 31, .iaddr 1 (.t 30) (.k (.d (.int .i64 0))), none⟩,
 ⟨some 32, .load none (.t 31), none⟩,
 ⟨some 33, .bin .eql (.t 32) (.k (.d (.int .u8 0))), none⟩,
 ⟨some 34, .mov (.t 33), none⟩,
 ⟨some 35, .mov (.t 4), some (34, true)⟩,
 ⟨some 36, .bin .gtr (.t 35) (.k (.d (.int .i64 0))), some (34, true)⟩,
 ⟨some 37, .pick (.t 34) (.t 36) (.k (.d (.bool false))), none⟩,
 ⟨some 38, .mov (.t 37), none⟩,
 ⟨some 39, .mov (.t 4), some (38, false)⟩,
 ⟨some 40, .bin .eql (.t 39) (.k (.d (.int .i64 9))), some (38, false)⟩,
 ⟨some 41, .mov (.t 40), some (38, false)⟩,
 ⟨some 42, .mov (.t 5), some (41, true)⟩,
 ⟨some 43, .iaddr 1 (.t 42) (.k (.d (.int .i64 0))), some (41, true)⟩,
 ⟨some 44, .load none (.t 43), some (41, true)⟩,
 ⟨some 45, .bin .gtr (.t 44) (.k (.d (.int .u8 1))), some (41, true)⟩,
 ⟨some 46, .pick (.t 41) (.t 45) (.k (.d (.bool false))), some (38, false)⟩,
 ⟨some 47, .pick (.t 38) (.k (.d (.bool true))) (.t 46), none⟩,
 ⟨some 48, .nilCheck (.t 29), none⟩,
 ⟨some 49, .faddr 2 (.t 48), none⟩,
 ⟨none, .store none (.t 49) (.t 47), none⟩]
def q0r : List SOper := [
 ⟨some 50, .mov (.t 3), none⟩,
 ⟨some 51, .bin .shr (.t 50) (.k (.d (.int .u64 1))), none⟩,
 ⟨some 52, .conv .i64 (.t 51), none⟩,
 ⟨some 53, .mov (.t 3), none⟩,
 ⟨some 54, .bin .and (.t 53) (.k (.d (.int .u64 1))), none⟩,
 ⟨some 55, .conv .i64 (.t 54), none⟩,
 ⟨some 56, .neg (.t 55), none⟩,
 ⟨some 57, .bin .xor (.t 52) (.t 56), none⟩,
 ⟨some 2, .mov (.t 57), none⟩]
def q0s : List SOper := [
 ⟨some 58, .bin .add (.t 6) (.k (.d (.int .i64 1))), none⟩,
 ⟨some 6, .mov (.t 58), none⟩]
def qsn : SCode := (.seq (.region xb6 0 []) (.seq (.cond (.t 7) .skip (.exit 0)) (.seq (.block 1 (.seq (.region xb7 0 []) (.seq (.region xb8 0 []) (.seq (.seq (.region xb9 0 []) (.cond (.t 14) (.seq (.region xca 0 []) .ret) .skip)) (.seq (.region xcb 0 []) (.seq (.region xcc 0 []) (.cond (.t 28) (.seq (.region q0q 0 []) (.seq (.region q0r 0 []) .ret)) .skip))))))) (.region q0s 0 []))))
theorem xjz : qg qsn.eq_1 := qh qsn.eq_1
def q0t : List SOper := [
 ⟨some 59, .mov (.t 0), none⟩,
 ⟨some 60, .nilCheck (.t 59), none⟩,
 ⟨some 61, .faddr 2 (.t 60), none⟩,
 ⟨none, .store none (.t 61) (.k (.d (.bool true))), none⟩]
def q0u : List SOper := [
 ⟨some 2, .mov (.k (.d (.int .i64 0))), none⟩]
def s105 : SCode := (.seq (.region xb3 0 []) (.seq (.region xb4 0 []) (.seq (.seq (.region xb5 0 []) (.block 0 (.loop qsn))) (.seq (.region q0t 0 []) (.seq (.region q0u 0 []) .ret)))))
theorem zie : qg s105.eq_1 := qh s105.eq_1
theorem xv4 : qa xb3.eq_1 := qc
theorem xv5 : qa xb4.eq_1 := qc
theorem xv6 : qa xb5.eq_1 := qc
theorem xv7 : qa xb6.eq_1 := qc
theorem xv8 : qa xb7.eq_1 := qc
theorem xv9 : qa xb8.eq_1 := qc
theorem xwa : qa xb9.eq_1 := qc
theorem xwb : qa xca.eq_1 := qc
theorem xwc : qa xcb.eq_1 := qc
theorem xwd : qa xcc.eq_1 := qc
theorem xj0 : qa q0q.eq_1 := qc
theorem xj1 : qa q0r.eq_1 := qc
theorem xj2 : qa q0s.eq_1 := qc
theorem xj3 : qa q0t.eq_1 := qc
theorem xj4 : qa q0u.eq_1 := qc
attribute [go_sem] xv4 xv5 xv6 xv7 xv8 xv9 xwa xwb xwc xwd xj0 xj1 xj2 xjz xj3 xj4 zie
theorem zbp : FnIs Tryz.prog 105 Tryz.f105 [] news s105 [.tmp 2] 62 := zc follows Tryz.func105
end
theorem qp6 {r : Rd} (h : (ki 1 r).2.failed = false) : ∃ c, (ki 1 r).1 = [c] := by
 unfold ki at h ⊢
 split at h
 ·cases h
 ·rename_i hn
  rw [if_neg hn]
  simp only [Bool.or_eq_true, decide_eq_true_eq, not_or] at hn
  have : r.pos < r.b.length := by omega
  exact ⟨r.b[r.pos], by simp only; rw [List.drop_eq_getElem_cons this]; rfl⟩
theorem q0v (u d i : Nat) (hu : u < 2 ^ i) : u ||| d * 2 ^ i = u + d * 2 ^ i := by
 have := Nat.shiftLeft_add_eq_or_of_lt hu d
 rw [Nat.shiftLeft_eq] at this
 rw [Nat.or_comm, ← this, Nat.add_comm]
theorem q0w (i : Nat) : 128 ^ i = 2 ^ (7 * i) := by rw [Nat.pow_mul]
theorem qp7 (n a b : Nat) (ha : a < 2 ^ n) (hb : b < 2 ^ n) : qqs n (a : Int) (b : Int) = ((a &&& b : Nat) : Int) := by
 unfold qqs
 rw [BitVec.ofInt_natCast, BitVec.ofInt_natCast, BitVec.toNat_and, BitVec.toNat_ofNat, BitVec.toNat_ofNat, Nat.mod_eq_of_lt ha, Nat.mod_eq_of_lt hb]
theorem q5e {u c i : Nat} (hi : i ≤ 9) (hu : u < 128 ^ i) (hc : c < 256) :
  IntKind.u64.wrap (bvOr 64 (u : Int) (IntKind.u64.wrap (IntKind.u64.wrap (IntKind.u8.wrap (qqs 8 (c : Int) 127)) * 2 ^ min (7 * i) 64))) = (((u + c % 128 * 128 ^ i) % 18446744073709551616 : Nat) : Int) := by
 have e1 : qqs 8 (c : Int) 127 = ((c % 128 : Nat) : Int) := by
  have := qp7 8 c 127 (by omega) (by omega)
  rw [show c &&& 127 = c % 128 from Nat.and_two_pow_sub_one_eq_mod c 7] at this
  exact this
 have e2 : min (7 * i) 64 = 7 * i := by omega
 have hcm : c % 128 < 128 := Nat.mod_lt _ (by decide)
 rw [e1, e2, qcu, show ((c % 128 : Nat) : Int) % 256 = ((c % 128 : Nat) : Int) by omega, f2 _ (by omega)]
 generalize c % 128 = d at hcm
 have e3 : ((d : Nat) : Int) * 2 ^ (7 * i) = ((d * 2 ^ (7 * i) : Nat) : Int) := by simp
 rw [e3]
 have hp : 128 ^ i ≤ 128 ^ 9 := Nat.pow_le_pow_right (by decide) hi
 have hp9 : (128 : Nat) ^ 9 = 9223372036854775808 := by decide
 have e4 : IntKind.u64.wrap ((d * 2 ^ (7 * i) : Nat) : Int) = ((d * 2 ^ (7 * i) % 18446744073709551616 : Nat) : Int) := by rw [qd8]; omega
 rw [e4, qtl _ _ (by omega) (Nat.mod_lt _ (by decide)), q0w]
 rw [q0w] at hu
 rcases Nat.lt_or_ge i 9 with h9 | h9
 ·have hp8 : 128 ^ i ≤ 128 ^ 8 := Nat.pow_le_pow_right (by decide) (by omega)
  have e8 : (128 : Nat) ^ 8 = 72057594037927936 := by decide
  rw [q0w] at hp8
  have hd : d * 2 ^ (7 * i) ≤ 127 * 72057594037927936 := Nat.mul_le_mul (by omega) (by omega)
  rw [Nat.mod_eq_of_lt (by omega), q0v _ _ _ hu, f2 _ (by omega), Nat.mod_eq_of_lt (by omega)]
 ·have : i = 9 := by omega
  subst this
  have e9 : (2 : Nat) ^ (7 * 9) = 9223372036854775808 := by decide
  rw [e9] at hu ⊢
  have h1 : d * 9223372036854775808 % 18446744073709551616 = d % 2 * 2 ^ 63 := by
   have : (2 : Nat) ^ 63 = 9223372036854775808 := by decide
   rw [this]; omega
  rw [h1, q0v u (d % 2) 63 (by
   have : (2 : Nat) ^ 63 = 9223372036854775808 := by decide
   omega)]
  have : (2 : Nat) ^ 63 = 9223372036854775808 := by decide
  rw [this, f2 _ (by omega)]
  congr 1
  omega
theorem q5f {u : Nat} (h : u < 18446744073709551616) :
  IntKind.i64.wrap (qnn 64 (IntKind.i64.wrap ((u : Int).fdiv (2 ^ min 1 64))) (IntKind.i64.wrap (0 - IntKind.i64.wrap (IntKind.u64.wrap (qqs 64 (u : Int) 1))))) = unz u := by
 have e1 : (u : Int).fdiv (2 ^ min 1 64) = ((u / 2 : Nat) : Int) := by
  show (u : Int).fdiv 2 = _
  rw [Int.fdiv_eq_ediv_of_nonneg _ (by decide)]; omega
 have e2 : qqs 64 (u : Int) 1 = ((u % 2 : Nat) : Int) := by
  have := qp7 64 u 1 (by omega) (by omega)
  rw [show u &&& 1 = u % 2 from Nat.and_two_pow_sub_one_eq_mod u 1] at this
  exact this
 rw [e1, e2, f2 _ (by omega), xl (n := ((u / 2 : Nat) : Int)) (by unfold I64; omega), xl (n := ((u % 2 : Nat) : Int)) (by unfold I64; omega), xl (n := 0 - ((u % 2 : Nat) : Int)) (by unfold I64; omega)]
 unfold qnn unz
 rcases Nat.mod_two_eq_zero_or_one u with hp | hp
 ·rw [hp, if_pos rfl]
  have : BitVec.ofInt 64 (0 - ((0 : Nat) : Int)) = 0#64 := by decide
  rw [this, BitVec.xor_zero, BitVec.ofInt_natCast, BitVec.toNat_ofNat, Nat.mod_eq_of_lt (by omega), xl (by unfold I64; omega)]
 ·rw [hp, if_neg (by decide)]
  have e3 : BitVec.ofInt 64 (0 - ((1 : Nat) : Int)) = BitVec.ofInt 64 18446744073709551615 := by decide
  rw [e3, qdt _ (by omega)]
  simp only [IntKind.wrap, IntKind.bits, IntKind.signed]
  simp
  omega
def q5g (i u : Nat) (r : Rd) : St := ⟨[(0, true, .d (.ptr 0 0)), (3, true, .d (.int .u64 (u : Nat))), (6, true, .d (.int .i64 (i : Nat)))], [rdO r], [], 1⟩
set_option maxRecDepth 10000 in
theorem q0x (r : Rd) (hr : r.Ok) : qo Tryz.prog 105 [.d (.ptr 0 0)] [rdO r] (.d (.int .i64 (rInt r).1)) [rdO (rInt r).2] := by
 refine zbp.go ?_
 try (refine ev ?_; try exact True.intro)
 refine xc (fun i : { x : Nat × Nat × Rd // x.1 ≤ 10 ∧ x.2.1 < 18446744073709551616 ∧ (x.1 ≤ 9 → x.2.1 < 128 ^ x.1) ∧ x.2.2.Ok ∧ qho (10 - x.1) x.1 x.2.1 x.2.2 = rInt r } => q5g i.val.1 i.val.2.1 i.val.2.2) (fun i => 10 - i.val.1) ⟨(0, 0, r), by simp, by simp, by simp, hr, rfl⟩ ?_ (fun i => ?_)
 ·try (refine ev3 @q5g.eq_1 @Int.ofNat_zero @rdO.eq_1 ?_; try exact True.intro)
 obtain ⟨⟨i, u, rd⟩, hi, hu, hu2, hrd, hx⟩ := i
 simp only at hi hu hu2 hrd hx
 try (refine ev2 @q5g.eq_1 @rdO.eq_1 ?_; try exact True.intro)
 (repeat (with_reducible refine ob ?_)); refine zk _ (fun h => ?_) (fun h => ?_)
 ·have hil : i < 10 := by simp at h; omega
  have hn := qnc rd 1 hrd (by decide)
  obtain ⟨hn1, hn2⟩ := qc1 hrd 1
  have hk : 10 - i = (10 - (i + 1)) + 1 := by omega
  rw [hk, qho] at hx
  try (refine ev ?_; try exact True.intro)
  simp only [rdO] at hn
  (repeat (with_reducible refine ob ?_)); refine clO [0] x6n (hn) ?_
  try (refine ev ?_; try exact True.intro)
  cases hf : (ki 1 rd).2.failed with
  | true =>
   rw [if_pos hf] at hx
   (repeat (with_reducible refine ob ?_)); refine qct ?_
   try (refine ev2 hx.symm @hf ?_; try exact True.intro)
  | false =>
   rw [if_neg (by rw [hf]; simp)] at hx
   obtain ⟨c, hc⟩ := qp6 hf
   rw [hc] at hx ⊢
   simp only [List.headD_cons] at hx
   (repeat (with_reducible refine ob ?_)); refine no_ ?_
   have hcb : qd [c] = [[.int .u8 (c.toNat : Nat)]] := rfl
   have hlt := w7 c
   have hi9 : i ≤ 9 := by omega
   have hu' : (u + c.toNat % 128 * 128 ^ i) % 18446744073709551616 < 18446744073709551616 := Nat.mod_lt _ (by decide)
   have hu2' : i ≤ 8 → (u + c.toNat % 128 * 128 ^ i) % 18446744073709551616 < 128 ^ (i + 1) := fun h8 => by
    have h1 := hu2 (by omega)
    have h2 : c.toNat % 128 < 128 := Nat.mod_lt _ (by decide)
    have h3 : c.toNat % 128 * 128 ^ i ≤ 127 * 128 ^ i := Nat.mul_le_mul_right _ (by omega)
    have h4 := Nat.mod_le (u + c.toNat % 128 * 128 ^ i) 18446744073709551616
    rw [Nat.pow_succ]
    omega
   have a1 : IntKind.i64.wrap (7 * (i : Int)) = ((7 * i : Nat) : Int) := by rw [xl (by unfold I64; omega)]; omega
   try (refine ev3 @hcb @a1 (q5e hi9 (hu2 hi9) hlt) ?_; try exact True.intro)
   refine ⟨by omega, ?_⟩
   generalize (u + c.toNat % 128 * 128 ^ i) % 18446744073709551616 = u' at hx hu' hu2'
   refine zk _ (fun hc => ?_) (fun hc => ?_)
   ·have h128 : c.toNat < 128 := by simp at hc; omega
    simp only [h128, if_true] at hx
    try (refine ev ?_; try exact True.intro)
    have hb : (((c.toNat : Nat) : Int) == 0 && decide ((i : Int) > 0) || ((i : Int) == 9) && decide (((c.toNat : Nat) : Int) > 1)) = (c.toNat == 0 && decide (0 < i) || decide (i = 9) && decide (c.toNat > 1)) := by
     have b1 : (((c.toNat : Nat) : Int) == 0) = (c.toNat == 0) := by rw [Bool.eq_iff_iff]; simp
     have b2 : decide ((i : Int) > 0) = decide (0 < i) := decide_eq_decide.2 (by omega)
     have b3 : ((i : Int) == 9) = decide (i = 9) := by rw [Bool.eq_iff_iff]; simp; omega
     have b4 : decide (((c.toNat : Nat) : Int) > 1) = decide (c.toNat > 1) := decide_eq_decide.2 (by omega)
     rw [b1, b2, b3, b4]
    rw [q5f hu', hb, ← hx]
    exact ⟨fun h => ⟨h, fun h2 => by rw [h, h2]; rfl⟩, fun h => by rw [h]; rfl, rfl, (by simp only [go_sem]), rfl, rfl⟩
   ·have h128 : ¬ c.toNat < 128 := by simp at hc; omega
    simp only [h128, if_false] at hx
    try (refine ev ?_; try exact True.intro)
    refine ⟨⟨(i + 1, u', (ki 1 rd).2), hil, hu', fun h => hu2' (by omega), hn1, hx⟩, ?_, by dsimp only; omega⟩
    try (refine ev4 @q5g.eq_1 @rdO.eq_1 @hf (qt (show i < 9223372036854775807 by omega)) ?_; try exact True.intro)
 ·have hil : i = 10 := by simp at h; omega
  subst hil
  have : rInt r = (0, { rd with failed := true }) := hx.symm
  try (refine ev2 @this @rdO.eq_1 ?_; try exact True.intro)
end Go.Proofs.YtinnaedmdoengaaGreat
namespace Go.Proofs.YtinnaedmdoengaaGreat
open Go.Abs
set_option linter.unusedSimpArgs false
set_option linter.unusedVariables false
attribute [go_sem] exists_eq' List.getD_nil
theorem qp8 : ∀ (k i u : Nat) {r : Rd}, r.Ok → (qho k i u r).2.Ok ∧ (qho k i u r).2.b = r.b
 | 0, i, u, r, h => ⟨⟨h.len, h.pos⟩, rfl⟩
 | k + 1, i, u, r, h => by
  have hn := qc1 h 1
  rw [qho]
  split
  ·exact hn
  ·split
   ·exact ⟨⟨hn.1.len, hn.1.pos⟩, hn.2⟩
   ·have := qp8 k (i + 1) ((u + ((ki 1 r).1.headD 0).toNat % 128 * 128 ^ i) % 18446744073709551616) hn.1
    exact ⟨this.1, this.2.trans hn.2⟩
theorem qhv {r : Rd} (h : r.Ok) : (rInt r).2.Ok ∧ (rInt r).2.b = r.b := qp8 10 0 0 h
def Rd.fail (r : Rd) (f : Bool) : Rd := ⟨r.b, r.pos, f⟩
theorem Rd.Ok.fail {r : Rd} (h : r.Ok) (f : Bool) : (r.fail f).Ok := ⟨h.len, h.pos⟩
def za (lo hi : Int) (r : Rd) : Int × Rd := ((rInt r).1, (rInt r).2.fail ((rInt r).2.failed || decide ((rInt r).1 < lo) || decide ((rInt r).1 > hi)))
def wa (most : Int) (r : Rd) : List UInt8 × Rd := if (za 0 most r).2.failed then ([], (za 0 most r).2) else ki (za 0 most r).1.toNat (za 0 most r).2
def qc2 (r : Rd) : Bool × Rd :=
 let f := (ki 1 r).2.failed || decide (((ki 1 r).1.headD 0).toNat > 1)
 (!f && ((ki 1 r).1.headD 0).toNat == 1, (ki 1 r).2.fail f)
def qfj {α : Type} (z : α) (f : Rd → α × Rd) (r : Rd) : α × Rd := if r.failed then (z, r) else if (f r).2.failed then (z, ⟨(f r).2.b, r.pos, (f r).2.failed⟩) else f r
theorem yt {r : Rd} (h : r.Ok) (lo hi : Int) : (za lo hi r).2.Ok ∧ (za lo hi r).2.b = r.b := ⟨(qhv h).1.fail _, (qhv h).2⟩
theorem qjo {r : Rd} {lo hi : Int} (h : (za lo hi r).2.failed = false) : lo ≤ (za lo hi r).1 ∧ (za lo hi r).1 ≤ hi := by
 simp only [za, Rd.fail, Bool.or_eq_false_iff, decide_eq_false_iff_not] at h ⊢
 omega
theorem qjp {r : Rd} (h : r.Ok) (most : Int) : (wa most r).2.Ok ∧ (wa most r).2.b = r.b := by
 have h1 := yt h 0 most
 unfold wa
 split
 ·exact h1
 ·have h2 := qc1 h1.1 (za 0 most r).1.toNat
  exact ⟨h2.1, h2.2.trans h1.2⟩
theorem q0y {r : Rd} (h : r.Ok) (n : Nat) : (ki n r).1.length ≤ 1000000000 := by
 have := h.len
 unfold ki
 split
 ·simp
 ·simp only [List.length_take, List.length_drop]; omega
theorem qso {r : Rd} (h : r.Ok) (most : Int) : (wa most r).1.length ≤ 1000000000 := by
 unfold wa
 split
 ·simp
 ·exact q0y (yt h 0 most).1 _
theorem qln {r : Rd} (h : r.Ok) : (qc2 r).2.Ok ∧ (qc2 r).2.b = r.b := ⟨(qc1 h 1).1.fail _, (qc1 h 1).2⟩
theorem qfk {α : Type} {z : α} {f : Rd → α × Rd} {r : Rd} (h : r.Ok) (hf : (f r).2.Ok ∧ (f r).2.b = r.b) : (qfj z f r).2.Ok ∧ (qfj z f r).2.b = r.b := by
 unfold qfj
 split
 ·exact ⟨h, rfl⟩
 ·split
  ·exact ⟨⟨hf.1.len, by simp only [hf.2]; exact h.pos⟩, hf.2⟩
  ·exact hf
noncomputable section
set_option maxRecDepth 100000
def xcd : List SOper := [
 ⟨some 6, .mov (.k (.d (.int .i64 0))), none⟩]
def xce : List SOper := [
 ⟨some 8, .mov (.t 0), none⟩,
 ⟨some 9, .call (.k (.d (.func (.func 105) [] []))) [(.t 8)], none⟩,
 ⟨some 7, .mov (.t 9), none⟩]
def xcf : List SOper := [
 ⟨some 10, .mov (.t 0), none⟩,
 ⟨some 11, .mov (.t 0), none⟩,
 ⟨some 12, .nilCheck (.t 11), none⟩,
 ⟨some 13, .faddr 2 (.t 12), none⟩,
 ⟨some 14, .load none (.t 13), none⟩,
 ⟨some 15, .mov (.t 14), none⟩,
 ⟨some 16, .mov (.t 7), some (15, false)⟩,
 ⟨some 17, .mov (.t 1), some (15, false)⟩,
 ⟨some 18, .bin .lss (.t 16) (.t 17), some (15, false)⟩,
 ⟨some 19, .pick (.t 15) (.k (.d (.bool true))) (.t 18), none⟩,
 ⟨some 20, .mov (.t 19), none⟩,
 ⟨some 21, .mov (.t 7), some (20, false)⟩,
 ⟨some 22, .mov (.t 2), some (20, false)⟩,
 ⟨some 23, .bin .gtr (.t 21) (.t 22), some (20, false)⟩,
 ⟨some 24, .pick (.t 20) (.k (.d (.bool true))) (.t 23), none⟩,
 ⟨some 25, .nilCheck (.t 10), none⟩,
 ⟨some 26, .faddr 2 (.t 25), none⟩,
 ⟨none, .store none (.t 26) (.t 24), none⟩]
def xcg : List SOper := [
 ⟨some 27, .mov (.t 7), none⟩,
 ⟨some 6, .mov (.t 27), none⟩]
def s169 : SCode := (.seq (.region xcd 0 []) (.seq (.region xce 0 []) (.seq (.region xcf 0 []) (.seq (.region xcg 0 []) .ret))))
theorem zif : qg s169.eq_1 := qh s169.eq_1
theorem xwe : qa xcd.eq_1 := qc
theorem xwf : qa xce.eq_1 := qc
theorem xwg : qa xcf.eq_1 := qc
theorem xwh : qa xcg.eq_1 := qc
attribute [go_sem] xwe xwf xwg xwh zif
theorem zbq : FnIs Tryz.prog 169 Tryz.f169 [] news s169 [.tmp 6] 28 := zc follows Tryz.func169
def xch : List SOper := [
 ⟨some 4, .mov (.k (.d .nilsl)), none⟩]
def xci : List SOper := [
 ⟨some 6, .mov (.t 0), none⟩,
 ⟨some 7, .mov (.t 1), none⟩,
 ⟨some 8, .call (.k (.d (.func (.func 169) [] []))) [(.t 6), (.k (.d (.int .i64 0))), (.t 7)], none⟩,
 ⟨some 5, .mov (.t 8), none⟩]
def xcj : List SOper := [
 ⟨some 9, .mov (.t 0), none⟩,
 ⟨some 10, .nilCheck (.t 9), none⟩,
 ⟨some 11, .faddr 2 (.t 10), none⟩,
 ⟨some 12, .load none (.t 11), none⟩]
def xck : List SOper := [
 ⟨some 4, .mov (.k (.d .nilsl)), none⟩]
def xcl : List SOper := [
 ⟨some 13, .mov (.t 0), none⟩,
 ⟨some 14, .mov (.t 5), none⟩,
 ⟨some 15, .call (.k (.d (.func (.func 152) [] []))) [(.t 13), (.t 14)], none⟩,
 ⟨some 4, .mov (.t 15), none⟩]
def s174 : SCode := (.seq (.region xch 0 []) (.seq (.region xci 0 []) (.seq (.seq (.region xcj 0 []) (.cond (.t 12) (.seq (.region xck 0 []) .ret) .skip)) (.seq (.region xcl 0 []) .ret))))
theorem zig : qg s174.eq_1 := qh s174.eq_1
theorem xwi : qa xch.eq_1 := qc
theorem xwj : qa xci.eq_1 := qc
theorem xwk : qa xcj.eq_1 := qc
theorem xwl : qa xck.eq_1 := qc
theorem xwm : qa xcl.eq_1 := qc
attribute [go_sem] xwi xwj xwk xwl xwm zig
theorem zgq : FnIs Tryz.prog 174 Tryz.f174 [] news s174 [.tmp 4] 16 := zc follows Tryz.func174
def xcm : List SOper := [
 ⟨some 2, .mov (.k (.d (.bool false))), none⟩]
def xcn : List SOper := [
 ⟨some 4, .mov (.t 0), none⟩,
 ⟨some 5, .call (.k (.d (.func (.func 152) [] []))) [(.t 4), (.k (.d (.int .i64 1)))], none⟩,
 ⟨some 3, .mov (.t 5), none⟩]
def xco : List SOper := [
 ⟨some 6, .mov (.t 0), none⟩,
 ⟨some 7, .mov (.t 0), none⟩,
 ⟨some 8, .nilCheck (.t 7), none⟩,
 ⟨some 9, .faddr 2 (.t 8), none⟩,
 ⟨some 10, .load none (.t 9), none⟩,
 ⟨some 11, .mov (.t 10), none⟩,
 ⟨some 12, .mov (.t 3), some (11, false)⟩,
 ⟨some 13, .iaddr 1 (.t 12) (.k (.d (.int .i64 0))), some (11, false)⟩,
 ⟨some 14, .load none (.t 13), some (11, false)⟩,
 ⟨some 15, .bin .gtr (.t 14) (.k (.d (.int .u8 1))), some (11, false)⟩,
 ⟨some 16, .pick (.t 11) (.k (.d (.bool true))) (.t 15), none⟩,
 ⟨some 17, .nilCheck (.t 6), none⟩,
 ⟨some 18, .faddr 2 (.t 17), none⟩,
 ⟨none, .store none (.t 18) (.t 16), none⟩]
def xcp : List SOper := [
 ⟨some 19, .mov (.t 0), none⟩,
 ⟨some 20, .nilCheck (.t 19), none⟩,
 ⟨some 21, .faddr 2 (.t 20), none⟩,
 ⟨some 22, .load none (.t 21), none⟩,
 ⟨some 23, .not (.t 22), none⟩,
 ⟨some 24, .mov (.t 23), none⟩,
 ⟨some 25, .mov (.t 3), some (24, true)⟩,
 ⟨some 26, .iaddr 1 (.t 25) (.k (.d (.int .i64 0))), some (24, true)⟩,
 ⟨some 27, .load none (.t 26), some (24, true)⟩,
 ⟨some 28, .bin .eql (.t 27) (.k (.d (.int .u8 1))), some (24, true)⟩,
 ⟨some 29, .pick (.t 24) (.t 28) (.k (.d (.bool false))), none⟩,
 ⟨some 2, .mov (.t 29), none⟩]
def s171 : SCode := (.seq (.region xcm 0 []) (.seq (.region xcn 0 []) (.seq (.region xco 0 []) (.seq (.region xcp 0 []) .ret))))
theorem zih : qg s171.eq_1 := qh s171.eq_1
theorem xwn : qa xcm.eq_1 := qc
theorem xwo : qa xcn.eq_1 := qc
theorem xwp : qa xco.eq_1 := qc
theorem xwq : qa xcp.eq_1 := qc
attribute [go_sem] xwn xwo xwp xwq zih
theorem zgr : FnIs Tryz.prog 171 Tryz.f171 [] news s171 [.tmp 2] 30 := zc follows Tryz.func171
def xcq : List SOper := [
 ⟨some 3, .mov (.k (.d (.int .i64 0))), none⟩]
def xcr : List SOper := [
 ⟨some 4, .load none (.t 0), none⟩,
 ⟨some 5, .load none (.t 1), none⟩,
 ⟨some 6, .load none (.t 2), none⟩,
 ⟨some 7, .call (.k (.d (.func (.func 169) [] []))) [(.t 4), (.t 5), (.t 6)], none⟩,
 ⟨some 3, .mov (.t 7), none⟩]
def s168 : SCode := (.seq (.region xcq 0 []) (.seq (.region xcr 0 []) .ret))
theorem zii : qg s168.eq_1 := qh s168.eq_1
theorem xwr : qa xcq.eq_1 := qc
theorem xws : qa xcr.eq_1 := qc
attribute [go_sem] xwr xws zii
theorem zgs : FnIs Tryz.prog 168 Tryz.f168 [] news s168 [.tmp 3] 8 := zc follows Tryz.func168
def xcs : List SOper := [
 ⟨some 2, .mov (.k (.d .nilsl)), none⟩]
def xct : List SOper := [
 ⟨some 3, .load none (.t 0), none⟩,
 ⟨some 4, .load none (.t 1), none⟩,
 ⟨some 5, .call (.k (.d (.func (.func 174) [] []))) [(.t 3), (.t 4)], none⟩,
 ⟨some 6, .append false 1 1 (.k (.d .nilsl)) (.t 5), none⟩,
 ⟨some 2, .mov (.t 6), none⟩]
def s173 : SCode := (.seq (.region xcs 0 []) (.seq (.region xct 0 []) .ret))
theorem zij : qg s173.eq_1 := qh s173.eq_1
theorem xwt : qa xcs.eq_1 := qc
theorem xwu : qa xct.eq_1 := qc
attribute [go_sem] xwt xwu zij
theorem zgt : FnIs Tryz.prog 173 Tryz.f173 [] news s173 [.tmp 2] 7 := zc follows Tryz.func173
def xcu : List SOper := [
 ⟨some 4, .mov (.k (.d (.int .i64 0))), none⟩]
def xcv : List SOper := [
 ⟨some 5, .mov (.k (.d (.int .i64 0))), none⟩]
def xcw : List SOper := [
 ⟨some 8, .mov (.t 0), none⟩,
 ⟨some 9, .eqnil false .ptr (.t 8), none⟩,
 ⟨some 10, .mov (.t 9), none⟩,
 ⟨some 11, .mov (.t 0), some (10, false)⟩,
 ⟨some 12, .nilCheck (.t 11), some (10, false)⟩,
 ⟨some 13, .faddr 2 (.t 12), some (10, false)⟩,
 ⟨some 14, .load none (.t 13), some (10, false)⟩,
 ⟨some 15, .pick (.t 10) (.k (.d (.bool true))) (.t 14), none⟩]
def xcx : List SOper := [
 ⟨some 16, .mov (.t 5), none⟩,
 ⟨some 4, .mov (.t 16), none⟩]
def xcy : List SOper := [
 ⟨some 17, .mov (.t 0), none⟩,
 ⟨some 18, .nilCheck (.t 17), none⟩,
 ⟨some 19, .faddr 1 (.t 18), none⟩,
 ⟨some 20, .load none (.t 19), none⟩,
 ⟨some 6, .mov (.t 20), none⟩]
def xcz : List SOper := [
 ⟨some 21, .mov (.t 1), none⟩,
 ⟨some 22, .call (.t 21) [], none⟩,
 ⟨some 7, .mov (.t 22), none⟩]
def xc0 : List SOper := [
 ⟨some 23, .mov (.t 0), none⟩,
 ⟨some 24, .nilCheck (.t 23), none⟩,
 ⟨some 25, .faddr 2 (.t 24), none⟩,
 ⟨some 26, .load none (.t 25), none⟩]
def xc1 : List SOper := [
 ⟨some 27, .mov (.t 0), none⟩,
 ⟨some 28, .mov (.t 6), none⟩,
 ⟨some 29, .nilCheck (.t 27), none⟩,
 ⟨some 30, .faddr 1 (.t 29), none⟩,
 ⟨none, .store none (.t 30) (.t 28), none⟩]
def xc2 : List SOper := [
 ⟨some 31, .mov (.t 5), none⟩,
 ⟨some 4, .mov (.t 31), none⟩]
def xc3 : List SOper := [
 ⟨some 32, .mov (.t 7), none⟩,
 ⟨some 4, .mov (.t 32), none⟩]
def s104 : SCode := (.seq (.region xcu 0 []) (.seq (.region xcv 0 []) (.seq (.seq (.region xcw 0 []) (.cond (.t 15) (.seq (.region xcx 0 []) .ret) .skip)) (.seq (.region xcy 0 []) (.seq (.region xcz 0 []) (.seq (.seq (.region xc0 0 []) (.cond (.t 26) (.seq (.region xc1 0 []) (.seq (.region xc2 0 []) .ret)) .skip)) (.seq (.region xc3 0 []) .ret)))))))
theorem zik : qg s104.eq_1 := qh s104.eq_1
theorem xwv : qa xcu.eq_1 := qc
theorem xww : qa xcv.eq_1 := qc
theorem xwx : qa xcw.eq_1 := qc
theorem xwy : qa xcx.eq_1 := qc
theorem xwz : qa xcy.eq_1 := qc
theorem xw0 : qa xcz.eq_1 := qc
theorem xw1 : qa xc0.eq_1 := qc
theorem xw2 : qa xc1.eq_1 := qc
theorem xw3 : qa xc2.eq_1 := qc
theorem xw4 : qa xc3.eq_1 := qc
attribute [go_sem] xwv xww xwx xwy xwz xw0 xw1 xw2 xw3 xw4 zik
theorem x6o : FnIs Tryz.prog 104 Tryz.f104 [] news s104 [.tmp 4] 33 := zc follows Tryz.func104
def xc4 : List SOper := [
 ⟨some 4, .mov (.k (.d (.bool false))), none⟩]
def xc5 : List SOper := [
 ⟨some 5, .mov (.k (.d (.bool false))), none⟩]
def xc6 : List SOper := [
 ⟨some 8, .mov (.t 0), none⟩,
 ⟨some 9, .eqnil false .ptr (.t 8), none⟩,
 ⟨some 10, .mov (.t 9), none⟩,
 ⟨some 11, .mov (.t 0), some (10, false)⟩,
 ⟨some 12, .nilCheck (.t 11), some (10, false)⟩,
 ⟨some 13, .faddr 2 (.t 12), some (10, false)⟩,
 ⟨some 14, .load none (.t 13), some (10, false)⟩,
 ⟨some 15, .pick (.t 10) (.k (.d (.bool true))) (.t 14), none⟩]
def xc7 : List SOper := [
 ⟨some 16, .mov (.t 5), none⟩,
 ⟨some 4, .mov (.t 16), none⟩]
def xc8 : List SOper := [
 ⟨some 17, .mov (.t 0), none⟩,
 ⟨some 18, .nilCheck (.t 17), none⟩,
 ⟨some 19, .faddr 1 (.t 18), none⟩,
 ⟨some 20, .load none (.t 19), none⟩,
 ⟨some 6, .mov (.t 20), none⟩]
def xc9 : List SOper := [
 ⟨some 21, .mov (.t 1), none⟩,
 ⟨some 22, .call (.t 21) [], none⟩,
 ⟨some 7, .mov (.t 22), none⟩]
def xda : List SOper := [
 ⟨some 23, .mov (.t 0), none⟩,
 ⟨some 24, .nilCheck (.t 23), none⟩,
 ⟨some 25, .faddr 2 (.t 24), none⟩,
 ⟨some 26, .load none (.t 25), none⟩]
def xdb : List SOper := [
 ⟨some 27, .mov (.t 0), none⟩,
 ⟨some 28, .mov (.t 6), none⟩,
 ⟨some 29, .nilCheck (.t 27), none⟩,
 ⟨some 30, .faddr 1 (.t 29), none⟩,
 ⟨none, .store none (.t 30) (.t 28), none⟩]
def xdc : List SOper := [
 ⟨some 31, .mov (.t 5), none⟩,
 ⟨some 4, .mov (.t 31), none⟩]
def xdd : List SOper := [
 ⟨some 32, .mov (.t 7), none⟩,
 ⟨some 4, .mov (.t 32), none⟩]
def s170 : SCode := (.seq (.region xc4 0 []) (.seq (.region xc5 0 []) (.seq (.seq (.region xc6 0 []) (.cond (.t 15) (.seq (.region xc7 0 []) .ret) .skip)) (.seq (.region xc8 0 []) (.seq (.region xc9 0 []) (.seq (.seq (.region xda 0 []) (.cond (.t 26) (.seq (.region xdb 0 []) (.seq (.region xdc 0 []) .ret)) .skip)) (.seq (.region xdd 0 []) .ret)))))))
theorem zil : qg s170.eq_1 := qh s170.eq_1
theorem xw5 : qa xc4.eq_1 := qc
theorem xw6 : qa xc5.eq_1 := qc
theorem xw7 : qa xc6.eq_1 := qc
theorem xw8 : qa xc7.eq_1 := qc
theorem xw9 : qa xc8.eq_1 := qc
theorem xxa : qa xc9.eq_1 := qc
theorem xxb : qa xda.eq_1 := qc
theorem xxc : qa xdb.eq_1 := qc
theorem xxd : qa xdc.eq_1 := qc
theorem xxe : qa xdd.eq_1 := qc
attribute [go_sem] xw5 xw6 xw7 xw8 xw9 xxa xxb xxc xxd xxe zil
theorem zgu : FnIs Tryz.prog 170 Tryz.f170 [] news s170 [.tmp 4] 33 := zc follows Tryz.func170
def xde : List SOper := [
 ⟨some 4, .mov (.k (.d .nilsl)), none⟩]
def xdf : List SOper := [
 ⟨some 5, .mov (.k (.d .nilsl)), none⟩]
def xdg : List SOper := [
 ⟨some 8, .mov (.t 0), none⟩,
 ⟨some 9, .eqnil false .ptr (.t 8), none⟩,
 ⟨some 10, .mov (.t 9), none⟩,
 ⟨some 11, .mov (.t 0), some (10, false)⟩,
 ⟨some 12, .nilCheck (.t 11), some (10, false)⟩,
 ⟨some 13, .faddr 2 (.t 12), some (10, false)⟩,
 ⟨some 14, .load none (.t 13), some (10, false)⟩,
 ⟨some 15, .pick (.t 10) (.k (.d (.bool true))) (.t 14), none⟩]
def xdh : List SOper := [
 ⟨some 16, .mov (.t 5), none⟩,
 ⟨some 4, .mov (.t 16), none⟩]
def xdi : List SOper := [
 ⟨some 17, .mov (.t 0), none⟩,
 ⟨some 18, .nilCheck (.t 17), none⟩,
 ⟨some 19, .faddr 1 (.t 18), none⟩,
 ⟨some 20, .load none (.t 19), none⟩,
 ⟨some 6, .mov (.t 20), none⟩]
def xdj : List SOper := [
 ⟨some 21, .mov (.t 1), none⟩,
 ⟨some 22, .call (.t 21) [], none⟩,
 ⟨some 7, .mov (.t 22), none⟩]
def xdk : List SOper := [
 ⟨some 23, .mov (.t 0), none⟩,
 ⟨some 24, .nilCheck (.t 23), none⟩,
 ⟨some 25, .faddr 2 (.t 24), none⟩,
 ⟨some 26, .load none (.t 25), none⟩]
def xdl : List SOper := [
 ⟨some 27, .mov (.t 0), none⟩,
 ⟨some 28, .mov (.t 6), none⟩,
 ⟨some 29, .nilCheck (.t 27), none⟩,
 ⟨some 30, .faddr 1 (.t 29), none⟩,
 ⟨none, .store none (.t 30) (.t 28), none⟩]
def xdm : List SOper := [
 ⟨some 31, .mov (.t 5), none⟩,
 ⟨some 4, .mov (.t 31), none⟩]
def xdn : List SOper := [
 ⟨some 32, .mov (.t 7), none⟩,
 ⟨some 4, .mov (.t 32), none⟩]
def s172 : SCode := (.seq (.region xde 0 []) (.seq (.region xdf 0 []) (.seq (.seq (.region xdg 0 []) (.cond (.t 15) (.seq (.region xdh 0 []) .ret) .skip)) (.seq (.region xdi 0 []) (.seq (.region xdj 0 []) (.seq (.seq (.region xdk 0 []) (.cond (.t 26) (.seq (.region xdl 0 []) (.seq (.region xdm 0 []) .ret)) .skip)) (.seq (.region xdn 0 []) .ret)))))))
theorem zim : qg s172.eq_1 := qh s172.eq_1
theorem xxf : qa xde.eq_1 := qc
theorem xxg : qa xdf.eq_1 := qc
theorem xxh : qa xdg.eq_1 := qc
theorem xxi : qa xdh.eq_1 := qc
theorem xxj : qa xdi.eq_1 := qc
theorem xxk : qa xdj.eq_1 := qc
theorem xxl : qa xdk.eq_1 := qc
theorem xxm : qa xdl.eq_1 := qc
theorem xxn : qa xdm.eq_1 := qc
theorem xxo : qa xdn.eq_1 := qc
attribute [go_sem] xxf xxg xxh xxi xxj xxk xxl xxm xxn xxo zim
theorem zgv : FnIs Tryz.prog 172 Tryz.f172 [] news s172 [.tmp 4] 33 := zc follows Tryz.func172
def xxp : List SOper := [
 ⟨some 2, .mov (.k (.d (.int .i64 0))), none⟩]
def xxq : List SOper := [
 ⟨some 3, .mov (.t 0), none⟩,
 ⟨some 4, .mov (.t 0), none⟩,
 ⟨some 5, .mkFunc (.func 105) [(.t 4)] [], none⟩,
 ⟨some 6, .call (.k (.d (.func (.func 104) [] []))) [(.t 3), (.t 5)], none⟩,
 ⟨some 2, .mov (.t 6), none⟩]
def s55 : SCode := (.seq (.region xxp 0 []) (.seq (.region xxq 0 []) .ret))
theorem e55 : qg s55.eq_1 := qh s55.eq_1
theorem zbr : qa xxp.eq_1 := qc
theorem zbs : qa xxq.eq_1 := qc
attribute [go_sem] zbr zbs e55
def xdo : List SOper := [
 ⟨some 3, .box 3 (.t 0), none⟩,
 ⟨some 4, .box 2 (.t 1), none⟩,
 ⟨some 5, .box 1 (.t 2), none⟩,
 ⟨some 6, .mov (.k (.d (.int .i64 0))), none⟩]
def xdp : List SOper := [
 ⟨some 7, .load none (.t 3), none⟩,
 ⟨some 8, .mkFunc (.func 168) [] [(.t 3), (.t 4), (.t 5)], none⟩,
 ⟨some 9, .call (.k (.d (.func (.func 104) [] []))) [(.t 7), (.t 8)], none⟩,
 ⟨some 6, .mov (.t 9), none⟩]
def s112 : SCode := (.seq (.region xdo 3 []) (.seq (.region xdp 0 []) .ret))
theorem zin : qg s112.eq_1 := qh s112.eq_1
theorem xxr : qa xdo.eq_1 := qc
theorem xxs : qa xdp.eq_1 := qc
attribute [go_sem] xxr xxs zin
theorem zgw : FnIs Tryz.prog 112 Tryz.f112 [] news s112 [.tmp 6] 10 := zc follows Tryz.func112
def xdq : List SOper := [
 ⟨some 2, .mov (.k (.d (.bool false))), none⟩]
def xdr : List SOper := [
 ⟨some 3, .mov (.t 0), none⟩,
 ⟨some 4, .mov (.t 0), none⟩,
 ⟨some 5, .mkFunc (.func 171) [(.t 4)] [], none⟩,
 ⟨some 6, .call (.k (.d (.func (.func 170) [] []))) [(.t 3), (.t 5)], none⟩,
 ⟨some 2, .mov (.t 6), none⟩]
def s114 : SCode := (.seq (.region xdq 0 []) (.seq (.region xdr 0 []) .ret))
theorem zio : qg s114.eq_1 := qh s114.eq_1
theorem xxt : qa xdq.eq_1 := qc
theorem xxu : qa xdr.eq_1 := qc
attribute [go_sem] xxt xxu zio
theorem zgx : FnIs Tryz.prog 114 Tryz.f114 [] news s114 [.tmp 2] 7 := zc follows Tryz.func114
def xds : List SOper := [
 ⟨some 2, .box 2 (.t 0), none⟩,
 ⟨some 3, .box 1 (.t 1), none⟩,
 ⟨some 4, .mov (.k (.d .nilsl)), none⟩]
def xdt : List SOper := [
 ⟨some 5, .load none (.t 2), none⟩,
 ⟨some 6, .mkFunc (.func 173) [] [(.t 2), (.t 3)], none⟩,
 ⟨some 7, .call (.k (.d (.func (.func 172) [] []))) [(.t 5), (.t 6)], none⟩,
 ⟨some 4, .mov (.t 7), none⟩]
def s115 : SCode := (.seq (.region xds 2 []) (.seq (.region xdt 0 []) .ret))
theorem ziq : qg s115.eq_1 := qh s115.eq_1
theorem xxv : qa xds.eq_1 := qc
theorem xxw : qa xdt.eq_1 := qc
attribute [go_sem] xxv xxw ziq
theorem zbt : FnIs Tryz.prog 115 Tryz.f115 [] news s115 [.tmp 4] 8 := zc follows Tryz.func115
def xdu : List SOper := [
 ⟨some 4, .mov (.k (.d (.str []))), none⟩]
def xdv : List SOper := [
 ⟨some 5, .mov (.t 0), none⟩,
 ⟨some 6, .mov (.t 1), none⟩,
 ⟨some 7, .call (.k (.d (.func (.func 115) [] []))) [(.t 5), (.t 6)], none⟩,
 ⟨some 8, .b2s (.t 7), none⟩,
 ⟨some 4, .mov (.t 8), none⟩]
def s113 : SCode := (.seq (.region xdu 0 []) (.seq (.region xdv 0 []) .ret))
theorem zir : qg s113.eq_1 := qh s113.eq_1
theorem xxx : qa xdu.eq_1 := qc
theorem xxy : qa xdv.eq_1 := qc
attribute [go_sem] xxx xxy zir
theorem zgy : FnIs Tryz.prog 113 Tryz.f113 [] news s113 [.tmp 4] 9 := zc follows Tryz.func113
end
theorem qjq (r : Rd) (lo hi : Int) (hr : r.Ok) : qo Tryz.prog 169 [.d (.ptr 0 0), .d (.int .i64 lo), .d (.int .i64 hi)] [rdO r] (.d (.int .i64 (za lo hi r).1)) [rdO (za lo hi r).2] := by
 have hc := q0x r hr
 simp only [rdO] at hc
 refine zbq.go ?_
 try (refine ev3 @rdO.eq_1 @za.eq_1 @Rd.fail.eq_1 ?_; try exact True.intro)
 generalize rInt r = x at hc ⊢
 obtain ⟨n, b, p, f⟩ := x
 (repeat (with_reducible refine ob ?_)); refine clO [0] zbp (hc) ?_
 try (refine ev ?_; try exact True.intro)
 cases f <;> simp
theorem qwb (r : Rd) (most : Nat) (hr : r.Ok) (hm : most ≤ 1000000000) : qo Tryz.prog 174 [.d (.ptr 0 0), .d (.int .i64 most)] [rdO r] (.d (.sl 1 (qd (wa most r).1))) [rdO (wa most r).2] := by
 have hc := qjq r 0 most hr
 have hin := qjo (r := r) (lo := 0) (hi := most)
 have hinv := (yt hr 0 most).1
 refine zgq.go ?_
 try (refine ev1 @wa.eq_1 ?_; try exact True.intro)
 generalize za 0 most r = x at hc hin hinv ⊢
 obtain ⟨n, r1⟩ := x
 simp only [rdO] at hc
 try (refine ev1 @rdO.eq_1 ?_; try exact True.intro)
 (repeat (with_reducible refine ob ?_)); refine clO [0] zbq (hc) ?_
 try (refine ev ?_; try exact True.intro)
 cases hf : r1.failed
 ·obtain ⟨h1, h2⟩ := hin hf
  simp only at h1 h2
  have hn := qnc r1 n.toNat hinv (by omega)
  rw [Int.toNat_of_nonneg h1] at hn
  simp only [rdO, hf] at hn
  (repeat (with_reducible refine ob ?_)); refine no_ ?_
  try (refine ev ?_; try exact True.intro)
  (repeat (with_reducible refine ob ?_)); refine clO [0] x6n (hn) ?_
  try (refine ev ?_; try exact True.intro)
 ·(repeat (with_reducible refine ob ?_)); refine qct ?_
  try (refine ev2 @hf @qu ?_; try exact True.intro)
theorem qwc {r : Rd} {n : Nat} (h : (ki n r).2.failed = true) : (ki n r).1 = [] := by
 unfold ki at h ⊢
 split
 ·rfl
 ·rename_i hn
  rw [if_neg hn] at h
  simp only [Bool.or_eq_true, not_or] at hn
  exact absurd h hn.1
theorem xdw (c : UInt8) : decide (((c.toNat : Nat) : Int) > 1) = decide (c.toNat > 1) := decide_eq_decide.2 (by omega)
theorem xdx (c : UInt8) : (((c.toNat : Nat) : Int) == 1) = (c.toNat == 1) := by rw [Bool.eq_iff_iff]; simp; omega
theorem q0z (r : Rd) (hr : r.Ok) : qo Tryz.prog 171 [.d (.ptr 0 0)] [rdO r] (.d (.bool (qc2 r).1)) [rdO (qc2 r).2] := by
 have hc := qnc r 1 hr (by decide)
 have h1 := qp6 (r := r)
 have h0 := qwc (r := r) (n := 1)
 refine zgr.go ?_
 try (refine ev3 @rdO.eq_1 @qc2.eq_1 @Rd.fail.eq_1 ?_; try exact True.intro)
 generalize ki 1 r = x at hc h1 h0 ⊢
 obtain ⟨s, r1⟩ := x
 simp only [rdO] at hc
 try (refine ev ?_; try exact True.intro)
 (repeat (with_reducible refine ob ?_)); refine clO [0] x6n (hc) ?_
 simp only at h1
 cases hf : r1.failed
 ·obtain ⟨c, rfl⟩ := h1 hf
  have hcb : qd [c] = [[.int .u8 (c.toNat : Nat)]] := rfl
  try (refine ev2 @hcb @List.headD_cons.{0} ?_; try exact True.intro)
  exact ⟨by rw [xdw, xdx] <;> rfl, xdw c⟩
 ·have hs := h0 hf
  simp only at hs
  subst hs
  try (refine ev2 @qu @List.getD_nil.{0} ?_; try exact True.intro)
theorem qsp (r : Rd) (lo hi : Int) (hr : r.Ok) : qo Tryz.prog 168 [.d (.ptr 1 0), .d (.ptr 2 0), .d (.ptr 3 0)] [rdO r, .row [.d (.ptr 0 0)], .row [.d (.int .i64 lo)], .row [.d (.int .i64 hi)]] (.d (.int .i64 (za lo hi r).1)) [rdO (za lo hi r).2, .row [.d (.ptr 0 0)], .row [.d (.int .i64 lo)], .row [.d (.int .i64 hi)]] := by
 have hc := qjq r lo hi hr
 simp only [rdO] at hc
 refine zgs.go ?_
 try (refine ev1 @rdO.eq_1 ?_; try exact True.intro)
 (repeat (with_reducible refine ob ?_)); refine clO [0] zbq (hc) ?_
 try (refine ev ?_; try exact True.intro)
theorem q00 (r : Rd) (most : Nat) (hr : r.Ok) (hm : most ≤ 1000000000) : qo Tryz.prog 173 [.d (.ptr 1 0), .d (.ptr 2 0)] [rdO r, .row [.d (.ptr 0 0)], .row [.d (.int .i64 most)]] (.d (.sl 1 (qd (wa most r).1))) [rdO (wa most r).2, .row [.d (.ptr 0 0)], .row [.d (.int .i64 most)]] := by
 have hc := qwb r most hr hm
 have hln := qso hr most
 simp only [rdO] at hc
 refine zgt.go ?_
 try (refine ev1 @rdO.eq_1 ?_; try exact True.intro)
 (repeat (with_reducible refine ob ?_)); refine clO [0] zgq (hc) ?_
 try (refine ev ?_; try exact True.intro)
 omega
def qhp := qfj (0 : Int) rInt
def zg (lo hi : Int) := qfj (0 : Int) (za lo hi)
def qbn := qfj false qc2
def kj (most : Int) := qfj ([] : List UInt8) (wa most)
theorem qkm (r : Rd) (lo hi : Int) (hr : r.Ok) : qo Tryz.prog 104 [.d (.ptr 0 0), .d (.func (.func 168) [] [.ptr 1 0, .ptr 2 0, .ptr 3 0])] [rdO r, .row [.d (.ptr 0 0)], .row [.d (.int .i64 lo)], .row [.d (.int .i64 hi)]] (.d (.int .i64 (zg lo hi r).1)) [rdO (zg lo hi r).2, .row [.d (.ptr 0 0)], .row [.d (.int .i64 lo)], .row [.d (.int .i64 hi)]] := by
 have hc := qsp r lo hi hr
 unfold zg
 unfold qfj
 obtain ⟨b, p, f⟩ := r
 simp only [rdO] at hc
 refine x6o.go ?_
 try (refine ev1 @rdO.eq_1 ?_; try exact True.intro)
 cases f
 ·try (refine ev ?_; try exact True.intro)
  (repeat (with_reducible refine ob ?_)); refine no_ ?_
  try (refine ev ?_; try exact True.intro)
  (repeat (with_reducible refine ob ?_)); refine clO [0, 1, 2, 3] zgs (hc) ?_
  try (refine ev ?_; try exact True.intro)
  cases hf : (za lo hi ⟨b, p, false⟩).2.failed
  ·try (refine ev ?_; try exact True.intro)
   (repeat (with_reducible refine ob ?_)); refine no_ ?_
   try simp only [hf, if_false, go_sem, Nat.reduceAdd, Nat.reduceMul, Nat.reduceSub, Nat.reduceEqDiff, Nat.reduceLT, Nat.reduceLeDiff, Nat.reduceBEq, reduceIte, reduceCtorEq, Int.reduceAdd, Int.reduceLT, Int.reduceLE, Int.reduceGT, Int.reduceGE, Int.reduceEq, Int.reduceNe, Int.reduceBEq, Int.reduceBNe, Int.reduceToNat, Int.reduceNeg]
  ·try (refine ev ?_; try exact True.intro)
   (repeat (with_reducible refine ob ?_)); refine qct ?_
   try (refine ev1 @hf ?_; try exact True.intro)
 ·try (refine ev ?_; try exact True.intro)
  (repeat (with_reducible refine ob ?_)); refine qct ?_
  try (refine ev ?_; try exact True.intro)
theorem qsq (r : Rd) (hr : r.Ok) : qo Tryz.prog 170 [.d (.ptr 0 0), .d (.func (.func 171) [.ptr 0 0] [])] [rdO r] (.d (.bool (qbn r).1)) [rdO (qbn r).2] := by
 have hc := q0z r hr
 unfold qbn
 unfold qfj
 obtain ⟨b, p, f⟩ := r
 simp only [rdO] at hc
 refine zgu.go ?_
 try (refine ev1 @rdO.eq_1 ?_; try exact True.intro)
 cases f
 ·try (refine ev ?_; try exact True.intro)
  (repeat (with_reducible refine ob ?_)); refine no_ ?_
  try (refine ev ?_; try exact True.intro)
  (repeat (with_reducible refine ob ?_)); refine clO [0] zgr (hc) ?_
  try (refine ev ?_; try exact True.intro)
  cases hf : (qc2 ⟨b, p, false⟩).2.failed
  ·try (refine ev ?_; try exact True.intro)
   (repeat (with_reducible refine ob ?_)); refine no_ ?_
   try simp only [hf, if_false, go_sem, Nat.reduceAdd, Nat.reduceMul, Nat.reduceSub, Nat.reduceEqDiff, Nat.reduceLT, Nat.reduceLeDiff, Nat.reduceBEq, reduceIte, reduceCtorEq, Int.reduceAdd, Int.reduceLT, Int.reduceLE, Int.reduceGT, Int.reduceGE, Int.reduceEq, Int.reduceNe, Int.reduceBEq, Int.reduceBNe, Int.reduceToNat, Int.reduceNeg]
  ·try (refine ev ?_; try exact True.intro)
   (repeat (with_reducible refine ob ?_)); refine qct ?_
   try (refine ev1 @hf ?_; try exact True.intro)
 ·try (refine ev ?_; try exact True.intro)
  (repeat (with_reducible refine ob ?_)); refine qct ?_
  try (refine ev ?_; try exact True.intro)
theorem qp9 (r : Rd) (most : Nat) (hr : r.Ok) (hm : most ≤ 1000000000) : qo Tryz.prog 172 [.d (.ptr 0 0), .d (.func (.func 173) [] [.ptr 1 0, .ptr 2 0])] [rdO r, .row [.d (.ptr 0 0)], .row [.d (.int .i64 most)]] (.d (.sl 1 (qd (kj most r).1))) [rdO (kj most r).2, .row [.d (.ptr 0 0)], .row [.d (.int .i64 most)]] := by
 have hc := q00 r most hr hm
 unfold kj
 unfold qfj
 obtain ⟨b, p, f⟩ := r
 simp only [rdO] at hc
 refine zgv.go ?_
 try (refine ev1 @rdO.eq_1 ?_; try exact True.intro)
 cases f
 ·try (refine ev ?_; try exact True.intro)
  (repeat (with_reducible refine ob ?_)); refine no_ ?_
  try (refine ev ?_; try exact True.intro)
  (repeat (with_reducible refine ob ?_)); refine clO [0, 1, 2] zgt (hc) ?_
  try (refine ev ?_; try exact True.intro)
  cases hf : (wa most ⟨b, p, false⟩).2.failed
  ·try (refine ev ?_; try exact True.intro)
   (repeat (with_reducible refine ob ?_)); refine no_ ?_
   try simp only [hf, if_false, go_sem, Nat.reduceAdd, Nat.reduceMul, Nat.reduceSub, Nat.reduceEqDiff, Nat.reduceLT, Nat.reduceLeDiff, Nat.reduceBEq, reduceIte, reduceCtorEq, Int.reduceAdd, Int.reduceLT, Int.reduceLE, Int.reduceGT, Int.reduceGE, Int.reduceEq, Int.reduceNe, Int.reduceBEq, Int.reduceBNe, Int.reduceToNat, Int.reduceNeg]
  ·try (refine ev ?_; try exact True.intro)
   (repeat (with_reducible refine ob ?_)); refine qct ?_
   try (refine ev1 @hf ?_; try exact True.intro)
 ·try (refine ev ?_; try exact True.intro)
  (repeat (with_reducible refine ob ?_)); refine qct ?_
  try (refine ev ?_; try exact True.intro)
theorem qqa (r : Rd) (lo hi : Int) (hr : r.Ok) : qo Tryz.prog 112 [.d (.ptr 0 0), .d (.int .i64 lo), .d (.int .i64 hi)] [rdO r] (.d (.int .i64 (zg lo hi r).1)) [rdO (zg lo hi r).2] := by
 have hc := qkm r lo hi hr
 simp only [rdO] at hc
 refine zgw.go ?_
 try (refine ev1 @rdO.eq_1 ?_; try exact True.intro)
 refine clO [0, 1, 2, 3] x6o hc ?_
 try (refine ev ?_; try exact True.intro)
theorem q01 (r : Rd) (hr : r.Ok) : qo Tryz.prog 114 [.d (.ptr 0 0)] [rdO r] (.d (.bool (qbn r).1)) [rdO (qbn r).2] := by
 have hc := qsq r hr
 simp only [rdO] at hc
 refine zgx.go ?_
 try (refine ev1 @rdO.eq_1 ?_; try exact True.intro)
 (repeat (with_reducible refine ob ?_)); refine clO [0] zgu (hc) ?_
 try (refine ev ?_; try exact True.intro)
theorem qlo (r : Rd) (most : Nat) (hr : r.Ok) (hm : most ≤ 1000000000) : qo Tryz.prog 115 [.d (.ptr 0 0), .d (.int .i64 most)] [rdO r] (.d (.sl 1 (qd (kj most r).1))) [rdO (kj most r).2] := by
 have hc := qp9 r most hr hm
 simp only [rdO] at hc
 refine zbt.go ?_
 try (refine ev1 @rdO.eq_1 ?_; try exact True.intro)
 refine clO [0, 1, 2] zgv hc ?_
 try (refine ev ?_; try exact True.intro)
theorem q02 (r : Rd) (most : Nat) (hr : r.Ok) (hm : most ≤ 1000000000) : qo Tryz.prog 113 [.d (.ptr 0 0), .d (.int .i64 most)] [rdO r] (.d (.str (kj most r).1)) [rdO (kj most r).2] := by
 have hc := qlo r most hr hm
 simp only [rdO] at hc
 refine zgy.go ?_
 try (refine ev1 @rdO.eq_1 ?_; try exact True.intro)
 (repeat (with_reducible refine ob ?_)); refine clO [0] zbt (hc) ?_
 try (refine ev ?_; try exact True.intro)
end Go.Proofs.YtinnaedmdoengaaGreat
