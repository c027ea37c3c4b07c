/- Texts Wk, Wl, Wm, Wn, Wo, Wp, Wq, Ws. -/
import Derived.Test.YtinnaedmdoengaaMan
import Derived.Calls
import Derived.Orders
import Derived.Tactics
import Derived.Laws.AppendOwn
import Derived.Laws.Slices
import Derived.Laws.Closers25
import Derived.Laws.StructEq
import Derived.Laws.BytesString
import Derived.Laws.CopyRow
import Derived.MapKept
import Derived.Maps.RangeRun
import Derived.TacticsIn
import Derived.OrdersIn
import Derived.RangeFuncRecord
import Derived.RangeFuncLeaves
import Derived.IntWalk
import Derived.ProofKit
import Derived.OpenShut
import Derived.Carry
import Derived.Test.YtinnaedmdoengaaProg
import Derived.KernelRfl
import Derived.OwnWalkIn
import Derived.TacticsInMore
import Derived.LoopIn
import Derived.WalkKit
import Derived.Lib.Strings
import Derived.Lib.Slices
import Derived.Lib.Walk
import Derived.Lib.Bytealg
import Derived.Shelf.SlSortCmp.WholeK
import Derived.Shelf.SlSortCmp.NoneTotal
/- slices.SortFunc at entries with different keys: its contract. -/
namespace Go.Proofs.Ytinnaedmdoengaa
open Go.Abs Go.Shelf Go.RowKit Go.Lib Go.Sort
set_option linter.unusedSimpArgs false
set_option linter.unusedVariables false

theorem sort_body : (Try.prog.funcs[45]?).any (fun fn => fn.body.isSome && !(fn.name == "runtime.NumGoroutine")) = true := by rw [Try.func45]; rfl

theorem encR_two (x : RowE) : (encR x).length = 2 := rfl
theorem encR_one (x : RowE) : ∀ v ∈ encR x, v.oneCell' = true := by
  intro v hv
  simp [encR] at hv
  rcases hv with rfl | rfl
  · rfl
  · exact x.2.2

set_option maxHeartbeats 1000000 in
theorem sort_ok (l : List En) (hn : (l.map (·.1)).Nodup) (hl : l.length ≤ 1000000) :
    ACall Try.prog 45 [.d (.ref 0 0 2 l.length), .d (.func (.func 46) [] [])] [.row ((flatEn l).map .d)] (.tup []) [.row ((flatEn (sortEn l)).map .d)] := by
  intro g w vs hd hlen hv ho
  match vs, hlen with
  | [v0, v1], _ =>
  have h1 := rs_d (rs_of_rc (hv 1 v1 _ rfl rfl))
  have hf1 : v1 = .func (.func 46) #[] #[] := by
    cases h1 with
    | func _ vf vc _ _ hf hc =>
      have e1 : vf = [] := List.eq_nil_of_length_eq_zero (by simpa using hf)
      have e2 : vc = [] := List.eq_nil_of_length_eq_zero (by simpa using hc)
      subst e1; subst e2; rfl
  subst hf1
  have h0 := rs_d (rs_of_rc (hv 0 v0 _ rfl rfl))
  generalize hln : l.length = n at h0
  -- nothing to sort
  have none_ : ∀ (p : Option Addr) (cap : Nat), n = 0 → v0 = .slice p 0 cap → Calls Try.prog 45 [v0, .func (.func 46) #[] #[]].toArray w fun e w' =>
      ∃ v g' live', e = .returned v ∧ G g w g' w' ∧ Dom g' w' ∧ (∀ t ∈ (ASlot.tup []).toks, t ∈ live') ∧ RS g' w' live' v (.tup []) ∧ ObjsOk g' w' live' [.row ((flatEn (sortEn l)).map .d)] := by
    intro p cap h0 hv0
    have hl0 : l = [] := List.eq_nil_of_length_eq_zero (by omega)
    subst hl0; subst hv0
    have hcon := AnyF.slices_SortFunc_none sortE p cap (.func (.func 46) #[] #[]) w
    change Calls Try.prog 45 _ _ _ at hcon
    refine hcon.mono ?_
    rintro e w' ⟨rfl, rfl⟩
    have hs0 : sortEn [] = [] := by simp [sortEn]
    rw [hs0]
    exact ⟨_, g, [], rfl, .refl _ _, hd, by simp [ASlot.toks], ⟨[], rfl, rfl, fun i u s hu => by simp at hu⟩, ho⟩
  cases h0 with
  | refnil a => exact none_ a 0 rfl rfl
  | ref b _ _ _ _ cap hg hcap hmx hsz =>
  by_cases hn0 : n = 0
  · subst hn0; exact none_ _ cap rfl rfl
  obtain ⟨b', hb', c, et, hh, hcs, hcc⟩ := (ho.objs 0 _ rfl (by simp)).resolve_right (fun h => by
    have := h.1
    simp at this
    have := congrArg List.length this
    simp [flatEn_len] at this; omega)
  have : b' = b := ho.inj b' b 0 hb' hg
  subst this
  rw [List.length_map, flatEn_len] at hcs
  -- the cells
  have hcell : ∀ (i : Nat) (e : En), l[i]? = some e → c[2 * i]? = some (.string ⟨e.1.toArray⟩) ∧ ∃ v, c[2 * i + 1]? = some v ∧ v.oneCell' = true ∧ RV g w v (.sl 1 (byteRows e.2)) := by
    intro i e he
    obtain ⟨k1, k2⟩ := flatEn_get l i e he
    obtain ⟨u, u1, _, u3⟩ := hcc (2 * i) (.d (.str e.1)) (by rw [List.getElem?_map, k1]; rfl)
    obtain ⟨v, v1, v2, v3⟩ := hcc (2 * i + 1) (.d (.sl 1 (byteRows e.2))) (by rw [List.getElem?_map, k2]; rfl)
    have hu := rv_str (show RV g w u (.str e.1) from u3)
    subst hu
    exact ⟨u1, v, v1, v2, v3⟩
  let mkR : Nat → RowE := fun i => match l[i]?, c[2 * i + 1]? with
    | some e, some v => if h : v.oneCell' = true then (e.1, ⟨v, h⟩) else default
    | _, _ => default
  let P : List (RowE × En) := (List.range n).map fun i => (mkR i, l.getD i ([], []))
  have hPR : ∀ z ∈ P, z.1.1 = z.2.1 ∧ RV g w z.1.2.1 (.sl 1 (byteRows z.2.2)) := by
    intro z hz
    obtain ⟨i, hi, rfl⟩ := List.mem_map.1 hz
    have hil : i < l.length := by rw [hln]; exact List.mem_range.1 hi
    have he := List.getElem?_eq_getElem hil
    obtain ⟨_, v, v1, v2, v3⟩ := hcell i _ he
    have : mkR i = (l[i].1, ⟨v, v2⟩) := by simp only [mkR, he, v1, dif_pos v2]
    have e2 : l.getD i ([], []) = l[i] := by simp [List.getD, he]
    simp only [this, e2]
    exact ⟨trivial, v3⟩
  have hPs : P.map (·.2) = l := by
    apply List.ext_getElem?
    intro i
    simp only [P, List.map_map, List.getElem?_map]
    rcases Nat.lt_or_ge i n with h | h
    · rw [List.getElem?_range h]
      have he := List.getElem?_eq_getElem (show i < l.length by omega)
      simp [he, List.getD]
    · rw [List.getElem?_eq_none (by simpa using h), List.getElem?_eq_none (by omega)]; rfl
  obtain ⟨d, hdd⟩ : ∃ d : Array RowE, d = (P.map (·.1)).toArray := ⟨_, rfl⟩
  have hds : d.size = n := by rw [hdd]; simp [P]
  have hdi : ∀ i, i < n → d[i]! = mkR i := fun i hi => by rw [hdd]; simp [P, hi]
  have hblk : b' < w.heap.size := (Array.getElem?_eq_some_iff.1 hh).1
  have hfl : ∀ t, t < n * 2 → (flatK encR 2 d)[t]! = c.getD t default := by
    intro t ht
    rw [get_flatK encR 2 d t (by rw [hds]; exact ht), hdi _ (by omega)]
    have hil : t / 2 < l.length := by omega
    have he := List.getElem?_eq_getElem hil
    obtain ⟨k1, v, v1, v2, v3⟩ := hcell (t / 2) _ he
    have hm : mkR (t / 2) = (l[t / 2].1, ⟨v, v2⟩) := by simp only [mkR, he, v1, dif_pos v2]
    rw [hm]
    rcases Nat.mod_two_eq_zero_or_one t with hp | hp
    · have e1 : 2 * (t / 2) = t := by omega
      rw [e1] at k1
      rw [hp, Array.getD_eq_getD_getElem?, k1]
      rfl
    · have e1 : 2 * (t / 2) + 1 = t := by omega
      rw [e1] at v1
      rw [hp, Array.getD_eq_getD_getElem?, v1]
      rfl
  have hH : HoldsK encR 2 w b' 0 d := by
    intro j hj
    rw [size_flatK, hds] at hj
    refine ⟨?_, by simp [World.frozen?, hh]⟩
    rw [hfl j hj]
    have hjc : j < c.size := by omega
    simp [World.cell?, hh, hjc]
  have eg : ∀ args w, (callFunc 46 args).run Try.prog w = .ok (.enter 46 args) w := enters_of Try.func46 (by kernel_rfl) rfl
  have hcon := AnyQ.slices_SortFunc sortE 2 Try.isAgg99 Try.sizeOf99 encR encR_two encR_one cmpR swoR 46 #[] b' 0 cap d w eg (fun _ _ _ _ x y => list1_ok x y _) hH hblk (by omega)
  change Calls Try.prog 45 _ _ _ at hcon
  rw [hds] at hcon
  refine hcon.mono ?_
  rintro e w' ⟨rfl, d', m, os, hperm, hsort, hw'⟩
  obtain ⟨hps, _, hpl⟩ := hperm
  rw [hds] at hps
  have hp2 : d'.toList.Perm (P.map (·.1)) := by
    have e1 : d'.extract 0 n = d' := by rw [← hps]; simp
    have e2 : d.extract 0 n = d := by rw [← hds]; simp
    rw [e1, e2] at hpl
    rw [hdd] at hpl
    simpa using hpl
  obtain ⟨Q, q1, q2⟩ := perm_lift (fun z : RowE × En => z.1) hp2 rfl
  have hQl : Q.length = n := by rw [q1.length_eq]; simp [P]
  have hesl : (Q.map (·.2)).Perm l := by
    have := q1.map (fun z : RowE × En => z.2)
    rwa [hPs] at this
  have hQ : ∀ (i : Nat) (z : RowE × En), Q[i]? = some z → d'[i]! = z.1 ∧ z.1.1 = z.2.1 ∧ RV g w z.1.2.1 (.sl 1 (byteRows z.2.2)) := by
    intro i z hz
    have h1 := congrArg (fun l => l[i]?) q2
    simp only [List.getElem?_map, hz, Option.map_some, Array.getElem?_toList] at h1
    have hi : i < d'.size := by rw [hps, ← hQl]; exact (List.getElem?_eq_some_iff.1 hz).1
    refine ⟨?_, hPR z (q1.mem_iff.1 (List.mem_of_getElem? hz))⟩
    rw [getElem!_pos d' i hi]
    rw [Array.getElem?_eq_getElem hi] at h1
    simpa using h1.symm
  have hsorted : (Q.map (·.2)).Pairwise fun a b => cmpB a.1 b.1 ≤ 0 := by
    rw [List.pairwise_iff_getElem]
    intro i j hi hj hij
    simp only [List.length_map] at hi hj
    have zi := hQ i _ (List.getElem?_eq_getElem hi)
    have zj := hQ j _ (List.getElem?_eq_getElem hj)
    have hs := hsort i j (Nat.zero_le _) hij (by omega)
    rw [zi.1, zj.1] at hs
    have hs2 : ¬ cmpB Q[j].1.1 Q[i].1.1 < 0 := of_decide_eq_false hs
    rw [zi.2.1, zj.2.1] at hs2
    simp only [List.getElem_map]
    exact cmpB_le_lt.1 hs2
  have hes : Q.map (·.2) = sortEn l := by
    have hn2 : ((Q.map (·.2)).map (·.1)).Nodup := (hesl.map (fun x : En => x.1)).nodup_iff.2 hn
    exact sorted_one (hesl.trans (sortEn_perm l).symm) hn2 hsorted (sortEn_sorted l)
  have hwh : w'.heap = (w.heap.modify b' (onCells (putCells (fun v : Value => v) 0 (flatK encR 2 d')))) ++ os := by subst hw'; rfl
  have hother : ∀ k, k ≠ b' → k < w.heap.size → w'.heap[k]? = w.heap[k]? := by
    intro k hk hkl
    rw [hwh, Array.getElem?_append, if_pos (by simpa using hkl), Array.getElem?_modify, if_neg (Ne.symm hk)]
  have hself : w'.heap[b']? = some (.cells (putCells (fun v : Value => v) 0 (flatK encR 2 d') c) et (0, 0)) := by
    rw [hwh, Array.getElem?_append, if_pos (by simpa using hblk), Array.getElem?_modify, if_pos rfl, hh]
    rfl
  have hsize : w.heap.size ≤ w'.heap.size := by
    subst hw'
    simp [sortWorldK, grow, putRowK, putRow, mapBlock, Sort.ahead]
  have htop : w'.os = w.os ∧ w'.tape = w.tape ∧ w'.output = w.output := by subst hw'; exact ⟨rfl, rfl, rfl⟩
  have hne : ∀ k r, g k = r → (∀ i, r ≠ .obj i) → k ≠ b' := fun k r h hr he => by rw [he, hg] at h; exact hr 0 h.symm
  have hG : G g w g w' := by
    refine ⟨htop.1, htop.2.1, htop.2.2, hsize, fun k hk hgk => ⟨hother k (hne k _ hgk (by simp)) hk, hgk⟩, fun k r hk hgk => ⟨hother k (hne k _ hgk (by simp)) hk, hgk⟩,
      fun k r t hk hgk => ⟨r, some t, hgk, Nat.le_refl _, fun i u _ hu => by rw [cell_same (hother k (hne k _ hgk (by simp)) hk)]; exact hu⟩, fun k id hk hgk => ⟨hgk, ?_⟩⟩
    by_cases hkb : k = b'
    · subst hkb
      rw [bsize_cells hh, bsize_cells hself]
      simp [putCells]
    · exact Nat.le_of_eq (bsize_same (hother k hkb hk)).symm
  refine ⟨_, g, [], rfl, hG, fun k hk => hd k (by omega), by simp [ASlot.toks], ⟨[], rfl, rfl, fun i u s hu => by simp at hu⟩, ⟨fun oid o hid hno => ?_, ho.inj, fun b oid hb => ?_⟩⟩
  · match oid, hid with
    | 0, hid =>
      simp at hid
      subst hid
      have hle := (sortEn_perm l).length_eq
      refine .inl ⟨b', hg, _, et, hself, by simp [putCells, flatEn_len, hle]; omega, fun i s hi => ?_⟩
      rw [List.getElem?_map, Option.map_eq_some_iff] at hi
      obtain ⟨x, hx, rfl⟩ := hi
      have hil : i < n * 2 := by
        have := (List.getElem?_eq_some_iff.1 hx).1
        rw [flatEn_len, hle, hln] at this
        exact this
      have hQi : i / 2 < Q.length := by omega
      obtain ⟨z1, z2, z3⟩ := hQ (i / 2) _ (List.getElem?_eq_getElem hQi)
      have hz : (sortEn l)[i / 2]? = some Q[i / 2].2 := by rw [← hes, List.getElem?_map, List.getElem?_eq_getElem hQi]; rfl
      obtain ⟨k1, k2⟩ := flatEn_get _ _ _ hz
      have hcv : (putCells (fun v : Value => v) 0 (flatK encR 2 d') c)[i]? = some ((encR Q[i / 2].1)[i % 2]!) := by
        have hic : i < c.size := by omega
        simp only [putCells, Array.getElem?_mapIdx, Array.getElem?_eq_getElem hic, Option.map_some, size_flatK, hps, Nat.zero_le, true_and, Nat.zero_add, hil, if_true, Nat.sub_zero]
        rw [get_flatK encR 2 d' i (by rw [hps]; exact hil), z1]
      rcases Nat.mod_two_eq_zero_or_one i with hp | hp
      · have e1 : 2 * (i / 2) = i := by omega
        rw [e1] at k1
        rw [k1] at hx; cases hx
        rw [hp] at hcv
        have hcs : (encR Q[i / 2].1)[0]! = .string ⟨Q[i / 2].2.1.toArray⟩ := by rw [← z2]; rfl
        rw [hcs] at hcv
        exact ⟨_, hcv, rfl, .str _⟩
      · have e1 : 2 * (i / 2) + 1 = i := by omega
        rw [e1] at k2
        rw [k2] at hx; cases hx
        rw [hp] at hcv
        exact ⟨_, hcv, Q[i / 2].1.2.2, z3.mono (hG.rowsKept hd) (fun b id hb => hG.obj b id (hd.lt_obj hb) hb)⟩
    | i + 1, hid => simp at hid
  · obtain ⟨o, h1, h2⟩ := ho.ids b oid hb
    match oid, h1 with
    | 0, h1 => exact ⟨_, rfl, by simp⟩
    | i + 1, h1 => simp at h1
end Go.Proofs.Ytinnaedmdoengaa

/- Layer 48 (store): List. -/
namespace Go.Proofs.Ytinnaedmdoengaa
open Go.Abs
set_option linter.unusedSimpArgs false
set_option linter.unusedVariables false

attribute [go_sem] sliceSOut

def pre (p k : List UInt8) : Bool := decide (p.length ≤ k.length) && k.take p.length == p

section
variable {P : Program} {k0 o : Nat} {p : List (Nat × Nat)} {Q : SExit → St → Prop} {st : St}
noncomputable def s95r0 : List SOper := [
  ⟨some 4, .mov (.k (.d (.bool false))), none⟩]
noncomputable def s95r1 : List SOper := [
  ⟨some 5, .mov (.t 0), none⟩,
  ⟨some 6, .lenS (.t 5), none⟩,
  ⟨some 7, .mov (.t 1), none⟩,
  ⟨some 8, .lenS (.t 7), none⟩,
  ⟨some 9, .bin .geq (.t 6) (.t 8), none⟩,
  ⟨some 10, .mov (.t 9), none⟩,
  ⟨some 11, .mov (.t 0), some (10, true)⟩,
  ⟨some 12, .mov (.t 1), some (10, true)⟩,
  ⟨some 13, .lenS (.t 12), some (10, true)⟩,
  ⟨some 14, .sliceS (.t 11) none (some (.t 13)), some (10, true)⟩,
  ⟨some 15, .mov (.t 1), some (10, true)⟩,
  ⟨some 16, .bin .eql (.t 14) (.t 15), some (10, true)⟩,
  ⟨some 17, .pick (.t 10) (.t 16) (.k (.d (.bool false))), none⟩,
  ⟨some 4, .mov (.t 17), none⟩]
noncomputable def s95 : SCode := (.seq (.region s95r0 0 []) (.seq (.region s95r1 0 []) .ret))
theorem e95 : AWp P k0 s95 Q st = AWp P k0 (.seq (.region s95r0 0 []) (.seq (.region s95r1 0 []) .ret)) Q st := rfl
theorem u95r0 : goReg P s95r0 o p Q st = goLit P (litOf s95r0.eq_1) o p Q st := goReg_of _
theorem u95r1 : goReg P s95r1 o p Q st = goLit P (litOf s95r1.eq_1) o p Q st := goReg_of _
attribute [go_sem] u95r0 u95r1 e95
set_option maxRecDepth 100000 in
theorem F95 : FnIs Try.prog 95 Try.f95 [] news s95 [.tmp 4] 18 := ⟨follows, Try.func95, by kernel_rfl, by kernel_rfl, by kernel_rfl, by kernel_rfl⟩

noncomputable def s44r0 : List SOper := [
  ⟨some 4, .mov (.k (.d (.bool false))), none⟩]
noncomputable def s44r1 : List SOper := [
  ⟨some 5, .mov (.t 0), none⟩,
  ⟨some 6, .mov (.t 1), none⟩,
  ⟨some 7, .call (.k (.d (.func (.func 95) [] []))) [(.t 5), (.t 6)], none⟩,
  ⟨some 4, .mov (.t 7), none⟩]
noncomputable def s44 : SCode := (.seq (.region s44r0 0 []) (.seq (.region s44r1 0 []) .ret))
theorem e44 : AWp P k0 s44 Q st = AWp P k0 (.seq (.region s44r0 0 []) (.seq (.region s44r1 0 []) .ret)) Q st := rfl
theorem u44r0 : goReg P s44r0 o p Q st = goLit P (litOf s44r0.eq_1) o p Q st := goReg_of _
theorem u44r1 : goReg P s44r1 o p Q st = goLit P (litOf s44r1.eq_1) o p Q st := goReg_of _
attribute [go_sem] u44r0 u44r1 e44
set_option maxRecDepth 100000 in
theorem F44 : FnIs Try.prog 44 Try.f44 [] news s44 [.tmp 4] 8 := ⟨follows, Try.func44, by kernel_rfl, by kernel_rfl, by kernel_rfl, by kernel_rfl⟩

end

theorem hasPrefix0_ok (k p : List UInt8) : ACall Try.prog 95 [.d (.str k), .d (.str p)] [] (.d (.bool (pre p k))) [] := by
  refine F95.go ?_
  by_cases h : p.length ≤ k.length
  · have hd : decide ((k.length : Int) ≥ (p.length : Int)) = true := by simpa using h
    have hd2 : decide (p.length ≤ k.length) = true := by simpa using h
    try simp only [pre, hd, hd2, go_sem, Nat.reduceAdd, Nat.reduceMul, Nat.reduceSub, Nat.reduceEqDiff, Nat.reduceLT, Nat.reduceLeDiff, Nat.reduceBEq, reduceIte, reduceCtorEq, Int.reduceAdd, Int.reduceLT, Int.reduceLE, Int.reduceGT, Int.reduceGE, Int.reduceEq, Int.reduceNe, Int.reduceBEq, Int.reduceBNe, Int.reduceToNat, Int.reduceNeg]
    (repeat (with_reducible refine ob ?_))
    try simp only [hd, Nat.sub_zero, go_sem, Nat.reduceAdd, Nat.reduceMul, Nat.reduceSub, Nat.reduceEqDiff, Nat.reduceLT, Nat.reduceLeDiff, Nat.reduceBEq, reduceIte, reduceCtorEq, Int.reduceAdd, Int.reduceLT, Int.reduceLE, Int.reduceGT, Int.reduceGE, Int.reduceEq, Int.reduceNe, Int.reduceBEq, Int.reduceBNe, Int.reduceToNat, Int.reduceNeg]
  · have hd : decide ((k.length : Int) ≥ (p.length : Int)) = false := by simpa using h
    have hd2 : decide (p.length ≤ k.length) = false := by simpa using h
    try simp only [pre, hd, hd2, go_sem, Nat.reduceAdd, Nat.reduceMul, Nat.reduceSub, Nat.reduceEqDiff, Nat.reduceLT, Nat.reduceLeDiff, Nat.reduceBEq, reduceIte, reduceCtorEq, Int.reduceAdd, Int.reduceLT, Int.reduceLE, Int.reduceGT, Int.reduceGE, Int.reduceEq, Int.reduceNe, Int.reduceBEq, Int.reduceBNe, Int.reduceToNat, Int.reduceNeg]
    (repeat (with_reducible refine ob ?_))
    try simp only [hd, go_sem, Nat.reduceAdd, Nat.reduceMul, Nat.reduceSub, Nat.reduceEqDiff, Nat.reduceLT, Nat.reduceLeDiff, Nat.reduceBEq, reduceIte, reduceCtorEq, Int.reduceAdd, Int.reduceLT, Int.reduceLE, Int.reduceGT, Int.reduceGE, Int.reduceEq, Int.reduceNe, Int.reduceBEq, Int.reduceBNe, Int.reduceToNat, Int.reduceNeg]

theorem hasPrefix_ok (k p : List UInt8) : ACall Try.prog 44 [.d (.str k), .d (.str p)] [] (.d (.bool (pre p k))) [] := by
  refine F44.go ?_
  try (refine ev ?_; try exact True.intro)
  (repeat (with_reducible refine ob ?_)); first | refine cl F95 (hasPrefix0_ok k p) ?_ | refine clF F95 (hasPrefix0_ok k p) (fun _ => by simp only [encOp, encEn, go_sem, Nat.reduceAdd, Nat.reduceMul, Nat.reduceSub, Nat.reduceEqDiff, Nat.reduceLT, Nat.reduceLeDiff, Nat.reduceBEq, reduceIte, reduceCtorEq, Int.reduceAdd, Int.reduceLT, Int.reduceLE, Int.reduceGT, Int.reduceGE, Int.reduceEq, Int.reduceNe, Int.reduceBEq, Int.reduceBNe, Int.reduceToNat, Int.reduceNeg]) ?_
  try (refine ev ?_; try exact True.intro)

section
variable {P : Program} {k0 o : Nat} {p : List (Nat × Nat)} {Q : SExit → St → Prop} {st : St}
noncomputable def s17ur0 : List SOper := [
  ⟨some 4, .mov (.k (.d .nilsl)), none⟩]
noncomputable def s17ur1 : List SOper := [
  ⟨some 8, .mov (.t 0), none⟩,
  ⟨some 9, .eqnil false .ptr (.t 8), none⟩]
noncomputable def s17ur2 : List SOper := [
  ⟨some 4, .mov (.k (.d .nilsl)), none⟩]
noncomputable def s17ur3 : List SOper := [
  ⟨some 5, .mov (.k (.d .nilsl)), none⟩]
noncomputable def s17ur4 : List SOper := [
  ⟨some 10, .mov (.t 0), none⟩,
  ⟨some 11, .nilCheck (.t 10), none⟩,
  ⟨some 12, .faddr 2 (.t 11), none⟩,
  ⟨some 13, .load none (.t 12), none⟩,
  ⟨some 14, .rangeM 1 (.t 13), none⟩]
noncomputable def s17ur5 : List SOper := [
  ⟨some 15, .nextM (.t 14), none⟩,
  ⟨some 16, .extract 0 (.t 15), none⟩]
noncomputable def s17ur6 : List SOper := [
  ⟨some 17, .entryM (.t 14), none⟩,
  ⟨some 18, .extract 0 (.t 17), none⟩,
  ⟨some 19, .extract 1 (.t 17), none⟩,
  ⟨some 6, .mov (.t 18), none⟩,
  ⟨some 7, .mov (.t 19), none⟩]
noncomputable def s17ur7 : List SOper := [
  ⟨some 20, .mov (.t 6), none⟩,
  ⟨some 21, .mov (.t 1), none⟩,
  ⟨some 22, .call (.k (.d (.func (.func 44) [] []))) [(.t 20), (.t 21)], none⟩]
noncomputable def s17ur8 : List SOper := [
  ⟨some 23, .mov (.t 5), none⟩,
  ⟨some 24, .mov (.t 6), none⟩,
  ⟨some 25, .mov (.t 7), none⟩,
  ⟨some 26, .call (.k (.d (.func (.func 43) [] []))) [(.t 25)], none⟩,
  ⟨some 27, .build [(.str []), .nilsl] [(0, 1, (.t 24)), (1, 1, (.t 26))], none⟩,
  ⟨some 28, .buildSlice false 2 1 [(.str []), .nilsl] [(0, 2, (.t 27))], none⟩,
  ⟨some 29, .append true 2 40 (.t 23) (.t 28), none⟩,
  ⟨some 5, .mov (.t 29), none⟩]
noncomputable def s17ul9 : SCode := (.seq (.region s17ur5 0 []) (.seq (.cond (.t 16) .skip (.exit 0)) (.block 1 (.seq (.region s17ur6 0 []) (.seq (.region s17ur7 0 []) (.cond (.t 22) (.region s17ur8 0 []) .skip))))))
theorem e17ul9 : AWp P k0 s17ul9 Q st = AWp P k0 (.seq (.region s17ur5 0 []) (.seq (.cond (.t 16) .skip (.exit 0)) (.block 1 (.seq (.region s17ur6 0 []) (.seq (.region s17ur7 0 []) (.cond (.t 22) (.region s17ur8 0 []) .skip)))))) Q st := rfl
noncomputable def s17ur10 : List SOper := [
  ⟨some 30, .mov (.t 5), none⟩,
  ⟨some 31, .call (.k (.d (.func (.func 45) [] []))) [(.t 30), (.k (.d (.func (.func 46) [] [])))], none⟩]
noncomputable def s17ur11 : List SOper := [
  ⟨some 32, .mov (.t 5), none⟩,
  ⟨some 4, .mov (.t 32), none⟩]
noncomputable def s17u : SCode := (.seq (.region s17ur0 0 []) (.seq (.seq (.region s17ur1 0 []) (.cond (.t 9) (.seq (.region s17ur2 0 []) (.pause .ret)) .skip)) (.seq (.region s17ur3 0 []) (.seq (.seq (.region s17ur4 1 []) (.block 0 (.loop s17ul9))) (.seq (.pause (.region s17ur10 0 [])) (.seq (.region s17ur11 0 []) (.pause .ret)))))))
theorem e17u : AWp P k0 s17u Q st = AWp P k0 (.seq (.region s17ur0 0 []) (.seq (.seq (.region s17ur1 0 []) (.cond (.t 9) (.seq (.region s17ur2 0 []) (.pause .ret)) .skip)) (.seq (.region s17ur3 0 []) (.seq (.seq (.region s17ur4 1 []) (.block 0 (.loop s17ul9))) (.seq (.pause (.region s17ur10 0 [])) (.seq (.region s17ur11 0 []) (.pause .ret))))))) Q st := rfl
theorem u17ur0 : goReg P s17ur0 o p Q st = goLit P (litOf s17ur0.eq_1) o p Q st := goReg_of _
theorem u17ur1 : goReg P s17ur1 o p Q st = goLit P (litOf s17ur1.eq_1) o p Q st := goReg_of _
theorem u17ur2 : goReg P s17ur2 o p Q st = goLit P (litOf s17ur2.eq_1) o p Q st := goReg_of _
theorem u17ur3 : goReg P s17ur3 o p Q st = goLit P (litOf s17ur3.eq_1) o p Q st := goReg_of _
theorem u17ur4 : goReg P s17ur4 o p Q st = goLit P (litOf s17ur4.eq_1) o p Q st := goReg_of _
theorem u17ur5 : goReg P s17ur5 o p Q st = goLit P (litOf s17ur5.eq_1) o p Q st := goReg_of _
theorem u17ur6 : goReg P s17ur6 o p Q st = goLit P (litOf s17ur6.eq_1) o p Q st := goReg_of _
theorem u17ur7 : goReg P s17ur7 o p Q st = goLit P (litOf s17ur7.eq_1) o p Q st := goReg_of _
theorem u17ur8 : goReg P s17ur8 o p Q st = goLit P (litOf s17ur8.eq_1) o p Q st := goReg_of _
theorem u17ur10 : goReg P s17ur10 o p Q st = goLit P (litOf s17ur10.eq_1) o p Q st := goReg_of _
theorem u17ur11 : goReg P s17ur11 o p Q st = goLit P (litOf s17ur11.eq_1) o p Q st := goReg_of _
attribute [go_sem] u17ur0 u17ur1 u17ur2 u17ur3 u17ur4 u17ur5 u17ur6 u17ur7 u17ur8 e17ul9 u17ur10 u17ur11 e17u
set_option maxRecDepth 100000 in
theorem F17u : FnIs Try.prog 17 Try.f17 [29] news s17u [.tmp 4] 33 := ⟨follows, Try.func17, by kernel_rfl, by kernel_rfl, by kernel_rfl, by kernel_rfl⟩

noncomputable def s45r0 : List SOper := [
  ⟨some 5, .mov (.t 0), none⟩,
  ⟨some 6, .len (.t 5), none⟩,
  ⟨some 4, .mov (.t 6), none⟩]
noncomputable def s45r1 : List SOper := [
  ⟨some 7, .mov (.t 0), none⟩,
  ⟨some 8, .mov (.t 4), none⟩,
  ⟨some 9, .mov (.t 4), none⟩,
  ⟨some 10, .conv .u64 (.t 9), none⟩,
  ⟨some 11, .call (.k (.d (.func (.func 97) [] []))) [(.t 10)], none⟩,
  ⟨some 12, .mov (.t 1), none⟩,
  ⟨some 13, .call (.k (.d (.func (.func 96) [] []))) [(.t 7), (.k (.d (.int .i64 0))), (.t 8), (.t 11), (.t 12)], none⟩]
noncomputable def s45 : SCode := (.seq (.region s45r0 0 []) (.region s45r1 0 []))
theorem e45 : AWp P k0 s45 Q st = AWp P k0 (.seq (.region s45r0 0 []) (.region s45r1 0 [])) Q st := rfl
theorem u45r0 : goReg P s45r0 o p Q st = goLit P (litOf s45r0.eq_1) o p Q st := goReg_of _
theorem u45r1 : goReg P s45r1 o p Q st = goLit P (litOf s45r1.eq_1) o p Q st := goReg_of _
attribute [go_sem] u45r0 u45r1 e45
set_option maxRecDepth 100000 in
theorem F45 : FnIs Try.prog 45 Try.f45 [] news s45 [] 14 := ⟨follows, Try.func45, by kernel_rfl, by kernel_rfl, by kernel_rfl, by kernel_rfl⟩

end

theorem inj_map {α β : Type} {f : α → β} : ∀ {l : List α}, (l.map f).Nodup → ∀ {x y : α}, x ∈ l → y ∈ l → f x = f y → x = y
  | [], _, x, y, hx, _, _ => by cases hx
  | a :: l, hn, x, y, hx, hy, h => by
    simp only [List.map_cons, List.nodup_cons, List.mem_map, not_exists, not_and] at hn
    rcases List.mem_cons.1 hx with rfl | hx'
    · rcases List.mem_cons.1 hy with rfl | hy'
      · rfl
      · exact absurd h.symm (hn.1 y hy')
    · rcases List.mem_cons.1 hy with rfl | hy'
      · exact absurd h (hn.1 x hx')
      · exact inj_map hn.2 hx' hy' h
theorem nodup_of_map {α β : Type} (f : α → β) : ∀ {l : List α}, (l.map f).Nodup → l.Nodup
  | [], _ => List.nodup_nil
  | a :: l, hn => by
    simp only [List.map_cons, List.nodup_cons, List.mem_map, not_exists, not_and] at hn ⊢
    exact ⟨fun h => hn.1 a h rfl, nodup_of_map f hn.2⟩

theorem find_one {α : Type} (f : α → Nat) : ∀ {l : List α}, (l.map f).Nodup → ∀ {x : α}, x ∈ l → (l.find? fun y => f y == f x) = some x
  | [], _, x, hx => by cases hx
  | a :: l, hn, x, hx => by
    rw [List.find?_cons]
    by_cases h : f a = f x
    · have := inj_map hn (List.mem_cons_self ..) hx h
      subst this
      simp
    · rw [beq_false_of_ne h]
      rcases List.mem_cons.1 hx with rfl | hx'
      · exact absurd rfl h
      · exact find_one f (by simp only [List.map_cons, List.nodup_cons] at hn; exact hn.2) hx'

theorem sub_len {α : Type} [DecidableEq α] : ∀ {a b : List α}, a.Nodup → (∀ x ∈ a, x ∈ b) → a.length ≤ b.length
  | [], _, _, _ => Nat.zero_le _
  | x :: a, b, h, hs => by
    have hx := hs x (List.mem_cons_self ..)
    have h' := List.nodup_cons.1 h
    have := sub_len (a := a) (b := b.erase x) h'.2 fun y hy => (List.mem_erase_of_ne (by rintro rfl; exact h'.1 hy)).2 (hs y (List.mem_cons_of_mem _ hy))
    rw [List.length_erase_of_mem hx] at this
    have := List.length_pos_of_mem hx
    simp only [List.length_cons]; omega
theorem flatEn_def (l : List En) : (l.map encEn).flatten = flatEn l := rfl
theorem flatEn_cell (l : List En) : (flatEn l).all D.isCell = true := by induction l <;> simp_all [flatEn, encEn, D.isCell]
attribute [go_sem] flatEn_def flatEn_noPtr flatEn_cell

/-- A content as it can be: the numbers below the next one, and different, as are the keys. -/
structure Cont.Ok (m : Cont) : Prop where
  num : (m.l.map (·.1)).Nodup
  lt : ∀ x ∈ m.l, x.1 < m.c
  key : (m.l.map (·.2.1)).Nodup

def enOf (x : KV) : En := (x.2.1, x.2.2)
def preL (p : List UInt8) (l : List KV) : List En := (l.filter fun x => pre p x.2.1).map enOf
def sList (m : Cont) (p : List UInt8) : List En := sortEn (preL p m.l)

theorem nodup_pre {p : List UInt8} {l : List KV} (h : (l.map (·.2.1)).Nodup) : ((preL p l).map (·.1)).Nodup := by
  unfold preL
  rw [List.map_map]
  exact List.Nodup.sublist (List.Sublist.map _ List.filter_sublist) h
theorem sort_same {a b : List En} (h : a.Perm b) (hn : (a.map (·.1)).Nodup) : sortEn a = sortEn b := by
  have h1 := sortEn_perm a
  have h2 := sortEn_perm b
  refine sorted_one (h1.trans (h.trans h2.symm)) ((h1.map (fun x : En => x.1)).nodup_iff.2 hn) (sortEn_sorted a) (sortEn_sorted b)

def Slist (s : Sto) (p : List UInt8) (i : { i : List KV // (i.map (·.1)).Nodup ∧ ∀ x ∈ i, x ∈ s.m.l }) : St :=
  ⟨[(1, true, .d (.str p)), (5, true, .uni 0 2 ((preL p i.val).map encEn)), (14, true, .d (.ptr 2 0))], [stoO s 1, mapO s.m, .iter (.d (.map 1)) s.m.c (i.val.map (·.1)) s.m.c], [0], 1⟩

set_option maxRecDepth 10000 in
theorem list_ok (s : Sto) (p : List UInt8) (hm : s.m.Ok) (hl : s.m.l.length ≤ 1000) (hv : ∀ x ∈ s.m.l, x.2.2.length ≤ 1000000) :
    ACall Try.prog 17 [.d (.ptr 0 0), .d (.str p)] [stoO s 1, mapO s.m] (.d (.sl 2 ((sList s.m p).map encEn))) [stoO s 1, mapO s.m] := by
  refine F17u.go ?_
  try simp only [stoO, mapO, go_sem, Nat.reduceAdd, Nat.reduceMul, Nat.reduceSub, Nat.reduceEqDiff, Nat.reduceLT, Nat.reduceLeDiff, Nat.reduceBEq, reduceIte, reduceCtorEq, Int.reduceAdd, Int.reduceLT, Int.reduceLE, Int.reduceGT, Int.reduceGE, Int.reduceEq, Int.reduceNe, Int.reduceBEq, Int.reduceBNe, Int.reduceToNat, Int.reduceNeg]
  (repeat (with_reducible refine ob ?_)); refine no_ ?_
  try (refine ev ?_; try exact True.intro)
  refine AWp_loop (Slist s p) (fun i => s.m.l.length - i.val.length) ⟨[], by simp, by simp⟩ ?_ (fun i => ?_)
  · try simp only [Slist, stoO, mapO, preL, List.filter_nil, List.map_nil, go_sem, Nat.reduceAdd, Nat.reduceMul, Nat.reduceSub, Nat.reduceEqDiff, Nat.reduceLT, Nat.reduceLeDiff, Nat.reduceBEq, reduceIte, reduceCtorEq, Int.reduceAdd, Int.reduceLT, Int.reduceLE, Int.reduceGT, Int.reduceGE, Int.reduceEq, Int.reduceNe, Int.reduceBEq, Int.reduceBNe, Int.reduceToNat, Int.reduceNeg]
  obtain ⟨i, hi1, hi2⟩ := i
  try simp only [Slist, stoO, mapO, go_sem, Nat.reduceAdd, Nat.reduceMul, Nat.reduceSub, Nat.reduceEqDiff, Nat.reduceLT, Nat.reduceLeDiff, Nat.reduceBEq, reduceIte, reduceCtorEq, Int.reduceAdd, Int.reduceLT, Int.reduceLE, Int.reduceGT, Int.reduceGE, Int.reduceEq, Int.reduceNe, Int.reduceBEq, Int.reduceBNe, Int.reduceToNat, Int.reduceNeg]
  have hleft : leftE (s.m.l.map encKV) (i.map (·.1)) = (s.m.l.filter fun x => !(i.map (·.1)).contains x.1).map encKV := by
    unfold leftE
    rw [List.filter_map]; rfl
  have hone : ∀ x ∈ s.m.l, ∀ y ∈ s.m.l, x.1 = y.1 → x = y := fun x hx y hy h => inj_map hm.num hx hy h
  refine nextO_of (last := s.m.c) ⟨rfl, rfl, by intro e he; obtain ⟨x, hx, rfl⟩ := List.mem_map.1 he; exact hm.lt x hx, Nat.le_refl _⟩ (fun hl0 => ?_) (fun e he => ?_)
  · -- all entries are listed
    rw [hleft, List.map_eq_nil_iff, List.filter_eq_nil_iff] at hl0
    have hall : ∀ x ∈ s.m.l, x ∈ i := by
      intro x hx
      have := hl0 x hx
      simp only [List.contains_eq_mem, decide_eq_true_eq, Bool.not_eq_true, Bool.not_eq_false', Bool.not_not] at this
      simp at this
      obtain ⟨a, b, hab⟩ := this
      have := hone x hx _ (hi2 _ hab) rfl
      rw [this]; exact hab
    have hperm : i.Perm s.m.l := by
      refine (List.perm_ext_iff_of_nodup (nodup_of_map _ hi1) (nodup_of_map _ hm.num)).2 fun x => ⟨hi2 x, hall x⟩
    have hpp : (preL p i).Perm (preL p s.m.l) := (hperm.filter _).map _
    have hpn : ((preL p i).map (·.1)).Nodup := by
      refine (hpp.map (fun x : En => x.1)).nodup_iff.2 ?_
      exact nodup_pre hm.key
    have hsame : sortEn (preL p i) = sList s.m p := sort_same hpp hpn
    have hlen : (preL p i).length ≤ 1000 := by
      have h1 := hpp.length_eq
      have h2 : (preL p s.m.l).length ≤ s.m.l.length := by simp only [preL, List.length_map]; exact List.length_filter_le _ _
      omega
    try simp only [overV, go_sem, Nat.reduceAdd, Nat.reduceMul, Nat.reduceSub, Nat.reduceEqDiff, Nat.reduceLT, Nat.reduceLeDiff, Nat.reduceBEq, reduceIte, reduceCtorEq, Int.reduceAdd, Int.reduceLT, Int.reduceLE, Int.reduceGT, Int.reduceGE, Int.reduceEq, Int.reduceNe, Int.reduceBEq, Int.reduceBNe, Int.reduceToNat, Int.reduceNeg]
    (repeat (with_reducible refine ob ?_)); refine no_ ?_
    try (refine ev ?_; try exact True.intro)
    refine pu_u2o (.fr 5) 0 2 ((preL p i).map encEn) ?_
    refine pu ?_
    try (refine ev ?_; try exact True.intro)
    refine clO [3] F45 (sort_ok (preL p i) hpn (by omega)) ?_
    try (refine ev ?_; try exact True.intro)
    have hsl : (preL p i).length = (sortEn (preL p i)).length := (sortEn_perm _).length_eq.symm
    rw [hsl]
    refine pu_frz 3 2 ((sortEn (preL p i)).map encEn) ?_ (hc := ?_) (hcc := ?_) (hes := ?_) (hok := D.okWR_noPtr (noPtrR_En _))
    · refine pu ?_
      try simp only [hsame, go_sem, Nat.reduceAdd, Nat.reduceMul, Nat.reduceSub, Nat.reduceEqDiff, Nat.reduceLT, Nat.reduceLeDiff, Nat.reduceBEq, reduceIte, reduceCtorEq, Int.reduceAdd, Int.reduceLT, Int.reduceLE, Int.reduceGT, Int.reduceGE, Int.reduceEq, Int.reduceNe, Int.reduceBEq, Int.reduceBNe, Int.reduceToNat, Int.reduceNeg]
    · try (refine ev ?_; try exact True.intro)
    · try (refine ev ?_; try exact True.intro)
    · intro r hr
      obtain ⟨x, _, rfl⟩ := List.mem_map.1 hr
      rfl
  · rw [hleft] at he
    obtain ⟨x, hx, rfl⟩ := List.mem_map.1 he
    rw [List.mem_filter] at hx
    obtain ⟨hx1, hx2⟩ := hx
    have hx3 : x.1 ∉ i.map (·.1) := by simpa using hx2
    have hnext : ((i ++ [x]).map (·.1)).Nodup ∧ ∀ y ∈ i ++ [x], y ∈ s.m.l := by
      refine ⟨by rw [List.map_append]; exact List.nodup_append.2 ⟨hi1, by simp, fun a ha b hb h => by simp at hb; subst hb; subst h; exact hx3 ha⟩, fun y hy => ?_⟩
      rcases List.mem_append.1 hy with h | h
      · exact hi2 y h
      · simp at h; subst h; exact hx1
    have hil : i.length < s.m.l.length := by
      have := sub_len (nodup_of_map _ hnext.1) hnext.2
      simp at this; omega
    have hpl : (preL p i).length ≤ i.length := by simp only [preL, List.length_map]; exact List.length_filter_le _ _
    try simp only [entV, go_sem, Nat.reduceAdd, Nat.reduceMul, Nat.reduceSub, Nat.reduceEqDiff, Nat.reduceLT, Nat.reduceLeDiff, Nat.reduceBEq, reduceIte, reduceCtorEq, Int.reduceAdd, Int.reduceLT, Int.reduceLE, Int.reduceGT, Int.reduceGE, Int.reduceEq, Int.reduceNe, Int.reduceBEq, Int.reduceBNe, Int.reduceToNat, Int.reduceNeg]
    (repeat (with_reducible refine ob ?_)); refine yes_ ?_
    try (refine ev ?_; try exact True.intro)
    refine entryO_of (e := encKV x) (mid := 1) (since := s.m.c) (seen := i.map (·.1) ++ [x.1]) (clock := s.m.c) (es := s.m.l.map encKV) ⟨rfl, rfl, by simp [encKV], ?_⟩ ?_
    · rw [List.find?_map]
      have h1 : s.m.l.find? ((fun e : Nat × D × D => e.1 == (encKV x).1) ∘ encKV) = some x := find_one (fun y : KV => y.1) hm.num hx1
      rw [h1]; rfl
    try simp only [encKV, go_sem, Nat.reduceAdd, Nat.reduceMul, Nat.reduceSub, Nat.reduceEqDiff, Nat.reduceLT, Nat.reduceLeDiff, Nat.reduceBEq, reduceIte, reduceCtorEq, Int.reduceAdd, Int.reduceLT, Int.reduceLE, Int.reduceGT, Int.reduceGE, Int.reduceEq, Int.reduceNe, Int.reduceBEq, Int.reduceBNe, Int.reduceToNat, Int.reduceNeg]
    (repeat (with_reducible refine ob ?_)); first | refine cl F44 (hasPrefix_ok x.2.1 p) ?_ | refine clF F44 (hasPrefix_ok x.2.1 p) (fun _ => by simp only [encOp, encEn, go_sem, Nat.reduceAdd, Nat.reduceMul, Nat.reduceSub, Nat.reduceEqDiff, Nat.reduceLT, Nat.reduceLeDiff, Nat.reduceBEq, reduceIte, reduceCtorEq, Int.reduceAdd, Int.reduceLT, Int.reduceLE, Int.reduceGT, Int.reduceGE, Int.reduceEq, Int.reduceNe, Int.reduceBEq, Int.reduceBNe, Int.reduceToNat, Int.reduceNeg]) ?_
    try (refine ev ?_; try exact True.intro)
    (repeat (with_reducible refine ob ?_)); refine iff_ _ (fun h => ?_) (fun h => ?_)
    · try (refine ev ?_; try exact True.intro)
      (repeat (with_reducible refine ob ?_)); first | refine cl F43 (bclone_ok x.2.2 (by have := hv x hx1; omega)) ?_ | refine clF F43 (bclone_ok x.2.2 (by have := hv x hx1; omega)) (fun _ => by simp only [encOp, encEn, go_sem, Nat.reduceAdd, Nat.reduceMul, Nat.reduceSub, Nat.reduceEqDiff, Nat.reduceLT, Nat.reduceLeDiff, Nat.reduceBEq, reduceIte, reduceCtorEq, Int.reduceAdd, Int.reduceLT, Int.reduceLE, Int.reduceGT, Int.reduceGE, Int.reduceEq, Int.reduceNe, Int.reduceBEq, Int.reduceBNe, Int.reduceToNat, Int.reduceNeg]) ?_
      try (refine ev ?_; try exact True.intro)
      refine ⟨by omega, ?_⟩
      have hpx : preL p (i ++ [x]) = preL p i ++ [enOf x] := by simp [preL, h]
      refine ⟨⟨i ++ [x], hnext⟩, ?_, by simp only [List.length_append, List.length_singleton]; omega⟩
      try simp only [Slist, stoO, mapO, hpx, List.map_append, encEn, enOf, go_sem, Nat.reduceAdd, Nat.reduceMul, Nat.reduceSub, Nat.reduceEqDiff, Nat.reduceLT, Nat.reduceLeDiff, Nat.reduceBEq, reduceIte, reduceCtorEq, Int.reduceAdd, Int.reduceLT, Int.reduceLE, Int.reduceGT, Int.reduceGE, Int.reduceEq, Int.reduceNe, Int.reduceBEq, Int.reduceBNe, Int.reduceToNat, Int.reduceNeg]
    · have hpx : preL p (i ++ [x]) = preL p i := by simp [preL, h]
      try (refine ev ?_; try exact True.intro)
      refine ⟨⟨i ++ [x], hnext⟩, ?_, by simp only [List.length_append, List.length_singleton]; omega⟩
      try simp only [Slist, stoO, mapO, hpx, List.map_append, encEn, enOf, go_sem, Nat.reduceAdd, Nat.reduceMul, Nat.reduceSub, Nat.reduceEqDiff, Nat.reduceLT, Nat.reduceLeDiff, Nat.reduceBEq, reduceIte, reduceCtorEq, Int.reduceAdd, Int.reduceLT, Int.reduceLE, Int.reduceGT, Int.reduceGE, Int.reduceEq, Int.reduceNe, Int.reduceBEq, Int.reduceBNe, Int.reduceToNat, Int.reduceNeg]
end Go.Proofs.Ytinnaedmdoengaa

/- Layer 48 (store): plain laws of contents. -/
namespace Go.Proofs.Ytinnaedmdoengaa
open Go.Abs
set_option linter.unusedSimpArgs false
set_option linter.unusedVariables false

theorem hasKey_iff {k : List UInt8} {x : KV} : hasKey k x = true ↔ k = x.2.1 := by simp [hasKey]
theorem find_modify {k v : List UInt8} : ∀ {l : List KV} {j : Nat}, l.findIdx? (hasKey k) = some j → ∀ k', (l.modify j fun e => (e.1, k, v)).find? (hasKey k') = if k' = k then some ((l[j]?.getD (0, [], [])).1, k, v) else l.find? (hasKey k')
  | [], j, h, k' => by simp at h
  | a :: l, j, h, k' => by
    rw [List.findIdx?_cons] at h
    by_cases ha : hasKey k a = true
    · rw [if_pos ha] at h
      cases h
      simp only [List.modify_zero_cons, List.find?_cons, List.getElem?_cons_zero, Option.getD_some]
      by_cases hk : k' = k
      · subst hk
        have : hasKey k' (a.1, k', v) = true := hasKey_iff.2 rfl
        rw [this, if_pos rfl]
      · have h1 : hasKey k' (a.1, k, v) = false := by simpa [hasKey] using hk
        have h2 : hasKey k' a = false := by rw [hasKey_iff] at ha; simp [hasKey, ← ha, hk]
        rw [h1, h2, if_neg hk]
    · rw [if_neg (by simpa using ha)] at h
      obtain ⟨i, hi, rfl⟩ := Option.map_eq_some_iff.1 h
      simp only [List.modify_succ_cons, List.find?_cons, List.getElem?_cons_succ]
      have ih := find_modify (v := v) hi k'
      by_cases hk : k' = k
      · subst hk
        have : hasKey k' a = false := by simpa using ha
        rw [this]
        exact ih
      · cases h2 : hasKey k' a with
        | true => rw [if_neg hk]
        | false => rw [ih]
theorem find_none {k : List UInt8} {l : List KV} (h : l.findIdx? (hasKey k) = none) : l.find? (hasKey k) = none := by
  rw [List.findIdx?_eq_none_iff] at h
  exact List.find?_eq_none.2 fun x hx => by rw [h x hx]; simp

theorem mGet_put (k v : List UInt8) (m : Cont) (k' : List UInt8) : mGet k' (mPut k v m) = if k' = k then some v else mGet k' m := by
  unfold mGet mPut
  cases h : m.l.findIdx? (hasKey k) with
  | some j =>
    simp only [find_modify h k']
    split <;> rfl
  | none =>
    simp only [List.find?_append]
    by_cases hk : k' = k
    · subst hk
      rw [find_none h, if_pos rfl]
      simp [hasKey]
    · rw [if_neg hk]
      have : [(m.c, k, v)].find? (hasKey k') = none := by simp [hasKey, hk]
      rw [this, Option.or_none]

theorem map_modify {k v : List UInt8} : ∀ {l : List KV} {j : Nat}, l.findIdx? (hasKey k) = some j → (l.modify j fun e => (e.1, k, v)).map (·.2.1) = l.map (·.2.1) ∧ (l.modify j fun e => (e.1, k, v)).map (·.1) = l.map (·.1)
  | [], j, h => by simp at h
  | a :: l, j, h => by
    rw [List.findIdx?_cons] at h
    by_cases ha : hasKey k a = true
    · rw [if_pos ha] at h
      cases h
      rw [hasKey_iff] at ha
      simp only [List.modify_zero_cons, List.map_cons, ha, and_self]
    · rw [if_neg (by simpa using ha)] at h
      obtain ⟨i, hi, rfl⟩ := Option.map_eq_some_iff.1 h
      obtain ⟨h1, h2⟩ := map_modify (v := v) hi
      simp only [List.modify_succ_cons, List.map_cons, h1, h2, and_self]
theorem nodup_snoc {α : Type} {l : List α} {x : α} (h : l.Nodup) (hx : x ∉ l) : (l ++ [x]).Nodup :=
  List.nodup_append.2 ⟨h, by simp, fun a ha b hb e => by simp at hb; subst hb; subst e; exact hx ha⟩

theorem mPut_ok {m : Cont} (h : m.Ok) (k v : List UInt8) : (mPut k v m).Ok := by
  unfold mPut
  cases hf : m.l.findIdx? (hasKey k) with
  | some j =>
    obtain ⟨h1, h2⟩ := map_modify (v := v) hf
    refine ⟨by simpa only [h2] using h.num, fun x hx => ?_, by simpa only [h1] using h.key⟩
    have : x.1 ∈ (m.l.modify j fun e => (e.1, k, v)).map (·.1) := List.mem_map_of_mem hx
    rw [h2] at this
    obtain ⟨y, hy, he⟩ := List.mem_map.1 this
    rw [← he]; exact h.lt y hy
  | none =>
    rw [List.findIdx?_eq_none_iff] at hf
    refine ⟨?_, fun x hx => ?_, ?_⟩
    · rw [List.map_append]
      refine nodup_snoc h.num fun hm => ?_
      obtain ⟨y, hy, he⟩ := List.mem_map.1 hm
      have := h.lt y hy
      simp only at he
      omega
    · simp only
      rcases List.mem_append.1 hx with hx | hx
      · have := h.lt x hx; omega
      · simp at hx; subst hx; simp
    · rw [List.map_append]
      refine nodup_snoc h.key fun hm => ?_
      obtain ⟨y, hy, he⟩ := List.mem_map.1 hm
      have := hf y hy
      simp [hasKey, he] at this
theorem mDel_sub (k : List UInt8) (m : Cont) : (mDel k m).l.Sublist m.l := by
  unfold mDel
  split
  · exact List.eraseIdx_sublist ..
  · exact List.Sublist.refl _
theorem mDel_ok {m : Cont} (h : m.Ok) (k : List UInt8) : (mDel k m).Ok :=
  ⟨List.Nodup.sublist ((mDel_sub k m).map _) h.num, fun x hx => by rw [mDel_c]; exact h.lt x ((mDel_sub k m).subset hx), List.Nodup.sublist ((mDel_sub k m).map _) h.key⟩

theorem find_erase {k : List UInt8} : ∀ {l : List KV} {j : Nat}, l.findIdx? (hasKey k) = some j → (l.map (·.2.1)).Nodup → ∀ k', (l.eraseIdx j).find? (hasKey k') = if k' = k then none else l.find? (hasKey k')
  | [], j, h, _, k' => by simp at h
  | a :: l, j, h, hn, k' => by
    rw [List.findIdx?_cons] at h
    simp only [List.map_cons, List.nodup_cons] at hn
    by_cases ha : hasKey k a = true
    · rw [if_pos ha] at h
      cases h
      rw [hasKey_iff] at ha
      simp only [List.eraseIdx_cons_zero, List.find?_cons]
      by_cases hk : k' = k
      · subst hk
        rw [if_pos rfl]
        refine List.find?_eq_none.2 fun x hx hk => ?_
        rw [hasKey_iff] at hk
        exact hn.1 (List.mem_map.2 ⟨x, hx, by rw [← ha, ← hk]⟩)
      · rw [if_neg hk]
        have h2 : hasKey k' a = false := by simp [hasKey, ← ha, hk]
        rw [h2]
    · rw [if_neg (by simpa using ha)] at h
      obtain ⟨i, hi, rfl⟩ := Option.map_eq_some_iff.1 h
      simp only [List.eraseIdx_cons_succ, List.find?_cons]
      have ih := find_erase hi hn.2 k'
      by_cases hk : k' = k
      · subst hk
        have : hasKey k' a = false := by simpa using ha
        rw [this, if_pos rfl]
        rw [if_pos rfl] at ih
        exact ih
      · cases h2 : hasKey k' a with
        | true => rw [if_neg hk]
        | false => rw [ih]
theorem mGet_del {m : Cont} (h : m.Ok) (k k' : List UInt8) : mGet k' (mDel k m) = if k' = k then none else mGet k' m := by
  unfold mGet mDel
  cases hf : m.l.findIdx? (hasKey k) with
  | some j =>
    simp only [find_erase hf h.key k']
    split <;> rfl
  | none =>
    simp only
    split
    · rename_i hk; subst hk; rw [find_none hf]; rfl
    · rfl

theorem mPut_len (k v : List UInt8) (m : Cont) : (mPut k v m).l.length ≤ m.l.length + 1 := by
  unfold mPut
  split <;> simp
theorem mDel_len (k : List UInt8) (m : Cont) : (mDel k m).l.length ≤ m.l.length := (mDel_sub k m).length_le

/-- What is asked of an entry. -/
def kvOk (x : KV) : Prop := 1 ≤ x.2.1.length ∧ x.2.1.length ≤ 40 ∧ x.2.2.length ≤ 900
theorem mPut_mem {k v : List UInt8} {m : Cont} {x : KV} (h : x ∈ (mPut k v m).l) : x ∈ m.l ∨ (x.2.1 = k ∧ x.2.2 = v) := by
  unfold mPut at h
  split at h
  · rename_i j hj
    simp only at h
    obtain ⟨i, hi⟩ := List.getElem?_of_mem h
    rw [List.getElem?_modify] at hi
    cases hg : m.l[i]? with
    | none => rw [hg] at hi; cases hi
    | some y =>
      rw [hg] at hi
      simp only [Option.map_eq_map, Option.map_some, Option.some.injEq] at hi
      split at hi
      · subst hi; exact .inr ⟨rfl, rfl⟩
      · subst hi; exact .inl (List.mem_of_getElem? hg)
  · rcases List.mem_append.1 h with h | h
    · exact .inl h
    · simp at h; subst h; exact .inr ⟨rfl, rfl⟩

structure Cont.Good (m : Cont) : Prop where
  ok : m.Ok
  few : m.l.length ≤ 400
  small : ∀ x ∈ m.l, kvOk x

theorem mApply_good : ∀ (l : List OpS) {m : Cont}, m.Good → (∀ o ∈ l, sProper o = true) → (mApply m l).2 = true → (mApply m l).1.Good
  | [], m, h, _, _ => h
  | o :: l, m, h, hp, hy => by
    rw [mApply] at hy ⊢
    have ho := sProper_iff.1 (hp o (List.mem_cons_self ..))
    have hp' := fun x hx => hp x (List.mem_cons_of_mem _ hx)
    split at hy
    · rename_i hd
      rw [if_pos hd]
      exact mApply_good l ⟨mDel_ok h.ok _, Nat.le_trans (mDel_len _ _) h.few, fun x hx => h.small x ((mDel_sub _ _).subset hx)⟩ hp' hy
    · rename_i hd
      rw [if_neg hd]
      split at hy
      · cases hy
      · rename_i h4
        rw [if_neg h4]
        refine mApply_good l ⟨mPut_ok h.ok _ _, by omega, fun x hx => ?_⟩ hp' hy
        rcases mPut_mem hx with hx | ⟨h1, h2⟩
        · exact h.small x hx
        · exact ⟨by rw [h1]; exact ho.1, by rw [h1]; exact ho.2.1, by rw [h2]; exact ho.2.2.1⟩

theorem wAppend_len (f r : List UInt8) (hr : r.length ≤ 2000) : (wAppend f r).length ≤ f.length + 70000 := by
  have := parts_len _ r (Nat.le_refl _)
  unfold wAppend
  rw [cellsOn_len _ _ (fun q hq => (parts_small _ r (Nat.le_refl _) q hq).2)]
  simp only; omega

/-- A store as it can be, behind n commits. -/
structure Sto.Ok (n : Nat) (s : Sto) : Prop where
  good : s.m.Good
  file : s.file.length ≤ n * 70000
theorem newS_ok (n : Nat) : newS.Ok n := by
  refine ⟨⟨⟨List.nodup_nil, fun x hx => (by cases hx), List.nodup_nil⟩, ?_, fun x hx => (by cases hx)⟩, ?_⟩
  · simp only [newS, emptyC, List.length_nil, Nat.zero_le]
  · simp only [newS, List.length_nil, Nat.zero_le]
theorem Sto.Ok.mono {n m : Nat} {s : Sto} (h : s.Ok n) (hn : n ≤ m) : s.Ok m := ⟨h.good, Nat.le_trans h.file (Nat.mul_le_mul_right _ hn)⟩
theorem sCommit_cases (s : Sto) (l : List OpS) : ((sCommit s l).2 ≠ 0 ∧ (sCommit s l).1 = s) ∨ ((sCommit s l).2 = 0 ∧ (sEncode l).2 = 0 ∧ (mApply s.m l).2 = true ∧ (sCommit s l).1 = ⟨wAppend s.file (sEncode l).1, s.synced, (mApply s.m l).1⟩) := by
  unfold sCommit
  split
  · exact .inl ⟨by assumption, rfl⟩
  · split
    · exact .inl ⟨by simp, rfl⟩
    · rename_i h1 h2
      exact .inr ⟨rfl, by simpa using h1, by simpa using h2, rfl⟩
theorem sCommit_inv {n : Nat} {s : Sto} (h : s.Ok n) (l : List OpS) : (sCommit s l).1.Ok (n + 1) := by
  rcases sCommit_cases s l with ⟨_, he⟩ | ⟨_, h1, h2, he⟩
  · rw [he]; exact h.mono (Nat.le_succ _)
  · rw [he]
    refine ⟨mApply_good l h.good (sEncode_ok0 h1).2.1 h2, ?_⟩
    have := wAppend_len s.file _ (sEncode_len l)
    have := h.file
    simp only; omega

theorem commit_yes {s : Sto} {l : List OpS} (hl : l.length ≤ 100000) (hf : s.file.length ≤ 100000000) (h : (sCommit s l).2 = 0) :
    ACall Try.prog 13 [.d (.ptr 0 0), .d (.sl 3 (l.map encOp))] [stoO s 1, mapO s.m] (.d (.int .i64 0)) [stoO (sCommit s l).1 2, mapO s.m, mapO (sCommit s l).1.m] := by
  have := commit_ok s l hl hf
  rw [afterC, if_pos h, h] at this
  exact this
theorem commit_no {s : Sto} {l : List OpS} (hl : l.length ≤ 100000) (hf : s.file.length ≤ 100000000) (h : (sCommit s l).2 ≠ 0) :
    ACall Try.prog 13 [.d (.ptr 0 0), .d (.sl 3 (l.map encOp))] [stoO s 1, mapO s.m] (.d (.int .i64 (sCommit s l).2)) [stoO s 1, mapO s.m, .none] := by
  have := commit_ok s l hl hf
  rw [afterC, if_neg h] at this
  exact this

/-- The values that transactions leave at a key. -/
def lastOf (k : List UInt8) : Option (List UInt8) → List OpS → Option (List UInt8)
  | a, [] => a
  | a, o :: l => lastOf k (if o.key = k then (if o.del then none else some o.val) else a) l
theorem mGet_apply (k : List UInt8) : ∀ (l : List OpS) {m : Cont}, m.Ok → (mApply m l).2 = true → mGet k (mApply m l).1 = lastOf k (mGet k m) l
  | [], m, _, _ => rfl
  | o :: l, m, h, hy => by
    rw [mApply] at hy ⊢
    rw [lastOf]
    split at hy
    · rename_i hd
      rw [if_pos hd, mGet_apply k l (mDel_ok h _) hy, mGet_del h]
      congr 1
      by_cases hk : k = o.key
      · rw [if_pos hk, if_pos hk.symm, if_pos hd]
      · rw [if_neg hk, if_neg (Ne.symm hk)]
    · rename_i hd
      rw [if_neg hd]
      split at hy
      · cases hy
      · rename_i h4
        rw [if_neg h4, mGet_apply k l (mPut_ok h _ _) hy, mGet_put]
        congr 1
        by_cases hk : k = o.key
        · rw [if_pos hk, if_pos hk.symm, if_neg hd]
        · rw [if_neg hk, if_neg (Ne.symm hk)]
end Go.Proofs.Ytinnaedmdoengaa

/- Layer 48 (store): the law's functions. -/
namespace Go.Proofs.Ytinnaedmdoengaa
open Go.Abs
set_option linter.unusedSimpArgs false
set_option linter.unusedVariables false

theorem map_take_snoc {α β : Type} (f : α → β) (l : List α) {i : Nat} (h : i < l.length) : (l.take (i + 1)).map f = (l.take i).map f ++ [f l[i]] := by
  rw [List.take_succ_eq_append_getElem h, List.map_append]; rfl

theorem rowsBytes_rows (w : List UInt8) : rowsBytes (byteRows w) = w := by
  induction w with
  | nil => rfl
  | cons c w ih => simp_all [rowsBytes, byteRows]
theorem ex_rows (w : List UInt8) : (∃ l, byteRows w = byteRows l) = True := eq_true ⟨w, rfl⟩
theorem ex_nil : (∃ l, ([] : List (List D)) = byteRows l) = True := eq_true ⟨[], rfl⟩
theorem rowsBytes_nil : rowsBytes [] = [] := rfl
attribute [go_sem] rowsBytes_rows ex_rows ex_nil rowsBytes_nil

section
variable {P : Program} {k0 o : Nat} {p : List (Nat × Nat)} {Q : SExit → St → Prop} {st : St}
noncomputable def s14r0 : List SOper := [
  ⟨some 2, .mov (.k (.d .nilsl)), none⟩]
noncomputable def s14r1 : List SOper := [
  ⟨some 3, .mov (.k (.d .nilsl)), none⟩]
noncomputable def s14r2 : List SOper := [
  ⟨some 4, .mov (.k (.d (.int .i64 0))), none⟩]
noncomputable def s14r3 : List SOper := [
  ⟨some 5, .mov (.t 4), none⟩,
  ⟨some 6, .mov (.t 0), none⟩,
  ⟨some 7, .len (.t 6), none⟩,
  ⟨some 8, .bin .lss (.t 5) (.t 7), none⟩]
noncomputable def s14r4 : List SOper := [
  ⟨some 11, .mov (.t 3), none⟩,
  ⟨some 12, .mov (.t 0), none⟩,
  ⟨some 13, .mov (.t 4), none⟩,
  ⟨some 14, .iaddr 3 (.t 12) (.t 13), none⟩,
  ⟨some 15, .faddr 0 (.t 14), none⟩,
  ⟨some 16, .load none (.t 15), none⟩,
  ⟨some 17, .mov (.t 0), none⟩,
  ⟨some 18, .mov (.t 4), none⟩,
  ⟨some 19, .iaddr 3 (.t 17) (.t 18), none⟩,
  ⟨some 20, .faddr 1 (.t 19), none⟩,
  ⟨some 21, .load none (.t 20), none⟩,
  ⟨some 22, .buildSlice false 1 0 [(.int .u8 0)] [], none⟩,
  ⟨some 23, .mov (.t 0), none⟩,
  ⟨some 24, .mov (.t 4), none⟩,
  ⟨some 25, .iaddr 3 (.t 23) (.t 24), none⟩,
  ⟨some 26, .faddr 2 (.t 25), none⟩,
  ⟨some 27, .load none (.t 26), none⟩,
  ⟨some 28, .append false 1 1 (.t 22) (.t 27), none⟩,
  ⟨some 29, .build [(.str []), (.bool false), .nilsl] [(0, 1, (.t 16)), (1, 1, (.t 21)), (2, 1, (.t 28))], none⟩,
  ⟨some 30, .buildSlice false 3 1 [(.str []), (.bool false), .nilsl] [(0, 3, (.t 29))], none⟩,
  ⟨some 31, .append false 3 48 (.t 11) (.t 30), none⟩,
  ⟨some 3, .mov (.t 31), none⟩]
noncomputable def s14r5 : List SOper := [
  ⟨some 9, .mov (.t 4), none⟩,
  ⟨some 10, .bin .add (.t 9) (.k (.d (.int .i64 1))), none⟩,
  ⟨some 4, .mov (.t 10), none⟩]
noncomputable def s14l6 : SCode := (.seq (.seq (.region s14r3 0 []) (.cond (.t 8) .skip (.exit 0))) (.seq (.block 1 (.region s14r4 0 [])) (.region s14r5 0 [])))
theorem e14l6 : AWp P k0 s14l6 Q st = AWp P k0 (.seq (.seq (.region s14r3 0 []) (.cond (.t 8) .skip (.exit 0))) (.seq (.block 1 (.region s14r4 0 [])) (.region s14r5 0 []))) Q st := rfl
noncomputable def s14r7 : List SOper := [
  ⟨some 32, .mov (.t 3), none⟩,
  ⟨some 2, .mov (.t 32), none⟩]
noncomputable def s14 : SCode := (.seq (.region s14r0 0 []) (.seq (.region s14r1 0 []) (.seq (.seq (.region s14r2 0 []) (.block 0 (.loop s14l6))) (.seq (.region s14r7 0 []) .ret))))
theorem e14 : AWp P k0 s14 Q st = AWp P k0 (.seq (.region s14r0 0 []) (.seq (.region s14r1 0 []) (.seq (.seq (.region s14r2 0 []) (.block 0 (.loop s14l6))) (.seq (.region s14r7 0 []) .ret)))) Q st := rfl
theorem u14r0 : goReg P s14r0 o p Q st = goLit P (litOf s14r0.eq_1) o p Q st := goReg_of _
theorem u14r1 : goReg P s14r1 o p Q st = goLit P (litOf s14r1.eq_1) o p Q st := goReg_of _
theorem u14r2 : goReg P s14r2 o p Q st = goLit P (litOf s14r2.eq_1) o p Q st := goReg_of _
theorem u14r3 : goReg P s14r3 o p Q st = goLit P (litOf s14r3.eq_1) o p Q st := goReg_of _
theorem u14r4 : goReg P s14r4 o p Q st = goLit P (litOf s14r4.eq_1) o p Q st := goReg_of _
theorem u14r5 : goReg P s14r5 o p Q st = goLit P (litOf s14r5.eq_1) o p Q st := goReg_of _
theorem u14r7 : goReg P s14r7 o p Q st = goLit P (litOf s14r7.eq_1) o p Q st := goReg_of _
attribute [go_sem] u14r0 u14r1 u14r2 u14r3 u14r4 u14r5 e14l6 u14r7 e14
set_option maxRecDepth 100000 in
theorem F14 : FnIs Try.prog 14 Try.f14 [] news s14 [.tmp 2] 33 := ⟨follows, Try.func14, by kernel_rfl, by kernel_rfl, by kernel_rfl, by kernel_rfl⟩

noncomputable def s36r0 : List SOper := [
  ⟨some 4, .mov (.k (.d .nilsl)), none⟩]
noncomputable def s36r1 : List SOper := [
  ⟨some 8, .mov (.t 0), none⟩,
  ⟨some 9, .mov (.t 1), none⟩,
  ⟨some 10, .call (.k (.d (.func (.func 17) [] []))) [(.t 8), (.t 9)], none⟩,
  ⟨some 5, .mov (.t 10), none⟩]
noncomputable def s36r2 : List SOper := [
  ⟨some 6, .mov (.k (.d .nilsl)), none⟩]
noncomputable def s36r3 : List SOper := [
  ⟨some 7, .mov (.k (.d (.int .i64 0))), none⟩]
noncomputable def s36r4 : List SOper := [
  ⟨some 11, .mov (.t 7), none⟩,
  ⟨some 12, .mov (.t 5), none⟩,
  ⟨some 13, .len (.t 12), none⟩,
  ⟨some 14, .bin .lss (.t 11) (.t 13), none⟩]
noncomputable def s36r5 : List SOper := [
  ⟨some 17, .mov (.t 6), none⟩,
  ⟨some 18, .mov (.t 5), none⟩,
  ⟨some 19, .mov (.t 7), none⟩,
  ⟨some 20, .iaddr 2 (.t 18) (.t 19), none⟩,
  ⟨some 21, .load (some 2) (.t 20), none⟩,
  ⟨some 22, .buildSlice false 2 1 [(.str []), .nilsl] [(0, 2, (.t 21))], none⟩,
  ⟨some 23, .append false 2 40 (.t 17) (.t 22), none⟩,
  ⟨some 6, .mov (.t 23), none⟩]
noncomputable def s36r6 : List SOper := [
  ⟨some 15, .mov (.t 7), none⟩,
  ⟨some 16, .bin .add (.t 15) (.k (.d (.int .i64 1))), none⟩,
  ⟨some 7, .mov (.t 16), none⟩]
noncomputable def s36l7 : SCode := (.seq (.seq (.region s36r4 0 []) (.cond (.t 14) .skip (.exit 0))) (.seq (.block 1 (.region s36r5 0 [])) (.region s36r6 0 [])))
theorem e36l7 : AWp P k0 s36l7 Q st = AWp P k0 (.seq (.seq (.region s36r4 0 []) (.cond (.t 14) .skip (.exit 0))) (.seq (.block 1 (.region s36r5 0 [])) (.region s36r6 0 []))) Q st := rfl
noncomputable def s36r8 : List SOper := [
  ⟨some 24, .mov (.t 6), none⟩,
  ⟨some 4, .mov (.t 24), none⟩]
noncomputable def s36 : SCode := (.seq (.region s36r0 0 []) (.seq (.region s36r1 0 []) (.seq (.region s36r2 0 []) (.seq (.seq (.region s36r3 0 []) (.block 0 (.loop s36l7))) (.seq (.region s36r8 0 []) .ret)))))
theorem e36 : AWp P k0 s36 Q st = AWp P k0 (.seq (.region s36r0 0 []) (.seq (.region s36r1 0 []) (.seq (.region s36r2 0 []) (.seq (.seq (.region s36r3 0 []) (.block 0 (.loop s36l7))) (.seq (.region s36r8 0 []) .ret))))) Q st := rfl
theorem u36r0 : goReg P s36r0 o p Q st = goLit P (litOf s36r0.eq_1) o p Q st := goReg_of _
theorem u36r1 : goReg P s36r1 o p Q st = goLit P (litOf s36r1.eq_1) o p Q st := goReg_of _
theorem u36r2 : goReg P s36r2 o p Q st = goLit P (litOf s36r2.eq_1) o p Q st := goReg_of _
theorem u36r3 : goReg P s36r3 o p Q st = goLit P (litOf s36r3.eq_1) o p Q st := goReg_of _
theorem u36r4 : goReg P s36r4 o p Q st = goLit P (litOf s36r4.eq_1) o p Q st := goReg_of _
theorem u36r5 : goReg P s36r5 o p Q st = goLit P (litOf s36r5.eq_1) o p Q st := goReg_of _
theorem u36r6 : goReg P s36r6 o p Q st = goLit P (litOf s36r6.eq_1) o p Q st := goReg_of _
theorem u36r8 : goReg P s36r8 o p Q st = goLit P (litOf s36r8.eq_1) o p Q st := goReg_of _
attribute [go_sem] u36r0 u36r1 u36r2 u36r3 u36r4 u36r5 u36r6 e36l7 u36r8 e36
set_option maxRecDepth 100000 in
theorem F36 : FnIs Try.prog 36 Try.f36 [] news s36 [.tmp 4] 25 := ⟨follows, Try.func36, by kernel_rfl, by kernel_rfl, by kernel_rfl, by kernel_rfl⟩

noncomputable def s25r0 : List SOper := [
  ⟨some 2, .mov (.k (.d (.bool false))), none⟩]
noncomputable def s25r1 : List SOper := [
  ⟨some 3, .mov (.k (.d (.int .i64 0))), none⟩]
noncomputable def s25r2 : List SOper := [
  ⟨some 4, .mov (.k (.d (.int .i64 0))), none⟩]
noncomputable def s25r3 : List SOper := [
  ⟨some 5, .mov (.t 4), none⟩,
  ⟨some 6, .mov (.t 0), none⟩,
  ⟨some 7, .len (.t 6), none⟩,
  ⟨some 8, .bin .lss (.t 5) (.t 7), none⟩]
noncomputable def s25r4 : List SOper := [
  ⟨some 11, .mov (.t 0), none⟩,
  ⟨some 12, .mov (.t 4), none⟩,
  ⟨some 13, .iaddr 3 (.t 11) (.t 12), none⟩,
  ⟨some 14, .faddr 0 (.t 13), none⟩,
  ⟨some 15, .load none (.t 14), none⟩,
  ⟨some 16, .lenS (.t 15), none⟩,
  ⟨some 17, .bin .gtr (.t 16) (.k (.d (.int .i64 100))), none⟩,
  ⟨some 18, .mov (.t 17), none⟩,
  ⟨some 19, .mov (.t 0), some (18, false)⟩,
  ⟨some 20, .mov (.t 4), some (18, false)⟩,
  ⟨some 21, .iaddr 3 (.t 19) (.t 20), some (18, false)⟩,
  ⟨some 22, .faddr 2 (.t 21), some (18, false)⟩,
  ⟨some 23, .load none (.t 22), some (18, false)⟩,
  ⟨some 24, .len (.t 23), some (18, false)⟩,
  ⟨some 25, .bin .gtr (.t 24) (.k (.d (.int .i64 1000))), some (18, false)⟩,
  ⟨some 26, .pick (.t 18) (.k (.d (.bool true))) (.t 25), none⟩]
noncomputable def s25r5 : List SOper := [
  ⟨some 2, .mov (.k (.d (.bool false))), none⟩]
noncomputable def s25r6 : List SOper := [
  ⟨some 27, .mov (.t 3), none⟩,
  ⟨some 28, .mov (.t 0), none⟩,
  ⟨some 29, .mov (.t 4), none⟩,
  ⟨some 30, .iaddr 3 (.t 28) (.t 29), none⟩,
  ⟨some 31, .faddr 2 (.t 30), none⟩,
  ⟨some 32, .load none (.t 31), none⟩,
  ⟨some 33, .len (.t 32), none⟩,
  ⟨some 34, .bin .add (.t 27) (.t 33), none⟩,
  ⟨some 3, .mov (.t 34), none⟩]
noncomputable def s25r7 : List SOper := [
  ⟨some 9, .mov (.t 4), none⟩,
  ⟨some 10, .bin .add (.t 9) (.k (.d (.int .i64 1))), none⟩,
  ⟨some 4, .mov (.t 10), none⟩]
noncomputable def s25l8 : SCode := (.seq (.seq (.region s25r3 0 []) (.cond (.t 8) .skip (.exit 0))) (.seq (.block 1 (.seq (.seq (.region s25r4 0 []) (.cond (.t 26) (.seq (.region s25r5 0 []) .ret) .skip)) (.region s25r6 0 []))) (.region s25r7 0 [])))
theorem e25l8 : AWp P k0 s25l8 Q st = AWp P k0 (.seq (.seq (.region s25r3 0 []) (.cond (.t 8) .skip (.exit 0))) (.seq (.block 1 (.seq (.seq (.region s25r4 0 []) (.cond (.t 26) (.seq (.region s25r5 0 []) .ret) .skip)) (.region s25r6 0 []))) (.region s25r7 0 []))) Q st := rfl
noncomputable def s25r9 : List SOper := [
  ⟨some 35, .mov (.t 0), none⟩,
  ⟨some 36, .len (.t 35), none⟩,
  ⟨some 37, .bin .leq (.t 36) (.k (.d (.int .i64 30))), none⟩,
  ⟨some 38, .mov (.t 37), none⟩,
  ⟨some 39, .mov (.t 3), some (38, true)⟩,
  ⟨some 40, .bin .leq (.t 39) (.k (.d (.int .i64 3000))), some (38, true)⟩,
  ⟨some 41, .pick (.t 38) (.t 40) (.k (.d (.bool false))), none⟩,
  ⟨some 2, .mov (.t 41), none⟩]
noncomputable def s25 : SCode := (.seq (.region s25r0 0 []) (.seq (.region s25r1 0 []) (.seq (.seq (.region s25r2 0 []) (.block 0 (.loop s25l8))) (.seq (.region s25r9 0 []) .ret))))
theorem e25 : AWp P k0 s25 Q st = AWp P k0 (.seq (.region s25r0 0 []) (.seq (.region s25r1 0 []) (.seq (.seq (.region s25r2 0 []) (.block 0 (.loop s25l8))) (.seq (.region s25r9 0 []) .ret)))) Q st := rfl
theorem u25r0 : goReg P s25r0 o p Q st = goLit P (litOf s25r0.eq_1) o p Q st := goReg_of _
theorem u25r1 : goReg P s25r1 o p Q st = goLit P (litOf s25r1.eq_1) o p Q st := goReg_of _
theorem u25r2 : goReg P s25r2 o p Q st = goLit P (litOf s25r2.eq_1) o p Q st := goReg_of _
theorem u25r3 : goReg P s25r3 o p Q st = goLit P (litOf s25r3.eq_1) o p Q st := goReg_of _
theorem u25r4 : goReg P s25r4 o p Q st = goLit P (litOf s25r4.eq_1) o p Q st := goReg_of _
theorem u25r5 : goReg P s25r5 o p Q st = goLit P (litOf s25r5.eq_1) o p Q st := goReg_of _
theorem u25r6 : goReg P s25r6 o p Q st = goLit P (litOf s25r6.eq_1) o p Q st := goReg_of _
theorem u25r7 : goReg P s25r7 o p Q st = goLit P (litOf s25r7.eq_1) o p Q st := goReg_of _
theorem u25r9 : goReg P s25r9 o p Q st = goLit P (litOf s25r9.eq_1) o p Q st := goReg_of _
attribute [go_sem] u25r0 u25r1 u25r2 u25r3 u25r4 u25r5 u25r6 u25r7 e25l8 u25r9 e25
set_option maxRecDepth 100000 in
theorem F25 : FnIs Try.prog 25 Try.f25 [] news s25 [.tmp 2] 42 := ⟨follows, Try.func25, by kernel_rfl, by kernel_rfl, by kernel_rfl, by kernel_rfl⟩

noncomputable def s11r0 : List SOper := [
  ⟨some 2, .mov (.k (.d (.bool false))), none⟩]
noncomputable def s11r1 : List SOper := [
  ⟨some 3, .mov (.k (.d (.int .i64 0))), none⟩]
noncomputable def s11r2 : List SOper := [
  ⟨some 4, .mov (.t 3), none⟩,
  ⟨some 5, .mov (.t 0), none⟩,
  ⟨some 6, .len (.t 5), none⟩,
  ⟨some 7, .bin .lss (.t 4) (.t 6), none⟩]
noncomputable def s11r3 : List SOper := [
  ⟨some 10, .mov (.t 0), none⟩,
  ⟨some 11, .mov (.t 3), none⟩,
  ⟨some 12, .iaddr 2 (.t 10) (.t 11), none⟩,
  ⟨some 13, .faddr 1 (.t 12), none⟩,
  ⟨some 14, .load none (.t 13), none⟩,
  ⟨some 15, .call (.k (.d (.func (.func 25) [] []))) [(.t 14)], none⟩,
  ⟨some 16, .not (.t 15), none⟩]
noncomputable def s11r4 : List SOper := [
  ⟨some 2, .mov (.k (.d (.bool false))), none⟩]
noncomputable def s11r5 : List SOper := [
  ⟨some 8, .mov (.t 3), none⟩,
  ⟨some 9, .bin .add (.t 8) (.k (.d (.int .i64 1))), none⟩,
  ⟨some 3, .mov (.t 9), none⟩]
noncomputable def s11l6 : SCode := (.seq (.seq (.region s11r2 0 []) (.cond (.t 7) .skip (.exit 0))) (.seq (.block 1 (.seq (.region s11r3 0 []) (.cond (.t 16) (.seq (.region s11r4 0 []) .ret) .skip))) (.region s11r5 0 [])))
theorem e11l6 : AWp P k0 s11l6 Q st = AWp P k0 (.seq (.seq (.region s11r2 0 []) (.cond (.t 7) .skip (.exit 0))) (.seq (.block 1 (.seq (.region s11r3 0 []) (.cond (.t 16) (.seq (.region s11r4 0 []) .ret) .skip))) (.region s11r5 0 []))) Q st := rfl
noncomputable def s11r7 : List SOper := [
  ⟨some 17, .mov (.t 0), none⟩,
  ⟨some 18, .len (.t 17), none⟩,
  ⟨some 19, .bin .leq (.t 18) (.k (.d (.int .i64 15))), none⟩,
  ⟨some 2, .mov (.t 19), none⟩]
noncomputable def s11 : SCode := (.seq (.region s11r0 0 []) (.seq (.seq (.region s11r1 0 []) (.block 0 (.loop s11l6))) (.seq (.region s11r7 0 []) .ret)))
theorem e11 : AWp P k0 s11 Q st = AWp P k0 (.seq (.region s11r0 0 []) (.seq (.seq (.region s11r1 0 []) (.block 0 (.loop s11l6))) (.seq (.region s11r7 0 []) .ret))) Q st := rfl
theorem u11r0 : goReg P s11r0 o p Q st = goLit P (litOf s11r0.eq_1) o p Q st := goReg_of _
theorem u11r1 : goReg P s11r1 o p Q st = goLit P (litOf s11r1.eq_1) o p Q st := goReg_of _
theorem u11r2 : goReg P s11r2 o p Q st = goLit P (litOf s11r2.eq_1) o p Q st := goReg_of _
theorem u11r3 : goReg P s11r3 o p Q st = goLit P (litOf s11r3.eq_1) o p Q st := goReg_of _
theorem u11r4 : goReg P s11r4 o p Q st = goLit P (litOf s11r4.eq_1) o p Q st := goReg_of _
theorem u11r5 : goReg P s11r5 o p Q st = goLit P (litOf s11r5.eq_1) o p Q st := goReg_of _
theorem u11r7 : goReg P s11r7 o p Q st = goLit P (litOf s11r7.eq_1) o p Q st := goReg_of _
attribute [go_sem] u11r0 u11r1 u11r2 u11r3 u11r4 u11r5 e11l6 u11r7 e11
set_option maxRecDepth 100000 in
theorem F11 : FnIs Try.prog 11 Try.f11 [] news s11 [.tmp 2] 20 := ⟨follows, Try.func11, by kernel_rfl, by kernel_rfl, by kernel_rfl, by kernel_rfl⟩

end

def SfTo (l : List OpS) (i : { i : Nat // i ≤ l.length }) : St :=
  ⟨[(0, true, .d (.sl 3 (l.map encOp))), (3, true, .own 0 3 ((l.take i.val).map encOp)), (4, true, .d (.int .i64 (i.val : Nat)))], [], [0], 1⟩

theorem to_ok (l : List OpS) (hl : l.length ≤ 100000) (hv : ∀ o ∈ l, o.val.length ≤ 1000000) : ACall Try.prog 14 [.d (.sl 3 (l.map encOp))] [] (.d (.sl 3 (l.map encOp))) [] := by
  refine F14.go ?_
  try (refine ev ?_; try exact True.intro)
  refine AWp_loop (SfTo l) (fun i => l.length - i.val) ⟨0, Nat.zero_le _⟩ ?_ (fun i => ?_)
  · try simp only [SfTo, List.take_zero, go_sem, Nat.reduceAdd, Nat.reduceMul, Nat.reduceSub, Nat.reduceEqDiff, Nat.reduceLT, Nat.reduceLeDiff, Nat.reduceBEq, reduceIte, reduceCtorEq, Int.reduceAdd, Int.reduceLT, Int.reduceLE, Int.reduceGT, Int.reduceGE, Int.reduceEq, Int.reduceNe, Int.reduceBEq, Int.reduceBNe, Int.reduceToNat, Int.reduceNeg]
  obtain ⟨i, hi⟩ := i
  try simp only [SfTo, go_sem, Nat.reduceAdd, Nat.reduceMul, Nat.reduceSub, Nat.reduceEqDiff, Nat.reduceLT, Nat.reduceLeDiff, Nat.reduceBEq, reduceIte, reduceCtorEq, Int.reduceAdd, Int.reduceLT, Int.reduceLE, Int.reduceGT, Int.reduceGE, Int.reduceEq, Int.reduceNe, Int.reduceBEq, Int.reduceBNe, Int.reduceToNat, Int.reduceNeg]
  (repeat (with_reducible refine ob ?_)); refine iff_ _ (fun h => ?_) (fun h => ?_)
  · have hil : i < l.length := by simpa using h
    have hx := hv _ (List.getElem_mem hil)
    try simp only [getD_map encOp l hil, encOp, go_sem, Nat.reduceAdd, Nat.reduceMul, Nat.reduceSub, Nat.reduceEqDiff, Nat.reduceLT, Nat.reduceLeDiff, Nat.reduceBEq, reduceIte, reduceCtorEq, Int.reduceAdd, Int.reduceLT, Int.reduceLE, Int.reduceGT, Int.reduceGE, Int.reduceEq, Int.reduceNe, Int.reduceBEq, Int.reduceBNe, Int.reduceToNat, Int.reduceNeg]
    (repeat (with_reducible refine ob ?_))
    refine ⟨⟨i + 1, hil⟩, ?_, by dsimp only; omega⟩
    try simp only [SfTo, map_take_snoc encOp l hil, encOp, wrap_succ (show i < 9223372036854775807 by omega), go_sem, Nat.reduceAdd, Nat.reduceMul, Nat.reduceSub, Nat.reduceEqDiff, Nat.reduceLT, Nat.reduceLeDiff, Nat.reduceBEq, reduceIte, reduceCtorEq, Int.reduceAdd, Int.reduceLT, Int.reduceLE, Int.reduceGT, Int.reduceGE, Int.reduceEq, Int.reduceNe, Int.reduceBEq, Int.reduceBNe, Int.reduceToNat, Int.reduceNeg]
  · have hil : i = l.length := by have : l.length ≤ i := by simpa using h
                                  omega
    subst hil
    try simp only [List.take_length, go_sem, Nat.reduceAdd, Nat.reduceMul, Nat.reduceSub, Nat.reduceEqDiff, Nat.reduceLT, Nat.reduceLeDiff, Nat.reduceBEq, reduceIte, reduceCtorEq, Int.reduceAdd, Int.reduceLT, Int.reduceLE, Int.reduceGT, Int.reduceGE, Int.reduceEq, Int.reduceNe, Int.reduceBEq, Int.reduceBNe, Int.reduceToNat, Int.reduceNeg]

theorem sList_len (m : Cont) (p : List UInt8) : (sList m p).length ≤ m.l.length := by
  rw [sList, (sortEn_perm _).length_eq]
  simp only [preL, List.length_map]
  exact List.length_filter_le _ _

def Scon (s : Sto) (l : List En) (i : { i : Nat // i ≤ l.length }) : St :=
  ⟨[(5, true, .d (.sl 2 (l.map encEn))), (6, true, .own 0 2 ((l.take i.val).map encEn)), (7, true, .d (.int .i64 (i.val : Nat)))], [stoO s 1, mapO s.m], [0], 1⟩

theorem content_ok (s : Sto) (p : List UInt8) (n : Nat) (hs : s.Ok n) :
    ACall Try.prog 36 [.d (.ptr 0 0), .d (.str p)] [stoO s 1, mapO s.m] (.d (.sl 2 ((sList s.m p).map encEn))) [stoO s 1, mapO s.m] := by
  have hls := list_ok s p hs.good.ok (by have := hs.good.few; omega) (fun x hx => by have := (hs.good.small x hx).2.2; omega)
  have hln := sList_len s.m p
  have hfew := hs.good.few
  refine F36.go ?_
  try simp only [stoO, mapO, go_sem, Nat.reduceAdd, Nat.reduceMul, Nat.reduceSub, Nat.reduceEqDiff, Nat.reduceLT, Nat.reduceLeDiff, Nat.reduceBEq, reduceIte, reduceCtorEq, Int.reduceAdd, Int.reduceLT, Int.reduceLE, Int.reduceGT, Int.reduceGE, Int.reduceEq, Int.reduceNe, Int.reduceBEq, Int.reduceBNe, Int.reduceToNat, Int.reduceNeg]
  simp only [stoO, mapO] at hls
  (repeat (with_reducible refine ob ?_)); refine clO [0, 1] F17u (hls) ?_ (hfit := by first | exact ⟨matchA_refl, trivial⟩ | exact ⟨matchA_refl, matchA_refl, trivial⟩ | simp only [encOp, encEn, go_sem, Nat.reduceAdd, Nat.reduceMul, Nat.reduceSub, Nat.reduceEqDiff, Nat.reduceLT, Nat.reduceLeDiff, Nat.reduceBEq, reduceIte, reduceCtorEq, Int.reduceAdd, Int.reduceLT, Int.reduceLE, Int.reduceGT, Int.reduceGE, Int.reduceEq, Int.reduceNe, Int.reduceBEq, Int.reduceBNe, Int.reduceToNat, Int.reduceNeg])
  generalize sList s.m p = l at hln ⊢
  try (refine ev ?_; try exact True.intro)
  refine AWp_loop (Scon s l) (fun i => l.length - i.val) ⟨0, Nat.zero_le _⟩ ?_ (fun i => ?_)
  · try simp only [Scon, List.take_zero, stoO, mapO, go_sem, Nat.reduceAdd, Nat.reduceMul, Nat.reduceSub, Nat.reduceEqDiff, Nat.reduceLT, Nat.reduceLeDiff, Nat.reduceBEq, reduceIte, reduceCtorEq, Int.reduceAdd, Int.reduceLT, Int.reduceLE, Int.reduceGT, Int.reduceGE, Int.reduceEq, Int.reduceNe, Int.reduceBEq, Int.reduceBNe, Int.reduceToNat, Int.reduceNeg]
  obtain ⟨i, hi⟩ := i
  try simp only [Scon, stoO, mapO, go_sem, Nat.reduceAdd, Nat.reduceMul, Nat.reduceSub, Nat.reduceEqDiff, Nat.reduceLT, Nat.reduceLeDiff, Nat.reduceBEq, reduceIte, reduceCtorEq, Int.reduceAdd, Int.reduceLT, Int.reduceLE, Int.reduceGT, Int.reduceGE, Int.reduceEq, Int.reduceNe, Int.reduceBEq, Int.reduceBNe, Int.reduceToNat, Int.reduceNeg]
  (repeat (with_reducible refine ob ?_)); refine iff_ _ (fun h => ?_) (fun h => ?_)
  · have hil : i < l.length := by simpa using h
    try simp only [getD_map encEn l hil, encEn, go_sem, Nat.reduceAdd, Nat.reduceMul, Nat.reduceSub, Nat.reduceEqDiff, Nat.reduceLT, Nat.reduceLeDiff, Nat.reduceBEq, reduceIte, reduceCtorEq, Int.reduceAdd, Int.reduceLT, Int.reduceLE, Int.reduceGT, Int.reduceGE, Int.reduceEq, Int.reduceNe, Int.reduceBEq, Int.reduceBNe, Int.reduceToNat, Int.reduceNeg]
    (repeat (with_reducible refine ob ?_))
    refine ⟨⟨i + 1, hil⟩, ?_, by dsimp only; omega⟩
    try simp only [Scon, stoO, mapO, map_take_snoc encEn l hil, encEn, wrap_succ (show i < 9223372036854775807 by omega), go_sem, Nat.reduceAdd, Nat.reduceMul, Nat.reduceSub, Nat.reduceEqDiff, Nat.reduceLT, Nat.reduceLeDiff, Nat.reduceBEq, reduceIte, reduceCtorEq, Int.reduceAdd, Int.reduceLT, Int.reduceLE, Int.reduceGT, Int.reduceGE, Int.reduceEq, Int.reduceNe, Int.reduceBEq, Int.reduceBNe, Int.reduceToNat, Int.reduceNeg]
  · have hil : i = l.length := by have : l.length ≤ i := by simpa using h
                                  omega
    subst hil
    try simp only [List.take_length, go_sem, Nat.reduceAdd, Nat.reduceMul, Nat.reduceSub, Nat.reduceEqDiff, Nat.reduceLT, Nat.reduceLeDiff, Nat.reduceBEq, reduceIte, reduceCtorEq, Int.reduceAdd, Int.reduceLT, Int.reduceLE, Int.reduceGT, Int.reduceGE, Int.reduceEq, Int.reduceNe, Int.reduceBEq, Int.reduceBNe, Int.reduceToNat, Int.reduceNeg]

/-- Small transactions. -/
def vSum (l : List OpS) : Nat := (l.map fun o => o.val.length).sum
def sFew (l : List OpS) : Bool := l.all (fun o => decide (o.key.length ≤ 100) && decide (o.val.length ≤ 1000)) && decide (l.length ≤ 30) && decide (vSum l ≤ 3000)

theorem wrap_addw (a b : Int) : IntKind.i64.wrap (IntKind.i64.wrap a + b) = IntKind.i64.wrap (a + b) := by
  simp only [IntKind.wrap, IntKind.bits, IntKind.signed, if_true]
  simp
  omega
theorem vSum_succ (l : List OpS) {i : Nat} (h : i < l.length) : vSum (l.take (i + 1)) = vSum (l.take i) + l[i].val.length := by
  unfold vSum
  rw [List.take_succ_eq_append_getElem h, List.map_append, List.sum_append]; simp
theorem take_all_succ {α : Type} {f : α → Bool} {l : List α} {i : Nat} (h : (l.take i).all f = true) (hil : i < l.length) (hf : f l[i] = true) : (l.take (i + 1)).all f = true := by
  rw [List.take_succ_eq_append_getElem hil, List.all_append, h]; simp [hf]
theorem all_no {α : Type} {f : α → Bool} {l : List α} {i : Nat} (hil : i < l.length) (hf : f l[i] = false) : l.all f = false := by
  rw [List.all_eq_false]; exact ⟨l[i], List.getElem_mem hil, by simp [hf]⟩
theorem vSum_le (l : List OpS) : (l.all fun o => decide (o.key.length ≤ 100) && decide (o.val.length ≤ 1000)) = true → vSum l ≤ 1000 * l.length := by
  induction l with
  | nil => intro _; simp [vSum]
  | cons o l ih =>
    intro h
    simp only [List.all_cons, Bool.and_eq_true, decide_eq_true_eq] at h
    have := ih (by simpa using h.2)
    simp only [vSum, List.map_cons, List.sum_cons, List.length_cons] at this ⊢
    omega

def Sfew (l : List OpS) (i : { i : Nat // i ≤ l.length ∧ (l.take i).all (fun o => decide (o.key.length ≤ 100) && decide (o.val.length ≤ 1000)) = true }) : St :=
  ⟨[(0, true, .d (.sl 3 (l.map encOp))), (3, true, .d (.int .i64 (IntKind.i64.wrap (vSum (l.take i.val) : Nat)))), (4, true, .d (.int .i64 (i.val : Nat)))], [], [], 1⟩

theorem few_ok (l : List OpS) (hl : l.length ≤ maxLen) : ACall Try.prog 25 [.d (.sl 3 (l.map encOp))] [] (.d (.bool (sFew l))) [] := by
  have hl : l.length ≤ 9223372036854775807 := hl
  refine F25.go ?_
  try (refine ev ?_; try exact True.intro)
  refine AWp_loop (Sfew l) (fun i => l.length - i.val) ⟨0, Nat.zero_le _, rfl⟩ ?_ (fun i => ?_)
  · have w0 : IntKind.i64.wrap 0 = 0 := rfl
    try simp only [Sfew, List.take_zero, vSum, List.sum_nil, Int.ofNat_zero, w0, go_sem, Nat.reduceAdd, Nat.reduceMul, Nat.reduceSub, Nat.reduceEqDiff, Nat.reduceLT, Nat.reduceLeDiff, Nat.reduceBEq, reduceIte, reduceCtorEq, Int.reduceAdd, Int.reduceLT, Int.reduceLE, Int.reduceGT, Int.reduceGE, Int.reduceEq, Int.reduceNe, Int.reduceBEq, Int.reduceBNe, Int.reduceToNat, Int.reduceNeg]
  obtain ⟨i, hi, ha⟩ := i
  try simp only [Sfew, go_sem, Nat.reduceAdd, Nat.reduceMul, Nat.reduceSub, Nat.reduceEqDiff, Nat.reduceLT, Nat.reduceLeDiff, Nat.reduceBEq, reduceIte, reduceCtorEq, Int.reduceAdd, Int.reduceLT, Int.reduceLE, Int.reduceGT, Int.reduceGE, Int.reduceEq, Int.reduceNe, Int.reduceBEq, Int.reduceBNe, Int.reduceToNat, Int.reduceNeg]
  (repeat (with_reducible refine ob ?_)); refine iff_ _ (fun h => ?_) (fun h => ?_)
  · have hil : i < l.length := by simpa using h
    try simp only [getD_map encOp l hil, encOp, go_sem, Nat.reduceAdd, Nat.reduceMul, Nat.reduceSub, Nat.reduceEqDiff, Nat.reduceLT, Nat.reduceLeDiff, Nat.reduceBEq, reduceIte, reduceCtorEq, Int.reduceAdd, Int.reduceLT, Int.reduceLE, Int.reduceGT, Int.reduceGE, Int.reduceEq, Int.reduceNe, Int.reduceBEq, Int.reduceBNe, Int.reduceToNat, Int.reduceNeg]
    refine ⟨by omega, fun h => ⟨h, h, by omega⟩, fun h => by rw [h]; rfl, ?_⟩
    have hd1 : decide ((l[i].key.length : Int) > 100) = !decide (l[i].key.length ≤ 100) := by rw [← decide_not]; exact decide_eq_decide.2 (by omega)
    have hd2 : decide ((l[i].val.length : Int) > 1000) = !decide (l[i].val.length ≤ 1000) := by rw [← decide_not]; exact decide_eq_decide.2 (by omega)
    have hd : (decide ((l[i].key.length : Int) > 100) || decide ((l[i].val.length : Int) > 1000)) = !(decide (l[i].key.length ≤ 100) && decide (l[i].val.length ≤ 1000)) := by rw [hd1, hd2, Bool.not_and]
    refine iff_ _ (fun h => ?_) (fun h => ?_)
    · rw [hd, Bool.not_eq_true'] at h
      have : sFew l = false := by rw [sFew, all_no hil h]; rfl
      try simp only [this, go_sem, Nat.reduceAdd, Nat.reduceMul, Nat.reduceSub, Nat.reduceEqDiff, Nat.reduceLT, Nat.reduceLeDiff, Nat.reduceBEq, reduceIte, reduceCtorEq, Int.reduceAdd, Int.reduceLT, Int.reduceLE, Int.reduceGT, Int.reduceGE, Int.reduceEq, Int.reduceNe, Int.reduceBEq, Int.reduceBNe, Int.reduceToNat, Int.reduceNeg]
    · rw [hd, Bool.not_eq_false'] at h
      try simp only [getD_map encOp l hil, encOp, go_sem, Nat.reduceAdd, Nat.reduceMul, Nat.reduceSub, Nat.reduceEqDiff, Nat.reduceLT, Nat.reduceLeDiff, Nat.reduceBEq, reduceIte, reduceCtorEq, Int.reduceAdd, Int.reduceLT, Int.reduceLE, Int.reduceGT, Int.reduceGE, Int.reduceEq, Int.reduceNe, Int.reduceBEq, Int.reduceBNe, Int.reduceToNat, Int.reduceNeg]
      (repeat (with_reducible refine ob ?_))
      refine ⟨⟨i + 1, hil, take_all_succ ha hil h⟩, ?_, by dsimp only; omega⟩
      try simp only [Sfew, vSum_succ l hil, wrap_addw, wrap_succ (show i < 9223372036854775807 by omega), go_sem, Nat.reduceAdd, Nat.reduceMul, Nat.reduceSub, Nat.reduceEqDiff, Nat.reduceLT, Nat.reduceLeDiff, Nat.reduceBEq, reduceIte, reduceCtorEq, Int.reduceAdd, Int.reduceLT, Int.reduceLE, Int.reduceGT, Int.reduceGE, Int.reduceEq, Int.reduceNe, Int.reduceBEq, Int.reduceBNe, Int.reduceToNat, Int.reduceNeg]
  · have hil : i = l.length := by have : l.length ≤ i := by simpa using h
                                  omega
    subst hil
    rw [List.take_length] at ha
    have hv := vSum_le l ha
    try simp only [List.take_length, sFew, ha, go_sem, Nat.reduceAdd, Nat.reduceMul, Nat.reduceSub, Nat.reduceEqDiff, Nat.reduceLT, Nat.reduceLeDiff, Nat.reduceBEq, reduceIte, reduceCtorEq, Int.reduceAdd, Int.reduceLT, Int.reduceLE, Int.reduceGT, Int.reduceGE, Int.reduceEq, Int.reduceNe, Int.reduceBEq, Int.reduceBNe, Int.reduceToNat, Int.reduceNeg]
    by_cases h30 : l.length ≤ 30
    · rw [wrap_i64 (by omega) (by omega)]
      have e1 : decide ((l.length : Int) ≤ 30) = true := by simp; omega
      have e2 : decide (((vSum l : Nat) : Int) ≤ 3000) = decide (vSum l ≤ 3000) := decide_eq_decide.2 (by omega)
      simp only [e1, e2, h30, decide_true, Bool.true_and]
    · have : decide ((l.length : Int) ≤ 30) = false := by simp; omega
      rw [this]
      simp [h30]

/-- Some calls of a script: their kind, and their operations. -/
structure StepS where
  kind : Int
  ops : List OpS
  deriving DecidableEq, Inhabited
def encStep (x : StepS) : List D := [.int .i64 x.kind, .sl 3 (x.ops.map encOp)]
theorem encStep_noPtr (o : StepS) : D.noPtrL (encStep o) = true := by simp only [encStep, D.noPtrL, D.noPtr, noPtrR_Op, Bool.and_self]
theorem noPtrR_Step (l : List StepS) : D.noPtrR (l.map encStep) = true := noPtrR_map encStep_noPtr l
attribute [go_sem] encStep_noPtr noPtrR_Step
def sFews (l : List StepS) : Bool := l.all (fun x => sFew x.ops) && decide (l.length ≤ 15)

def Sfews (l : List StepS) (i : { i : Nat // i ≤ l.length ∧ (l.take i).all (fun x => sFew x.ops) = true }) : St :=
  ⟨[(0, true, .d (.sl 2 (l.map encStep))), (3, true, .d (.int .i64 (i.val : Nat)))], [], [], 1⟩

theorem fews_ok (l : List StepS) (hl : l.length ≤ maxLen) (hx : ∀ x ∈ l, x.ops.length ≤ maxLen) : ACall Try.prog 11 [.d (.sl 2 (l.map encStep))] [] (.d (.bool (sFews l))) [] := by
  have hl : l.length ≤ 9223372036854775807 := hl
  refine F11.go ?_
  try (refine ev ?_; try exact True.intro)
  refine AWp_loop (Sfews l) (fun i => l.length - i.val) ⟨0, Nat.zero_le _, rfl⟩ ?_ (fun i => ?_)
  · try simp only [Sfews, go_sem, Nat.reduceAdd, Nat.reduceMul, Nat.reduceSub, Nat.reduceEqDiff, Nat.reduceLT, Nat.reduceLeDiff, Nat.reduceBEq, reduceIte, reduceCtorEq, Int.reduceAdd, Int.reduceLT, Int.reduceLE, Int.reduceGT, Int.reduceGE, Int.reduceEq, Int.reduceNe, Int.reduceBEq, Int.reduceBNe, Int.reduceToNat, Int.reduceNeg]
  obtain ⟨i, hi, ha⟩ := i
  try simp only [Sfews, go_sem, Nat.reduceAdd, Nat.reduceMul, Nat.reduceSub, Nat.reduceEqDiff, Nat.reduceLT, Nat.reduceLeDiff, Nat.reduceBEq, reduceIte, reduceCtorEq, Int.reduceAdd, Int.reduceLT, Int.reduceLE, Int.reduceGT, Int.reduceGE, Int.reduceEq, Int.reduceNe, Int.reduceBEq, Int.reduceBNe, Int.reduceToNat, Int.reduceNeg]
  (repeat (with_reducible refine ob ?_)); refine iff_ _ (fun h => ?_) (fun h => ?_)
  · have hil : i < l.length := by simpa using h
    try simp only [getD_map encStep l hil, encStep, go_sem, Nat.reduceAdd, Nat.reduceMul, Nat.reduceSub, Nat.reduceEqDiff, Nat.reduceLT, Nat.reduceLeDiff, Nat.reduceBEq, reduceIte, reduceCtorEq, Int.reduceAdd, Int.reduceLT, Int.reduceLE, Int.reduceGT, Int.reduceGE, Int.reduceEq, Int.reduceNe, Int.reduceBEq, Int.reduceBNe, Int.reduceToNat, Int.reduceNeg]
    (repeat (with_reducible refine ob ?_))
    (repeat (with_reducible refine ob ?_)); first | refine cl F25 (few_ok l[i].ops (hx _ (List.getElem_mem hil))) ?_ | refine clF F25 (few_ok l[i].ops (hx _ (List.getElem_mem hil))) (fun _ => by simp only [encOp, encEn, go_sem, Nat.reduceAdd, Nat.reduceMul, Nat.reduceSub, Nat.reduceEqDiff, Nat.reduceLT, Nat.reduceLeDiff, Nat.reduceBEq, reduceIte, reduceCtorEq, Int.reduceAdd, Int.reduceLT, Int.reduceLE, Int.reduceGT, Int.reduceGE, Int.reduceEq, Int.reduceNe, Int.reduceBEq, Int.reduceBNe, Int.reduceToNat, Int.reduceNeg]) ?_
    try (refine ev ?_; try exact True.intro)
    (repeat (with_reducible refine ob ?_)); refine iff_ _ (fun h => ?_) (fun h => ?_)
    · have : sFews l = false := by rw [sFews, all_no hil (by simpa using h)]; rfl
      try simp only [this, go_sem, Nat.reduceAdd, Nat.reduceMul, Nat.reduceSub, Nat.reduceEqDiff, Nat.reduceLT, Nat.reduceLeDiff, Nat.reduceBEq, reduceIte, reduceCtorEq, Int.reduceAdd, Int.reduceLT, Int.reduceLE, Int.reduceGT, Int.reduceGE, Int.reduceEq, Int.reduceNe, Int.reduceBEq, Int.reduceBNe, Int.reduceToNat, Int.reduceNeg]
    · try (refine ev ?_; try exact True.intro)
      refine ⟨⟨i + 1, hil, take_all_succ ha hil (by simpa using h)⟩, ?_, by dsimp only; omega⟩
      try simp only [Sfews, wrap_succ (show i < 9223372036854775807 by omega), go_sem, Nat.reduceAdd, Nat.reduceMul, Nat.reduceSub, Nat.reduceEqDiff, Nat.reduceLT, Nat.reduceLeDiff, Nat.reduceBEq, reduceIte, reduceCtorEq, Int.reduceAdd, Int.reduceLT, Int.reduceLE, Int.reduceGT, Int.reduceGE, Int.reduceEq, Int.reduceNe, Int.reduceBEq, Int.reduceBNe, Int.reduceToNat, Int.reduceNeg]
  · have hil : i = l.length := by have : l.length ≤ i := by simpa using h
                                  omega
    subst hil
    rw [List.take_length] at ha
    have : sFews l = decide ((l.length : Int) ≤ 15) := by rw [sFews, ha, Bool.true_and]; exact decide_eq_decide.2 (by omega)
    try simp only [this, go_sem, Nat.reduceAdd, Nat.reduceMul, Nat.reduceSub, Nat.reduceEqDiff, Nat.reduceLT, Nat.reduceLeDiff, Nat.reduceBEq, reduceIte, reduceCtorEq, Int.reduceAdd, Int.reduceLT, Int.reduceLE, Int.reduceGT, Int.reduceGE, Int.reduceEq, Int.reduceNe, Int.reduceBEq, Int.reduceBNe, Int.reduceToNat, Int.reduceNeg]

theorem sFew_iff {l : List OpS} (h : sFew l = true) : l.length ≤ 30 ∧ ∀ o ∈ l, o.key.length ≤ 100 ∧ o.val.length ≤ 1000 := by
  unfold sFew at h
  simp only [Bool.and_eq_true, List.all_eq_true, decide_eq_true_eq] at h
  exact ⟨h.1.2, fun o ho => h.1.1 o ho⟩
theorem sFews_iff {l : List StepS} (h : sFews l = true) : l.length ≤ 15 ∧ ∀ x ∈ l, sFew x.ops = true := by
  unfold sFews at h
  simp only [Bool.and_eq_true, List.all_eq_true, decide_eq_true_eq] at h
  exact ⟨h.2, h.1⟩

section
variable {P : Program} {k0 o : Nat} {p : List (Nat × Nat)} {Q : SExit → St → Prop} {st : St}
noncomputable def s10r0 : List SOper := [
  ⟨some 0, .mov (.k (.d (.bool false))), none⟩]
noncomputable def s10r1 : List SOper := [
  ⟨some 5, .call (.k (.d (.func (.func 12) [] []))) [], none⟩,
  ⟨some 1, .mov (.t 5), none⟩]
noncomputable def s10r2 : List SOper := [
  ⟨some 6, .mov (.t 1), none⟩,
  ⟨some 7, .buildSlice false 1 1 [(.int .u8 0)] [(0, 1, (.k (.d (.int .u8 1))))], none⟩,
  ⟨some 8, .build [(.str []), (.bool false), .nilsl] [(0, 1, (.k (.d (.str [97])))), (2, 1, (.t 7))], none⟩,
  ⟨some 9, .buildSlice false 1 1 [(.int .u8 0)] [(0, 1, (.k (.d (.int .u8 2))))], none⟩,
  ⟨some 10, .build [(.str []), (.bool false), .nilsl] [(0, 1, (.k (.d (.str [98])))), (2, 1, (.t 9))], none⟩,
  ⟨some 11, .buildSlice false 3 2 [(.str []), (.bool false), .nilsl] [(0, 3, (.t 8)), (3, 3, (.t 10))], none⟩,
  ⟨some 12, .call (.k (.d (.func (.func 13) [] []))) [(.t 6), (.t 11)], none⟩,
  ⟨some 2, .mov (.t 12), none⟩]
noncomputable def s10r3 : List SOper := [
  ⟨some 13, .mov (.t 1), none⟩,
  ⟨some 14, .build [(.str []), (.bool false), .nilsl] [(0, 1, (.k (.d (.str [97])))), (1, 1, (.k (.d (.bool true))))], none⟩,
  ⟨some 15, .buildSlice false 3 1 [(.str []), (.bool false), .nilsl] [(0, 3, (.t 14))], none⟩,
  ⟨some 16, .call (.k (.d (.func (.func 13) [] []))) [(.t 13), (.t 15)], none⟩,
  ⟨some 3, .mov (.t 16), none⟩]
noncomputable def s10r4 : List SOper := [
  ⟨some 17, .mov (.t 1), none⟩,
  ⟨some 18, .call (.k (.d (.func (.func 36) [] []))) [(.t 17), (.k (.d (.str [])))], none⟩,
  ⟨some 4, .mov (.t 18), none⟩]
noncomputable def s10r5 : List SOper := [
  ⟨some 19, .mov (.t 2), none⟩,
  ⟨some 20, .bin .eql (.t 19) (.k (.d (.int .i64 0))), none⟩,
  ⟨some 21, .mov (.t 20), none⟩,
  ⟨some 22, .mov (.t 3), some (21, true)⟩,
  ⟨some 23, .bin .eql (.t 22) (.k (.d (.int .i64 0))), some (21, true)⟩,
  ⟨some 24, .pick (.t 21) (.t 23) (.k (.d (.bool false))), none⟩,
  ⟨some 25, .mov (.t 24), none⟩,
  ⟨some 26, .mov (.t 4), some (25, true)⟩,
  ⟨some 27, .len (.t 26), some (25, true)⟩,
  ⟨some 28, .bin .eql (.t 27) (.k (.d (.int .i64 1))), some (25, true)⟩,
  ⟨some 29, .pick (.t 25) (.t 28) (.k (.d (.bool false))), none⟩,
  ⟨some 30, .mov (.t 29), none⟩,
  ⟨some 31, .mov (.t 4), some (30, true)⟩,
  ⟨some 32, .iaddr 2 (.t 31) (.k (.d (.int .i64 0))), some (30, true)⟩,
  ⟨some 33, .faddr 0 (.t 32), some (30, true)⟩,
  ⟨some 34, .load none (.t 33), some (30, true)⟩,
  ⟨some 35, .bin .eql (.t 34) (.k (.d (.str [98]))), some (30, true)⟩,
  ⟨some 36, .pick (.t 30) (.t 35) (.k (.d (.bool false))), none⟩,
  ⟨some 37, .mov (.t 36), none⟩,
  ⟨some 38, .mov (.t 4), some (37, true)⟩,
  ⟨some 39, .iaddr 2 (.t 38) (.k (.d (.int .i64 0))), some (37, true)⟩,
  ⟨some 40, .faddr 1 (.t 39), some (37, true)⟩,
  ⟨some 41, .load none (.t 40), some (37, true)⟩,
  ⟨some 42, .b2s (.t 41), some (37, true)⟩,
  ⟨some 43, .bin .eql (.t 42) (.k (.d (.str [2]))), some (37, true)⟩,
  ⟨some 44, .pick (.t 37) (.t 43) (.k (.d (.bool false))), none⟩,
  ⟨some 0, .mov (.t 44), none⟩]
noncomputable def s10 : SCode := (.seq (.region s10r0 0 []) (.seq (.region s10r1 2 []) (.seq (.region s10r2 1 []) (.seq (.region s10r3 1 []) (.seq (.region s10r4 0 []) (.seq (.region s10r5 0 []) .ret))))))
theorem e10 : AWp P k0 s10 Q st = AWp P k0 (.seq (.region s10r0 0 []) (.seq (.region s10r1 2 []) (.seq (.region s10r2 1 []) (.seq (.region s10r3 1 []) (.seq (.region s10r4 0 []) (.seq (.region s10r5 0 []) .ret)))))) Q st := rfl
theorem u10r0 : goReg P s10r0 o p Q st = goLit P (litOf s10r0.eq_1) o p Q st := goReg_of _
theorem u10r1 : goReg P s10r1 o p Q st = goLit P (litOf s10r1.eq_1) o p Q st := goReg_of _
theorem u10r2 : goReg P s10r2 o p Q st = goLit P (litOf s10r2.eq_1) o p Q st := goReg_of _
theorem u10r3 : goReg P s10r3 o p Q st = goLit P (litOf s10r3.eq_1) o p Q st := goReg_of _
theorem u10r4 : goReg P s10r4 o p Q st = goLit P (litOf s10r4.eq_1) o p Q st := goReg_of _
theorem u10r5 : goReg P s10r5 o p Q st = goLit P (litOf s10r5.eq_1) o p Q st := goReg_of _
attribute [go_sem] u10r0 u10r1 u10r2 u10r3 u10r4 u10r5 e10
set_option maxRecDepth 100000 in
theorem F10 : FnIs Try.prog 10 Try.f10 [] news s10 [.tmp 0] 45 := ⟨follows, Try.func10, by kernel_rfl, by kernel_rfl, by kernel_rfl, by kernel_rfl⟩

end
def ops1 : List OpS := [⟨[97], false, [1]⟩, ⟨[98], false, [2]⟩]
def ops2 : List OpS := [⟨[97], true, []⟩]
def st1 : Sto := (sCommit newS ops1).1
def st2 : Sto := (sCommit st1 ops2).1
theorem c1 : (sCommit newS ops1).2 = 0 := by decide +kernel
theorem c2 : (sCommit st1 ops2).2 = 0 := by decide +kernel
theorem c3 : sList st2.m [] = [([98], [2])] := by decide +kernel

theorem newM_ok : ACall Try.prog 12 [] [] (.d (.ptr 1 0)) [mapO newS.m, stoO newS 0] := new_ok

theorem awake48_ok : ACall Try.prog 10 [] [] (.d (.bool true)) [] := by
  have s1 : st1.Ok 1 := sCommit_inv (newS_ok 0) ops1
  have s2 : st2.Ok 2 := sCommit_inv s1 ops2
  have k0 := newM_ok
  have k1 := commit_yes (by decide) (by decide) c1
  have k2 := commit_yes (s := st1) (by decide) (by have := s1.file; omega) c2
  have k3 := content_ok st2 [] 2 s2
  rw [c3] at k3
  change ACall _ _ _ _ _ [stoO st1 2, mapO newS.m, mapO st1.m] at k1
  change ACall _ _ _ _ _ [stoO st2 2, mapO st1.m, mapO st2.m] at k2
  have o1 : ops1.map encOp = [[.str [97], .bool false, .sl 1 [[.int .u8 1]]], [.str [98], .bool false, .sl 1 [[.int .u8 2]]]] := rfl
  have o2 : ops2.map encOp = [[.str [97], .bool true, .sl 1 []]] := rfl
  have o3 : [(([98], [2]) : En)].map encEn = [[.str [98], .sl 1 [[.int .u8 2]]]] := rfl
  rw [o1] at k1; rw [o2] at k2; rw [o3] at k3
  clear s1 s2 o1 o2 o3
  generalize newS = s0, st1 = s1, st2 = s2 at k0 k1 k2 k3
  simp only [stoO, mapO] at k0 k1 k2 k3
  refine F10.go ?_
  try (refine ev ?_; try exact True.intro)
  refine clO [0, 1] F12 k0 ?_
  try (refine ev ?_; try exact True.intro)
  refine clO [1, 0, 2] F13 k1 ?_
  try (refine ev ?_; try exact True.intro)
  refine clO [1, 2, 3] F13 k2 ?_
  try (refine ev ?_; try exact True.intro)
  refine clO [1, 3] F36 k3 ?_
  try (refine ev ?_; try exact True.intro)
  exact ⟨⟨[2], rfl⟩, by decide⟩
end Go.Proofs.Ytinnaedmdoengaa

/- Layer 48 (store): StoreMap. -/
namespace Go.Proofs.Ytinnaedmdoengaa
open Go.Abs
set_option linter.unusedSimpArgs false
set_option linter.unusedVariables false

/-- The value that the law expects, and whether there is one. -/
def stepW (key : List UInt8) (p : List UInt8 × Bool) (o : OpS) : List UInt8 × Bool := if o.key = key then (o.val, !o.del) else p
def foldW (key : List UInt8) (p : List UInt8 × Bool) (l : List OpS) : List UInt8 × Bool := l.foldl (stepW key) p
def optW (p : List UInt8 × Bool) : Option (List UInt8) := if p.2 then some p.1 else none
theorem lastOf_fold (key : List UInt8) : ∀ (l : List OpS) (p : List UInt8 × Bool), lastOf key (optW p) l = optW (foldW key p l)
  | [], p => rfl
  | o :: l, p => by
    rw [lastOf]
    have : foldW key p (o :: l) = foldW key (stepW key p o) l := rfl
    rw [this, ← lastOf_fold key l]
    congr 1
    unfold stepW optW
    by_cases h : o.key = key
    · simp only [h, if_true]; cases o.del <;> simp
    · simp only [h, if_false]
theorem foldW_succ (key : List UInt8) (p : List UInt8 × Bool) (l : List OpS) {i : Nat} (h : i < l.length) : foldW key p (l.take (i + 1)) = stepW key (foldW key p (l.take i)) l[i] := by
  unfold foldW
  rw [List.take_succ_eq_append_getElem h, List.foldl_append]; rfl

section
variable {P : Program} {k0 o : Nat} {p : List (Nat × Nat)} {Q : SExit → St → Prop} {st : St}
noncomputable def s3mr0 : List SOper := [
  ⟨some 4, .mov (.k (.d (.bool false))), none⟩]
noncomputable def s3mr1 : List SOper := [
  ⟨some 13, .call (.k (.d (.func (.func 10) [] []))) [], none⟩,
  ⟨some 14, .not (.t 13), none⟩]
noncomputable def s3mr2 : List SOper := [
  ⟨some 4, .mov (.k (.d (.bool false))), none⟩]
noncomputable def s3mr3 : List SOper := [
  ⟨some 15, .mov (.t 0), none⟩,
  ⟨some 16, .call (.k (.d (.func (.func 11) [] []))) [(.t 15)], none⟩,
  ⟨some 17, .not (.t 16), none⟩]
noncomputable def s3mr4 : List SOper := [
  ⟨some 4, .mov (.k (.d (.bool true))), none⟩]
noncomputable def s3mr5 : List SOper := [
  ⟨some 18, .call (.k (.d (.func (.func 12) [] []))) [], none⟩,
  ⟨some 5, .mov (.t 18), none⟩]
noncomputable def s3mr6 : List SOper := [
  ⟨some 6, .mov (.k (.d (.str []))), none⟩,
  ⟨some 7, .mov (.k (.d (.bool false))), none⟩]
noncomputable def s3mr7 : List SOper := [
  ⟨some 8, .mov (.k (.d (.int .i64 0))), none⟩]
noncomputable def s3mr8 : List SOper := [
  ⟨some 19, .mov (.t 8), none⟩,
  ⟨some 20, .mov (.t 0), none⟩,
  ⟨some 21, .len (.t 20), none⟩,
  ⟨some 22, .bin .lss (.t 19) (.t 21), none⟩]
noncomputable def s3mr9 : List SOper := [
  ⟨some 25, .mov (.t 5), none⟩,
  ⟨some 26, .mov (.t 0), none⟩,
  ⟨some 27, .mov (.t 8), none⟩,
  ⟨some 28, .iaddr 2 (.t 26) (.t 27), none⟩,
  ⟨some 29, .faddr 1 (.t 28), none⟩,
  ⟨some 30, .load none (.t 29), none⟩,
  ⟨some 31, .call (.k (.d (.func (.func 14) [] []))) [(.t 30)], none⟩,
  ⟨some 32, .call (.k (.d (.func (.func 13) [] []))) [(.t 25), (.t 31)], none⟩,
  ⟨some 33, .bin .eql (.t 32) (.k (.d (.int .i64 0))), none⟩]
noncomputable def s3mr10 : List SOper := [
  ⟨some 9, .mov (.k (.d (.int .i64 0))), none⟩]
noncomputable def s3mr11 : List SOper := [
  ⟨some 34, .mov (.t 9), none⟩,
  ⟨some 35, .mov (.t 0), none⟩,
  ⟨some 36, .mov (.t 8), none⟩,
  ⟨some 37, .iaddr 2 (.t 35) (.t 36), none⟩,
  ⟨some 38, .faddr 1 (.t 37), none⟩,
  ⟨some 39, .load none (.t 38), none⟩,
  ⟨some 40, .len (.t 39), none⟩,
  ⟨some 41, .bin .lss (.t 34) (.t 40), none⟩]
noncomputable def s3mr12 : List SOper := [
  ⟨some 44, .mov (.t 0), none⟩,
  ⟨some 45, .mov (.t 8), none⟩,
  ⟨some 46, .iaddr 2 (.t 44) (.t 45), none⟩,
  ⟨some 47, .faddr 1 (.t 46), none⟩,
  ⟨some 48, .load none (.t 47), none⟩,
  ⟨some 49, .mov (.t 9), none⟩,
  ⟨some 50, .iaddr 3 (.t 48) (.t 49), none⟩,
  ⟨some 51, .load (some 3) (.t 50), none⟩,
  ⟨some 10, .alloc 1 [(.d (.str [])), (.d (.bool false)), (.d .nilsl)], none⟩,
  ⟨none, .store (some 3) (.t 10) (.t 51), none⟩]
noncomputable def s3mr13 : List SOper := [
  ⟨some 52, .faddr 0 (.t 10), none⟩,
  ⟨some 53, .load none (.t 52), none⟩,
  ⟨some 54, .mov (.t 1), none⟩,
  ⟨some 55, .bin .eql (.t 53) (.t 54), none⟩]
noncomputable def s3mr14 : List SOper := [
  ⟨some 56, .faddr 2 (.t 10), none⟩,
  ⟨some 57, .load none (.t 56), none⟩,
  ⟨some 58, .b2s (.t 57), none⟩,
  ⟨some 59, .faddr 1 (.t 10), none⟩,
  ⟨some 60, .load none (.t 59), none⟩,
  ⟨some 61, .not (.t 60), none⟩,
  ⟨some 6, .mov (.t 58), none⟩,
  ⟨some 7, .mov (.t 61), none⟩]
noncomputable def s3mr15 : List SOper := [
  ⟨some 42, .mov (.t 9), none⟩,
  ⟨some 43, .bin .add (.t 42) (.k (.d (.int .i64 1))), none⟩,
  ⟨some 9, .mov (.t 43), none⟩]
noncomputable def s3ml16 : SCode := (.seq (.seq (.region s3mr11 0 []) (.cond (.t 41) .skip (.exit 2))) (.seq (.block 3 (.seq (.region s3mr12 1 []) (.seq (.region s3mr13 0 []) (.cond (.t 55) (.region s3mr14 0 []) .skip)))) (.region s3mr15 0 [])))
theorem e3ml16 : AWp P k0 s3ml16 Q st = AWp P k0 (.seq (.seq (.region s3mr11 0 []) (.cond (.t 41) .skip (.exit 2))) (.seq (.block 3 (.seq (.region s3mr12 1 []) (.seq (.region s3mr13 0 []) (.cond (.t 55) (.region s3mr14 0 []) .skip)))) (.region s3mr15 0 []))) Q st := rfl
noncomputable def s3mr17 : List SOper := [
  ⟨some 63, .mov (.t 5), none⟩,
  ⟨some 64, .mov (.t 1), none⟩,
  ⟨some 65, .call (.k (.d (.func (.func 15) [] []))) [(.t 63), (.t 64)], none⟩,
  ⟨some 62, .mov (.t 65), none⟩,
  ⟨some 66, .extract 0 (.t 62), none⟩,
  ⟨some 67, .extract 1 (.t 62), none⟩,
  ⟨some 11, .mov (.t 66), none⟩,
  ⟨some 12, .mov (.t 67), none⟩]
noncomputable def s3mr18 : List SOper := [
  ⟨some 68, .mov (.t 12), none⟩,
  ⟨some 69, .mov (.t 7), none⟩,
  ⟨some 70, .eqb true (.t 68) (.t 69), none⟩,
  ⟨some 71, .mov (.t 70), none⟩,
  ⟨some 72, .mov (.t 7), some (71, false)⟩,
  ⟨some 73, .mov (.t 72), some (71, false)⟩,
  ⟨some 74, .mov (.t 11), some (73, true)⟩,
  ⟨some 75, .b2s (.t 74), some (73, true)⟩,
  ⟨some 76, .mov (.t 6), some (73, true)⟩,
  ⟨some 77, .bin .neq (.t 75) (.t 76), some (73, true)⟩,
  ⟨some 78, .pick (.t 73) (.t 77) (.k (.d (.bool false))), some (71, false)⟩,
  ⟨some 79, .pick (.t 71) (.k (.d (.bool true))) (.t 78), none⟩,
  ⟨some 80, .mov (.t 79), none⟩,
  ⟨some 81, .mov (.t 7), some (80, false)⟩,
  ⟨some 82, .not (.t 81), some (80, false)⟩,
  ⟨some 83, .mov (.t 82), some (80, false)⟩,
  ⟨some 84, .mov (.t 11), some (83, true)⟩,
  ⟨some 85, .len (.t 84), some (83, true)⟩,
  ⟨some 86, .bin .gtr (.t 85) (.k (.d (.int .i64 0))), some (83, true)⟩,
  ⟨some 87, .pick (.t 83) (.t 86) (.k (.d (.bool false))), some (80, false)⟩,
  ⟨some 88, .pick (.t 80) (.k (.d (.bool true))) (.t 87), none⟩]
noncomputable def s3mr19 : List SOper := [
  ⟨some 4, .mov (.k (.d (.bool false))), none⟩]
noncomputable def s3mr20 : List SOper := [
  ⟨some 23, .mov (.t 8), none⟩,
  ⟨some 24, .bin .add (.t 23) (.k (.d (.int .i64 1))), none⟩,
  ⟨some 8, .mov (.t 24), none⟩]
noncomputable def s3ml21 : SCode := (.seq (.seq (.region s3mr8 0 []) (.cond (.t 22) .skip (.exit 0))) (.seq (.block 1 (.seq (.seq (.region s3mr9 1 []) (.cond (.t 33) (.seq (.region s3mr10 0 []) (.block 2 (.loop s3ml16))) .skip)) (.seq (.pause (.region s3mr17 0 [])) (.seq (.region s3mr18 0 []) (.cond (.t 88) (.seq (.region s3mr19 0 []) .ret) .skip))))) (.region s3mr20 0 [])))
theorem e3ml21 : AWp P k0 s3ml21 Q st = AWp P k0 (.seq (.seq (.region s3mr8 0 []) (.cond (.t 22) .skip (.exit 0))) (.seq (.block 1 (.seq (.seq (.region s3mr9 1 []) (.cond (.t 33) (.seq (.region s3mr10 0 []) (.block 2 (.loop s3ml16))) .skip)) (.seq (.pause (.region s3mr17 0 [])) (.seq (.region s3mr18 0 []) (.cond (.t 88) (.seq (.region s3mr19 0 []) .ret) .skip))))) (.region s3mr20 0 []))) Q st := rfl
noncomputable def s3mr22 : List SOper := [
  ⟨some 4, .mov (.k (.d (.bool true))), none⟩]
noncomputable def s3m : SCode := (.seq (.region s3mr0 0 []) (.seq (.seq (.region s3mr1 0 []) (.cond (.t 14) (.seq (.region s3mr2 0 []) .ret) .skip)) (.seq (.seq (.region s3mr3 0 []) (.cond (.t 17) (.seq (.region s3mr4 0 []) .ret) .skip)) (.seq (.region s3mr5 2 []) (.seq (.region s3mr6 0 []) (.seq (.seq (.region s3mr7 0 []) (.block 0 (.loop s3ml21))) (.seq (.region s3mr22 0 []) .ret)))))))
theorem e3m : AWp P k0 s3m Q st = AWp P k0 (.seq (.region s3mr0 0 []) (.seq (.seq (.region s3mr1 0 []) (.cond (.t 14) (.seq (.region s3mr2 0 []) .ret) .skip)) (.seq (.seq (.region s3mr3 0 []) (.cond (.t 17) (.seq (.region s3mr4 0 []) .ret) .skip)) (.seq (.region s3mr5 2 []) (.seq (.region s3mr6 0 []) (.seq (.seq (.region s3mr7 0 []) (.block 0 (.loop s3ml21))) (.seq (.region s3mr22 0 []) .ret))))))) Q st := rfl
theorem u3mr0 : goReg P s3mr0 o p Q st = goLit P (litOf s3mr0.eq_1) o p Q st := goReg_of _
theorem u3mr1 : goReg P s3mr1 o p Q st = goLit P (litOf s3mr1.eq_1) o p Q st := goReg_of _
theorem u3mr2 : goReg P s3mr2 o p Q st = goLit P (litOf s3mr2.eq_1) o p Q st := goReg_of _
theorem u3mr3 : goReg P s3mr3 o p Q st = goLit P (litOf s3mr3.eq_1) o p Q st := goReg_of _
theorem u3mr4 : goReg P s3mr4 o p Q st = goLit P (litOf s3mr4.eq_1) o p Q st := goReg_of _
theorem u3mr5 : goReg P s3mr5 o p Q st = goLit P (litOf s3mr5.eq_1) o p Q st := goReg_of _
theorem u3mr6 : goReg P s3mr6 o p Q st = goLit P (litOf s3mr6.eq_1) o p Q st := goReg_of _
theorem u3mr7 : goReg P s3mr7 o p Q st = goLit P (litOf s3mr7.eq_1) o p Q st := goReg_of _
theorem u3mr8 : goReg P s3mr8 o p Q st = goLit P (litOf s3mr8.eq_1) o p Q st := goReg_of _
theorem u3mr9 : goReg P s3mr9 o p Q st = goLit P (litOf s3mr9.eq_1) o p Q st := goReg_of _
theorem u3mr10 : goReg P s3mr10 o p Q st = goLit P (litOf s3mr10.eq_1) o p Q st := goReg_of _
theorem u3mr11 : goReg P s3mr11 o p Q st = goLit P (litOf s3mr11.eq_1) o p Q st := goReg_of _
theorem u3mr12 : goReg P s3mr12 o p Q st = goLit P (litOf s3mr12.eq_1) o p Q st := goReg_of _
theorem u3mr13 : goReg P s3mr13 o p Q st = goLit P (litOf s3mr13.eq_1) o p Q st := goReg_of _
theorem u3mr14 : goReg P s3mr14 o p Q st = goLit P (litOf s3mr14.eq_1) o p Q st := goReg_of _
theorem u3mr15 : goReg P s3mr15 o p Q st = goLit P (litOf s3mr15.eq_1) o p Q st := goReg_of _
theorem u3mr17 : goReg P s3mr17 o p Q st = goLit P (litOf s3mr17.eq_1) o p Q st := goReg_of _
theorem u3mr18 : goReg P s3mr18 o p Q st = goLit P (litOf s3mr18.eq_1) o p Q st := goReg_of _
theorem u3mr19 : goReg P s3mr19 o p Q st = goLit P (litOf s3mr19.eq_1) o p Q st := goReg_of _
theorem u3mr20 : goReg P s3mr20 o p Q st = goLit P (litOf s3mr20.eq_1) o p Q st := goReg_of _
theorem u3mr22 : goReg P s3mr22 o p Q st = goLit P (litOf s3mr22.eq_1) o p Q st := goReg_of _
attribute [go_sem] u3mr0 u3mr1 u3mr2 u3mr3 u3mr4 u3mr5 u3mr6 u3mr7 u3mr8 u3mr9 u3mr10 u3mr11 u3mr12 u3mr13 u3mr14 u3mr15 e3ml16 u3mr17 u3mr18 u3mr19 u3mr20 e3ml21 u3mr22 e3m
set_option maxRecDepth 100000 in
theorem F3m : FnIs Try.prog 3 Try.f3 [] news s3m [.tmp 4] 89 := ⟨follows, Try.func3, by kernel_rfl, by kernel_rfl, by kernel_rfl, by kernel_rfl⟩

end

def Smap (l : List StepS) (key : List UInt8) (i : { x : Nat × Sto × (List UInt8 × Bool) // x.1 ≤ l.length ∧ x.2.1.Ok x.1 ∧ mGet key x.2.1.m = optW x.2.2 }) : St :=
  ⟨[(0, true, .d (.sl 2 (l.map encStep))), (1, true, .d (.str key)), (5, true, .d (.ptr 1 0)), (6, true, .d (.str i.val.2.2.1)), (7, true, .d (.bool i.val.2.2.2)), (8, true, .d (.int .i64 (i.val.1 : Nat)))], [mapO i.val.2.1.m, stoO i.val.2.1 0], [], 1⟩

def SmapI (l : List StepS) (key : List UInt8) (i : Nat) (ops : List OpS) (s s' : Sto) (p : List UInt8 × Bool) (k : { k : Nat // k ≤ ops.length }) : St :=
  ⟨[(0, true, .d (.sl 2 (l.map encStep))), (1, true, .d (.str key)), (5, true, .d (.ptr 1 0)), (6, true, .d (.str (foldW key p (ops.take k.val)).1)), (7, true, .d (.bool (foldW key p (ops.take k.val)).2)), (8, true, .d (.int .i64 (i : Nat))), (9, true, .d (.int .i64 (k.val : Nat)))], [mapO s.m, stoO s' 2, mapO s'.m], [], 1⟩


set_option maxRecDepth 10000 in
theorem storeMap_ok (l : List StepS) (key : List UInt8) (hl : l.length ≤ maxLen) (hx : ∀ x ∈ l, x.ops.length ≤ maxLen) :
    ACall Try.prog 3 [.d (.sl 2 (l.map encStep)), .d (.str key)] [] (.d (.bool true)) [] := by
  refine F3m.go ?_
  try (refine ev ?_; try exact True.intro)
  (repeat (with_reducible refine ob ?_)); first | refine cl F10 (awake48_ok) ?_ | refine clF F10 (awake48_ok) (fun _ => by simp only [encOp, encEn, encStep, go_sem, Nat.reduceAdd, Nat.reduceMul, Nat.reduceSub, Nat.reduceEqDiff, Nat.reduceLT, Nat.reduceLeDiff, Nat.reduceBEq, reduceIte, reduceCtorEq, Int.reduceAdd, Int.reduceLT, Int.reduceLE, Int.reduceGT, Int.reduceGE, Int.reduceEq, Int.reduceNe, Int.reduceBEq, Int.reduceBNe, Int.reduceToNat, Int.reduceNeg]) ?_
  try (refine ev ?_; try exact True.intro)
  (repeat (with_reducible refine ob ?_)); refine no_ ?_
  try (refine ev ?_; try exact True.intro)
  (repeat (with_reducible refine ob ?_)); first | refine cl F11 (fews_ok l hl hx) ?_ | refine clF F11 (fews_ok l hl hx) (fun _ => by simp only [encOp, encEn, encStep, go_sem, Nat.reduceAdd, Nat.reduceMul, Nat.reduceSub, Nat.reduceEqDiff, Nat.reduceLT, Nat.reduceLeDiff, Nat.reduceBEq, reduceIte, reduceCtorEq, Int.reduceAdd, Int.reduceLT, Int.reduceLE, Int.reduceGT, Int.reduceGE, Int.reduceEq, Int.reduceNe, Int.reduceBEq, Int.reduceBNe, Int.reduceToNat, Int.reduceNeg]) ?_
  try (refine ev ?_; try exact True.intro)
  (repeat (with_reducible refine ob ?_)); refine iff_ _ (fun h => ?_) (fun h => ?_)
  · try (refine ev ?_; try exact True.intro)
  obtain ⟨h15, hfew⟩ := sFews_iff (by simpa using h)
  try (refine ev ?_; try exact True.intro)
  have k0 := newM_ok
  simp only [stoO, mapO] at k0
  refine clO [0, 1] F12 k0 ?_
  try (refine ev ?_; try exact True.intro)
  refine AWp_loop (Smap l key) (fun i => l.length - i.val.1) ⟨(0, newS, [], false), Nat.zero_le _, newS_ok 0, rfl⟩ ?_ (fun i => ?_)
  · try simp only [Smap, stoO, mapO, Int.ofNat_zero, go_sem, Nat.reduceAdd, Nat.reduceMul, Nat.reduceSub, Nat.reduceEqDiff, Nat.reduceLT, Nat.reduceLeDiff, Nat.reduceBEq, reduceIte, reduceCtorEq, Int.reduceAdd, Int.reduceLT, Int.reduceLE, Int.reduceGT, Int.reduceGE, Int.reduceEq, Int.reduceNe, Int.reduceBEq, Int.reduceBNe, Int.reduceToNat, Int.reduceNeg]
  obtain ⟨⟨i, s, p⟩, hi, hs, hg⟩ := i
  simp only at hi hs hg
  try simp only [Smap, stoO, mapO, go_sem, Nat.reduceAdd, Nat.reduceMul, Nat.reduceSub, Nat.reduceEqDiff, Nat.reduceLT, Nat.reduceLeDiff, Nat.reduceBEq, reduceIte, reduceCtorEq, Int.reduceAdd, Int.reduceLT, Int.reduceLE, Int.reduceGT, Int.reduceGE, Int.reduceEq, Int.reduceNe, Int.reduceBEq, Int.reduceBNe, Int.reduceToNat, Int.reduceNeg]
  (repeat (with_reducible refine ob ?_)); refine iff_ _ (fun h => ?_) (fun h => ?_)
  · have hil : i < l.length := by simpa using h
    obtain ⟨q1, q2⟩ := sFew_iff (hfew _ (List.getElem_mem hil))
    have hf := hs.file
    try simp only [getD_map encStep l hil, encStep, go_sem, Nat.reduceAdd, Nat.reduceMul, Nat.reduceSub, Nat.reduceEqDiff, Nat.reduceLT, Nat.reduceLeDiff, Nat.reduceBEq, reduceIte, reduceCtorEq, Int.reduceAdd, Int.reduceLT, Int.reduceLE, Int.reduceGT, Int.reduceGE, Int.reduceEq, Int.reduceNe, Int.reduceBEq, Int.reduceBNe, Int.reduceToNat, Int.reduceNeg]
    (repeat (with_reducible refine ob ?_))
    (repeat (with_reducible refine ob ?_)); first | refine cl F14 (to_ok l[i].ops (by omega) (fun o ho => by have := (q2 o ho).2; omega)) ?_ | refine clF F14 (to_ok l[i].ops (by omega) (fun o ho => by have := (q2 o ho).2; omega)) (fun _ => by simp only [encOp, encEn, encStep, go_sem, Nat.reduceAdd, Nat.reduceMul, Nat.reduceSub, Nat.reduceEqDiff, Nat.reduceLT, Nat.reduceLeDiff, Nat.reduceBEq, reduceIte, reduceCtorEq, Int.reduceAdd, Int.reduceLT, Int.reduceLE, Int.reduceGT, Int.reduceGE, Int.reduceEq, Int.reduceNe, Int.reduceBEq, Int.reduceBNe, Int.reduceToNat, Int.reduceNeg]) ?_
    try (refine ev ?_; try exact True.intro)
    have hs2 := sCommit_inv hs l[i].ops
    rcases sCommit_cases s l[i].ops with ⟨c1, c2⟩ | ⟨c1, c2, c3, c4⟩
    · have k1 := commit_no (s := s) (l := l[i].ops) (by omega) (by omega) c1
      simp only [stoO, mapO] at k1
      refine clO [1, 0, 2] F13 k1 ?_
      have hne : ((sCommit s l[i].ops).2 == 0) = false := by simpa using c1
      try simp only [hne, go_sem, Nat.reduceAdd, Nat.reduceMul, Nat.reduceSub, Nat.reduceEqDiff, Nat.reduceLT, Nat.reduceLeDiff, Nat.reduceBEq, reduceIte, reduceCtorEq, Int.reduceAdd, Int.reduceLT, Int.reduceLE, Int.reduceGT, Int.reduceGE, Int.reduceEq, Int.reduceNe, Int.reduceBEq, Int.reduceBNe, Int.reduceToNat, Int.reduceNeg]
      (repeat (with_reducible refine ob ?_)); refine no_ ?_
      try (refine ev ?_; try exact True.intro)
      refine pu ?_
      obtain ⟨w, b⟩ := p
      have kg := get_ok s key (fun x hx => by have := ((hs.mono (Nat.le_succ _))).good.small x hx; have := this.2.2; omega)
      simp only [stoO, mapO] at kg
      try (refine ev ?_; try exact True.intro)
      refine clO [1, 0] F15 kg ?_
      cases b
      · have hgg : mGet key (s).m = none := hg
        simp only [hgg, optV, Option.getD_none, Option.isSome_none, byteRows_nil]
        try (refine ev ?_; try exact True.intro)
        (repeat (with_reducible refine ob ?_)); refine no_ ?_
        try (refine ev ?_; try exact True.intro)
        refine ⟨⟨(i + 1, s, w, false), hil, (hs.mono (Nat.le_succ _)), hg⟩, ?_, by dsimp only; omega⟩
        try simp only [Smap, stoO, mapO, wrap_succ (show i < 9223372036854775807 by omega), go_sem, Nat.reduceAdd, Nat.reduceMul, Nat.reduceSub, Nat.reduceEqDiff, Nat.reduceLT, Nat.reduceLeDiff, Nat.reduceBEq, reduceIte, reduceCtorEq, Int.reduceAdd, Int.reduceLT, Int.reduceLE, Int.reduceGT, Int.reduceGE, Int.reduceEq, Int.reduceNe, Int.reduceBEq, Int.reduceBNe, Int.reduceToNat, Int.reduceNeg]
      · have hgg : mGet key (s).m = some w := hg
        simp only [hgg, optV, Option.getD_some, Option.isSome_some]
        try (refine ev ?_; try exact True.intro)
        (repeat (with_reducible refine ob ?_)); refine no_ ?_
        try (refine ev ?_; try exact True.intro)
        refine ⟨⟨(i + 1, s, w, true), hil, (hs.mono (Nat.le_succ _)), hg⟩, ?_, by dsimp only; omega⟩
        try simp only [Smap, stoO, mapO, wrap_succ (show i < 9223372036854775807 by omega), go_sem, Nat.reduceAdd, Nat.reduceMul, Nat.reduceSub, Nat.reduceEqDiff, Nat.reduceLT, Nat.reduceLeDiff, Nat.reduceBEq, reduceIte, reduceCtorEq, Int.reduceAdd, Int.reduceLT, Int.reduceLE, Int.reduceGT, Int.reduceGE, Int.reduceEq, Int.reduceNe, Int.reduceBEq, Int.reduceBNe, Int.reduceToNat, Int.reduceNeg]
    · have k1 := commit_yes (s := s) (l := l[i].ops) (by omega) (by omega) c1
      simp only [stoO, mapO] at k1
      refine clO [1, 0, 2] F13 k1 ?_
      have hg2 : mGet key (sCommit s l[i].ops).1.m = optW (foldW key p l[i].ops) := by
        rw [c4, mGet_apply key _ hs.good.ok c3, hg, lastOf_fold]
      generalize (sCommit s l[i].ops).1 = s' at hs2 hg2 ⊢
      try (refine ev ?_; try exact True.intro)
      (repeat (with_reducible refine ob ?_)); refine yes_ ?_
      try (refine ev ?_; try exact True.intro)
      refine AWp_loop (SmapI l key i l[i].ops s s' p) (fun k => l[i].ops.length - k.val) ⟨0, Nat.zero_le _⟩ ?_ (fun k => ?_)
      · try simp only [SmapI, stoO, mapO, List.take_zero, foldW, List.foldl_nil, Int.ofNat_zero, go_sem, Nat.reduceAdd, Nat.reduceMul, Nat.reduceSub, Nat.reduceEqDiff, Nat.reduceLT, Nat.reduceLeDiff, Nat.reduceBEq, reduceIte, reduceCtorEq, Int.reduceAdd, Int.reduceLT, Int.reduceLE, Int.reduceGT, Int.reduceGE, Int.reduceEq, Int.reduceNe, Int.reduceBEq, Int.reduceBNe, Int.reduceToNat, Int.reduceNeg]
      obtain ⟨k, hk⟩ := k
      try simp only [SmapI, stoO, mapO, getD_map encStep l hil, encStep, go_sem, Nat.reduceAdd, Nat.reduceMul, Nat.reduceSub, Nat.reduceEqDiff, Nat.reduceLT, Nat.reduceLeDiff, Nat.reduceBEq, reduceIte, reduceCtorEq, Int.reduceAdd, Int.reduceLT, Int.reduceLE, Int.reduceGT, Int.reduceGE, Int.reduceEq, Int.reduceNe, Int.reduceBEq, Int.reduceBNe, Int.reduceToNat, Int.reduceNeg]
      (repeat (with_reducible refine ob ?_))
      refine iff_ _ (fun hc => ?_) (fun hc => ?_)
      · have hkl : k < l[i].ops.length := by simpa using hc
        have hst := foldW_succ key p l[i].ops hkl
        try simp only [getD_map encStep l hil, encStep, getD_map encOp l[i].ops hkl, encOp, go_sem, Nat.reduceAdd, Nat.reduceMul, Nat.reduceSub, Nat.reduceEqDiff, Nat.reduceLT, Nat.reduceLeDiff, Nat.reduceBEq, reduceIte, reduceCtorEq, Int.reduceAdd, Int.reduceLT, Int.reduceLE, Int.reduceGT, Int.reduceGE, Int.reduceEq, Int.reduceNe, Int.reduceBEq, Int.reduceBNe, Int.reduceToNat, Int.reduceNeg]
        (repeat (with_reducible refine ob ?_))
        refine iff_ _ (fun hk => ?_) (fun hk => ?_)
        · have h1 : foldW key p (l[i].ops.take (k + 1)) = (l[i].ops[k].val, !l[i].ops[k].del) := by rw [hst, stepW, if_pos (by simpa using hk)]
          try (refine ev ?_; try exact True.intro)
          refine ⟨⟨k + 1, hkl⟩, ?_, by dsimp only; omega⟩
          try simp only [SmapI, stoO, mapO, h1, wrap_succ (show k < 9223372036854775807 by omega), go_sem, Nat.reduceAdd, Nat.reduceMul, Nat.reduceSub, Nat.reduceEqDiff, Nat.reduceLT, Nat.reduceLeDiff, Nat.reduceBEq, reduceIte, reduceCtorEq, Int.reduceAdd, Int.reduceLT, Int.reduceLE, Int.reduceGT, Int.reduceGE, Int.reduceEq, Int.reduceNe, Int.reduceBEq, Int.reduceBNe, Int.reduceToNat, Int.reduceNeg]
        · have h1 : foldW key p (l[i].ops.take (k + 1)) = foldW key p (l[i].ops.take k) := by rw [hst, stepW, if_neg (by simpa using hk)]
          try (refine ev ?_; try exact True.intro)
          refine ⟨⟨k + 1, hkl⟩, ?_, by dsimp only; omega⟩
          try simp only [SmapI, stoO, mapO, h1, wrap_succ (show k < 9223372036854775807 by omega), go_sem, Nat.reduceAdd, Nat.reduceMul, Nat.reduceSub, Nat.reduceEqDiff, Nat.reduceLT, Nat.reduceLeDiff, Nat.reduceBEq, reduceIte, reduceCtorEq, Int.reduceAdd, Int.reduceLT, Int.reduceLE, Int.reduceGT, Int.reduceGE, Int.reduceEq, Int.reduceNe, Int.reduceBEq, Int.reduceBNe, Int.reduceToNat, Int.reduceNeg]
      · have hkl : k = l[i].ops.length := by simp at hc; omega
        subst hkl
        rw [List.take_length]
        generalize foldW key p l[i].ops = pp at hg2 ⊢
        obtain ⟨w, b⟩ := pp
        try (refine ev ?_; try exact True.intro)
        refine pu_ren [2, 1, 0] [mapO s'.m, stoO s' 0, mapO s.m] ?_ (by try simp only [mapO, stoO, go_sem, Nat.reduceAdd, Nat.reduceMul, Nat.reduceSub, Nat.reduceEqDiff, Nat.reduceLT, Nat.reduceLeDiff, Nat.reduceBEq, reduceIte, reduceCtorEq, Int.reduceAdd, Int.reduceLT, Int.reduceLE, Int.reduceGT, Int.reduceGE, Int.reduceEq, Int.reduceNe, Int.reduceBEq, Int.reduceBNe, Int.reduceToNat, Int.reduceNeg]) (hp := rfl)
        refine pu ?_
        try simp only [mapO, stoO, go_sem, Nat.reduceAdd, Nat.reduceMul, Nat.reduceSub, Nat.reduceEqDiff, Nat.reduceLT, Nat.reduceLeDiff, Nat.reduceBEq, reduceIte, reduceCtorEq, Int.reduceAdd, Int.reduceLT, Int.reduceLE, Int.reduceGT, Int.reduceGE, Int.reduceEq, Int.reduceNe, Int.reduceBEq, Int.reduceBNe, Int.reduceToNat, Int.reduceNeg]
        have kg := get_ok s' key (fun x hx => by have := (hs2).good.small x hx; have := this.2.2; omega)
        simp only [stoO, mapO] at kg
        try (refine ev ?_; try exact True.intro)
        refine clO [1, 0] F15 kg ?_
        cases b
        · have hgg : mGet key (s').m = none := hg2
          simp only [hgg, optV, Option.getD_none, Option.isSome_none, byteRows_nil]
          try (refine ev ?_; try exact True.intro)
          (repeat (with_reducible refine ob ?_)); refine no_ ?_
          try (refine ev ?_; try exact True.intro)
          refine ⟨⟨(i + 1, s', w, false), hil, hs2, hg2⟩, ?_, by dsimp only; omega⟩
          try simp only [Smap, stoO, mapO, wrap_succ (show i < 9223372036854775807 by omega), go_sem, Nat.reduceAdd, Nat.reduceMul, Nat.reduceSub, Nat.reduceEqDiff, Nat.reduceLT, Nat.reduceLeDiff, Nat.reduceBEq, reduceIte, reduceCtorEq, Int.reduceAdd, Int.reduceLT, Int.reduceLE, Int.reduceGT, Int.reduceGE, Int.reduceEq, Int.reduceNe, Int.reduceBEq, Int.reduceBNe, Int.reduceToNat, Int.reduceNeg]
        · have hgg : mGet key (s').m = some w := hg2
          simp only [hgg, optV, Option.getD_some, Option.isSome_some]
          try (refine ev ?_; try exact True.intro)
          (repeat (with_reducible refine ob ?_)); refine no_ ?_
          try (refine ev ?_; try exact True.intro)
          refine ⟨⟨(i + 1, s', w, true), hil, hs2, hg2⟩, ?_, by dsimp only; omega⟩
          try simp only [Smap, stoO, mapO, wrap_succ (show i < 9223372036854775807 by omega), go_sem, Nat.reduceAdd, Nat.reduceMul, Nat.reduceSub, Nat.reduceEqDiff, Nat.reduceLT, Nat.reduceLeDiff, Nat.reduceBEq, reduceIte, reduceCtorEq, Int.reduceAdd, Int.reduceLT, Int.reduceLE, Int.reduceGT, Int.reduceGE, Int.reduceEq, Int.reduceNe, Int.reduceBEq, Int.reduceBNe, Int.reduceToNat, Int.reduceNeg]
  · try (refine ev ?_; try exact True.intro)
end Go.Proofs.Ytinnaedmdoengaa

/- Layer 48 (store): StoreNil. -/
namespace Go.Proofs.Ytinnaedmdoengaa
open Go.Abs
set_option linter.unusedSimpArgs false
set_option linter.unusedVariables false

section
variable {P : Program} {k0 o : Nat} {p : List (Nat × Nat)} {Q : SExit → St → Prop} {st : St}
noncomputable def s17r0 : List SOper := [
  ⟨some 4, .mov (.k (.d .nilsl)), none⟩]
noncomputable def s17r1 : List SOper := [
  ⟨some 8, .mov (.t 0), none⟩,
  ⟨some 9, .eqnil false .ptr (.t 8), none⟩]
noncomputable def s17r2 : List SOper := [
  ⟨some 4, .mov (.k (.d .nilsl)), none⟩]
noncomputable def s17r3 : List SOper := [
  ⟨some 5, .mov (.k (.d .nilsl)), none⟩]
noncomputable def s17r4 : List SOper := [
  ⟨some 10, .mov (.t 0), none⟩,
  ⟨some 11, .nilCheck (.t 10), none⟩,
  ⟨some 12, .faddr 2 (.t 11), none⟩,
  ⟨some 13, .load none (.t 12), none⟩,
  ⟨some 14, .rangeM 1 (.t 13), none⟩]
noncomputable def s17r5 : List SOper := [
  ⟨some 15, .nextM (.t 14), none⟩,
  ⟨some 16, .extract 0 (.t 15), none⟩]
noncomputable def s17r6 : List SOper := [
  ⟨some 17, .entryM (.t 14), none⟩,
  ⟨some 18, .extract 0 (.t 17), none⟩,
  ⟨some 19, .extract 1 (.t 17), none⟩,
  ⟨some 6, .mov (.t 18), none⟩,
  ⟨some 7, .mov (.t 19), none⟩]
noncomputable def s17r7 : List SOper := [
  ⟨some 20, .mov (.t 6), none⟩,
  ⟨some 21, .mov (.t 1), none⟩,
  ⟨some 22, .call (.k (.d (.func (.func 44) [] []))) [(.t 20), (.t 21)], none⟩]
noncomputable def s17r8 : List SOper := [
  ⟨some 23, .mov (.t 5), none⟩,
  ⟨some 24, .mov (.t 6), none⟩,
  ⟨some 25, .mov (.t 7), none⟩,
  ⟨some 26, .call (.k (.d (.func (.func 43) [] []))) [(.t 25)], none⟩,
  ⟨some 27, .build [(.str []), .nilsl] [(0, 1, (.t 24)), (1, 1, (.t 26))], none⟩,
  ⟨some 28, .buildSlice false 2 1 [(.str []), .nilsl] [(0, 2, (.t 27))], none⟩,
  ⟨some 29, .append false 2 40 (.t 23) (.t 28), none⟩,
  ⟨some 5, .mov (.t 29), none⟩]
noncomputable def s17l9 : SCode := (.seq (.region s17r5 0 []) (.seq (.cond (.t 16) .skip (.exit 0)) (.block 1 (.seq (.region s17r6 0 []) (.seq (.region s17r7 0 []) (.cond (.t 22) (.region s17r8 0 []) .skip))))))
theorem e17l9 : AWp P k0 s17l9 Q st = AWp P k0 (.seq (.region s17r5 0 []) (.seq (.cond (.t 16) .skip (.exit 0)) (.block 1 (.seq (.region s17r6 0 []) (.seq (.region s17r7 0 []) (.cond (.t 22) (.region s17r8 0 []) .skip)))))) Q st := rfl
noncomputable def s17r10 : List SOper := [
  ⟨some 30, .mov (.t 5), none⟩,
  ⟨some 31, .call (.k (.d (.func (.func 45) [] []))) [(.t 30), (.k (.d (.func (.func 46) [] [])))], none⟩]
noncomputable def s17r11 : List SOper := [
  ⟨some 32, .mov (.t 5), none⟩,
  ⟨some 4, .mov (.t 32), none⟩]
noncomputable def s17 : SCode := (.seq (.region s17r0 0 []) (.seq (.seq (.region s17r1 0 []) (.cond (.t 9) (.seq (.region s17r2 0 []) .ret) .skip)) (.seq (.region s17r3 0 []) (.seq (.seq (.region s17r4 1 []) (.block 0 (.loop s17l9))) (.seq (.region s17r10 0 []) (.seq (.region s17r11 0 []) .ret))))))
theorem e17 : AWp P k0 s17 Q st = AWp P k0 (.seq (.region s17r0 0 []) (.seq (.seq (.region s17r1 0 []) (.cond (.t 9) (.seq (.region s17r2 0 []) .ret) .skip)) (.seq (.region s17r3 0 []) (.seq (.seq (.region s17r4 1 []) (.block 0 (.loop s17l9))) (.seq (.region s17r10 0 []) (.seq (.region s17r11 0 []) .ret)))))) Q st := rfl
theorem u17r0 : goReg P s17r0 o p Q st = goLit P (litOf s17r0.eq_1) o p Q st := goReg_of _
theorem u17r1 : goReg P s17r1 o p Q st = goLit P (litOf s17r1.eq_1) o p Q st := goReg_of _
theorem u17r2 : goReg P s17r2 o p Q st = goLit P (litOf s17r2.eq_1) o p Q st := goReg_of _
theorem u17r3 : goReg P s17r3 o p Q st = goLit P (litOf s17r3.eq_1) o p Q st := goReg_of _
theorem u17r4 : goReg P s17r4 o p Q st = goLit P (litOf s17r4.eq_1) o p Q st := goReg_of _
theorem u17r5 : goReg P s17r5 o p Q st = goLit P (litOf s17r5.eq_1) o p Q st := goReg_of _
theorem u17r6 : goReg P s17r6 o p Q st = goLit P (litOf s17r6.eq_1) o p Q st := goReg_of _
theorem u17r7 : goReg P s17r7 o p Q st = goLit P (litOf s17r7.eq_1) o p Q st := goReg_of _
theorem u17r8 : goReg P s17r8 o p Q st = goLit P (litOf s17r8.eq_1) o p Q st := goReg_of _
theorem u17r10 : goReg P s17r10 o p Q st = goLit P (litOf s17r10.eq_1) o p Q st := goReg_of _
theorem u17r11 : goReg P s17r11 o p Q st = goLit P (litOf s17r11.eq_1) o p Q st := goReg_of _
attribute [go_sem] u17r0 u17r1 u17r2 u17r3 u17r4 u17r5 u17r6 u17r7 u17r8 e17l9 u17r10 u17r11 e17
set_option maxRecDepth 100000 in
theorem F17 : FnIs Try.prog 17 Try.f17 [] news s17 [.tmp 4] 33 := ⟨follows, Try.func17, by kernel_rfl, by kernel_rfl, by kernel_rfl, by kernel_rfl⟩

noncomputable def s29r0 : List SOper := [
  ⟨some 2, .mov (.k (.d .nilptr)), none⟩]
noncomputable def s29r1 : List SOper := [
  ⟨some 3, .mov (.t 0), none⟩,
  ⟨some 4, .eqnil false .ptr (.t 3), none⟩]
noncomputable def s29r2 : List SOper := [
  ⟨some 2, .mov (.k (.d .nilptr)), none⟩]
noncomputable def s29r3 : List SOper := [
  ⟨some 5, .mov (.t 0), none⟩,
  ⟨some 6, .call (.k (.d (.func (.func 28) [] []))) [(.t 5)], none⟩,
  ⟨some 7, .mov (.t 0), none⟩,
  ⟨some 8, .nilCheck (.t 7), none⟩,
  ⟨some 9, .faddr 2 (.t 8), none⟩,
  ⟨some 10, .load none (.t 9), none⟩,
  ⟨some 11, .call (.k (.d (.func (.func 40) [] []))) [(.t 10)], none⟩,
  ⟨some 12, .build [.nilsl, (.int .i64 0), .nilmap] [(0, 2, (.t 6)), (2, 1, (.t 11))], none⟩,
  ⟨some 13, .box 1 (.t 12), none⟩,
  ⟨some 2, .mov (.t 13), none⟩]
noncomputable def s29 : SCode := (.seq (.region s29r0 0 []) (.seq (.seq (.region s29r1 0 []) (.cond (.t 4) (.seq (.region s29r2 0 []) .ret) .skip)) (.seq (.region s29r3 2 [(1, 5)]) .ret)))
theorem e29 : AWp P k0 s29 Q st = AWp P k0 (.seq (.region s29r0 0 []) (.seq (.seq (.region s29r1 0 []) (.cond (.t 4) (.seq (.region s29r2 0 []) .ret) .skip)) (.seq (.region s29r3 2 [(1, 5)]) .ret))) Q st := rfl
theorem u29r0 : goReg P s29r0 o p Q st = goLit P (litOf s29r0.eq_1) o p Q st := goReg_of _
theorem u29r1 : goReg P s29r1 o p Q st = goLit P (litOf s29r1.eq_1) o p Q st := goReg_of _
theorem u29r2 : goReg P s29r2 o p Q st = goLit P (litOf s29r2.eq_1) o p Q st := goReg_of _
theorem u29r3 : goReg P s29r3 o p Q st = goLit P (litOf s29r3.eq_1) o p Q st := goReg_of _
attribute [go_sem] u29r0 u29r1 u29r2 u29r3 e29
set_option maxRecDepth 100000 in
theorem F29 : FnIs Try.prog 29 Try.f29 [] news s29 [.tmp 2] 14 := ⟨follows, Try.func29, by kernel_rfl, by kernel_rfl, by kernel_rfl, by kernel_rfl⟩

noncomputable def s27r0 : List SOper := [
  ⟨some 2, .mov (.k (.d (.int .i64 0))), none⟩]
noncomputable def s27r1 : List SOper := [
  ⟨some 11, .mov (.t 0), none⟩,
  ⟨some 12, .eqnil false .ptr (.t 11), none⟩]
noncomputable def s27r2 : List SOper := [
  ⟨some 2, .mov (.k (.d (.int .i64 7))), none⟩]
noncomputable def s27r3 : List SOper := [
  ⟨some 3, .alloc 1 [(.d .nilsl), (.d (.int .i64 0))], none⟩]
noncomputable def s27r4 : List SOper := [
  ⟨some 4, .alloc 1 [(.d .nilsl)], none⟩]
noncomputable def s27r5 : List SOper := [
  ⟨some 13, .mkFunc (.func 67) [] [(.t 4), (.t 3)], none⟩,
  ⟨some 5, .mov (.t 13), none⟩]
noncomputable def s27r6 : List SOper := [
  ⟨some 14, .mov (.t 0), none⟩,
  ⟨some 15, .call (.k (.d (.func (.func 17) [] []))) [(.t 14), (.k (.d (.str [])))], none⟩,
  ⟨some 16, .len (.t 15), none⟩,
  ⟨some 17, .mov (.k (.d (.int .i64 0))), none⟩]
noncomputable def s27r7 : List SOper := [
  ⟨some 18, .bin .lss (.t 17) (.t 16), none⟩]
noncomputable def s27r8 : List SOper := [
  ⟨some 19, .iaddr 2 (.t 15) (.t 17), none⟩,
  ⟨some 20, .load (some 2) (.t 19), none⟩,
  ⟨some 7, .alloc 1 [(.d (.str [])), (.d .nilsl)], none⟩,
  ⟨none, .store (some 2) (.t 7) (.t 20), none⟩]
noncomputable def s27r9 : List SOper := [
  ⟨some 21, .faddr 0 (.t 7), none⟩,
  ⟨some 22, .load none (.t 21), none⟩,
  ⟨some 23, .faddr 1 (.t 7), none⟩,
  ⟨some 24, .load none (.t 23), none⟩,
  ⟨some 25, .build [(.str []), (.bool false), .nilsl] [(0, 1, (.t 22)), (2, 1, (.t 24))], none⟩,
  ⟨some 8, .alloc 1 [(.d (.str [])), (.d (.bool false)), (.d .nilsl)], none⟩,
  ⟨none, .store (some 3) (.t 8) (.t 25), none⟩]
noncomputable def s27r10 : List SOper := [
  ⟨some 27, .load none (.t 4), none⟩,
  ⟨some 28, .load (some 3) (.t 8), none⟩,
  ⟨some 29, .buildSlice false 3 1 [(.str []), (.bool false), .nilsl] [(0, 3, (.t 28))], none⟩,
  ⟨some 30, .append false 3 48 (.t 27) (.t 29), none⟩,
  ⟨some 31, .call (.k (.d (.func (.func 30) [] []))) [(.t 30)], none⟩,
  ⟨some 26, .mov (.t 31), none⟩,
  ⟨some 32, .extract 0 (.t 26), none⟩,
  ⟨some 33, .extract 1 (.t 26), none⟩,
  ⟨some 9, .mov (.t 32), none⟩,
  ⟨some 10, .mov (.t 33), none⟩]
noncomputable def s27r11 : List SOper := [
  ⟨some 34, .mov (.t 10), none⟩,
  ⟨some 35, .bin .neq (.t 34) (.k (.d (.int .i64 0))), none⟩]
noncomputable def s27r12 : List SOper := [
  ⟨some 36, .mov (.t 5), none⟩,
  ⟨some 37, .call (.t 36) [], none⟩]
noncomputable def s27r13 : List SOper := [
  ⟨some 38, .load none (.t 4), none⟩,
  ⟨some 39, .load (some 3) (.t 8), none⟩,
  ⟨some 40, .buildSlice false 3 1 [(.str []), (.bool false), .nilsl] [(0, 3, (.t 39))], none⟩,
  ⟨some 41, .append false 3 48 (.t 38) (.t 40), none⟩,
  ⟨none, .store none (.t 4) (.t 41), none⟩]
noncomputable def s27r14 : List SOper := [
  ⟨some 42, .bin .add (.t 17) (.k (.d (.int .i64 1))), none⟩,
  ⟨some 17, .mov (.t 42), none⟩]
noncomputable def s27l15 : SCode := (.seq (.region s27r7 0 []) (.seq (.cond (.t 18) .skip (.exit 0)) (.seq (.block 1 (.seq (.region s27r8 1 []) (.seq (.region s27r9 1 []) (.seq (.seq (.region s27r10 0 []) (.seq (.region s27r11 0 []) (.cond (.t 35) (.region s27r12 0 []) .skip))) (.region s27r13 0 []))))) (.region s27r14 0 []))))
theorem e27l15 : AWp P k0 s27l15 Q st = AWp P k0 (.seq (.region s27r7 0 []) (.seq (.cond (.t 18) .skip (.exit 0)) (.seq (.block 1 (.seq (.region s27r8 1 []) (.seq (.region s27r9 1 []) (.seq (.seq (.region s27r10 0 []) (.seq (.region s27r11 0 []) (.cond (.t 35) (.region s27r12 0 []) .skip))) (.region s27r13 0 []))))) (.region s27r14 0 [])))) Q st := rfl
noncomputable def s27r16 : List SOper := [
  ⟨some 43, .mov (.t 5), none⟩,
  ⟨some 44, .call (.t 43) [], none⟩]
noncomputable def s27r17 : List SOper := [
  ⟨some 45, .mov (.t 0), none⟩,
  ⟨some 46, .load (some 2) (.t 3), none⟩,
  ⟨some 47, .call (.k (.d (.func (.func 66) [] []))) [(.t 46)], none⟩,
  ⟨some 48, .nilCheck (.t 45), none⟩,
  ⟨some 49, .faddr 0 (.t 48), none⟩,
  ⟨none, .store (some 2) (.t 49) (.t 47), none⟩]
noncomputable def s27r18 : List SOper := [
  ⟨some 2, .mov (.k (.d (.int .i64 0))), none⟩]
noncomputable def s27 : SCode := (.seq (.region s27r0 0 []) (.seq (.seq (.region s27r1 0 []) (.cond (.t 12) (.seq (.region s27r2 0 []) .ret) .skip)) (.seq (.region s27r3 1 []) (.seq (.region s27r4 1 []) (.seq (.region s27r5 0 []) (.seq (.seq (.region s27r6 0 []) (.block 0 (.loop s27l15))) (.seq (.region s27r16 0 []) (.seq (.region s27r17 0 []) (.seq (.region s27r18 0 []) .ret)))))))))
theorem e27 : AWp P k0 s27 Q st = AWp P k0 (.seq (.region s27r0 0 []) (.seq (.seq (.region s27r1 0 []) (.cond (.t 12) (.seq (.region s27r2 0 []) .ret) .skip)) (.seq (.region s27r3 1 []) (.seq (.region s27r4 1 []) (.seq (.region s27r5 0 []) (.seq (.seq (.region s27r6 0 []) (.block 0 (.loop s27l15))) (.seq (.region s27r16 0 []) (.seq (.region s27r17 0 []) (.seq (.region s27r18 0 []) .ret))))))))) Q st := rfl
theorem u27r0 : goReg P s27r0 o p Q st = goLit P (litOf s27r0.eq_1) o p Q st := goReg_of _
theorem u27r1 : goReg P s27r1 o p Q st = goLit P (litOf s27r1.eq_1) o p Q st := goReg_of _
theorem u27r2 : goReg P s27r2 o p Q st = goLit P (litOf s27r2.eq_1) o p Q st := goReg_of _
theorem u27r3 : goReg P s27r3 o p Q st = goLit P (litOf s27r3.eq_1) o p Q st := goReg_of _
theorem u27r4 : goReg P s27r4 o p Q st = goLit P (litOf s27r4.eq_1) o p Q st := goReg_of _
theorem u27r5 : goReg P s27r5 o p Q st = goLit P (litOf s27r5.eq_1) o p Q st := goReg_of _
theorem u27r6 : goReg P s27r6 o p Q st = goLit P (litOf s27r6.eq_1) o p Q st := goReg_of _
theorem u27r7 : goReg P s27r7 o p Q st = goLit P (litOf s27r7.eq_1) o p Q st := goReg_of _
theorem u27r8 : goReg P s27r8 o p Q st = goLit P (litOf s27r8.eq_1) o p Q st := goReg_of _
theorem u27r9 : goReg P s27r9 o p Q st = goLit P (litOf s27r9.eq_1) o p Q st := goReg_of _
theorem u27r10 : goReg P s27r10 o p Q st = goLit P (litOf s27r10.eq_1) o p Q st := goReg_of _
theorem u27r11 : goReg P s27r11 o p Q st = goLit P (litOf s27r11.eq_1) o p Q st := goReg_of _
theorem u27r12 : goReg P s27r12 o p Q st = goLit P (litOf s27r12.eq_1) o p Q st := goReg_of _
theorem u27r13 : goReg P s27r13 o p Q st = goLit P (litOf s27r13.eq_1) o p Q st := goReg_of _
theorem u27r14 : goReg P s27r14 o p Q st = goLit P (litOf s27r14.eq_1) o p Q st := goReg_of _
theorem u27r16 : goReg P s27r16 o p Q st = goLit P (litOf s27r16.eq_1) o p Q st := goReg_of _
theorem u27r17 : goReg P s27r17 o p Q st = goLit P (litOf s27r17.eq_1) o p Q st := goReg_of _
theorem u27r18 : goReg P s27r18 o p Q st = goLit P (litOf s27r18.eq_1) o p Q st := goReg_of _
attribute [go_sem] u27r0 u27r1 u27r2 u27r3 u27r4 u27r5 u27r6 u27r7 u27r8 u27r9 u27r10 u27r11 u27r12 u27r13 u27r14 e27l15 u27r16 u27r17 u27r18 e27
set_option maxRecDepth 100000 in
theorem F27 : FnIs Try.prog 27 Try.f27 [] news s27 [.tmp 2] 50 := ⟨follows, Try.func27, by kernel_rfl, by kernel_rfl, by kernel_rfl, by kernel_rfl⟩

noncomputable def s6r0 : List SOper := [
  ⟨some 4, .mov (.k (.d (.bool false))), none⟩]
noncomputable def s6r1 : List SOper := [
  ⟨some 8, .call (.k (.d (.func (.func 10) [] []))) [], none⟩,
  ⟨some 9, .not (.t 8), none⟩]
noncomputable def s6r2 : List SOper := [
  ⟨some 4, .mov (.k (.d (.bool false))), none⟩]
noncomputable def s6r3 : List SOper := [
  ⟨some 10, .mov (.t 0), none⟩,
  ⟨some 11, .call (.k (.d (.func (.func 25) [] []))) [(.t 10)], none⟩,
  ⟨some 12, .not (.t 11), none⟩]
noncomputable def s6r4 : List SOper := [
  ⟨some 4, .mov (.k (.d (.bool true))), none⟩]
noncomputable def s6r5 : List SOper := [
  ⟨some 5, .mov (.k (.d .nilptr)), none⟩]
noncomputable def s6r6 : List SOper := [
  ⟨some 14, .mov (.t 5), none⟩,
  ⟨some 15, .mov (.t 1), none⟩,
  ⟨some 16, .call (.k (.d (.func (.func 15) [] []))) [(.t 14), (.t 15)], none⟩,
  ⟨some 13, .mov (.t 16), none⟩,
  ⟨some 17, .extract 0 (.t 13), none⟩,
  ⟨some 18, .extract 1 (.t 13), none⟩,
  ⟨some 6, .mov (.t 17), none⟩,
  ⟨some 7, .mov (.t 18), none⟩]
noncomputable def s6r7 : List SOper := [
  ⟨some 19, .mov (.t 5), none⟩,
  ⟨some 20, .mov (.t 0), none⟩,
  ⟨some 21, .call (.k (.d (.func (.func 14) [] []))) [(.t 20)], none⟩,
  ⟨some 22, .call (.k (.d (.func (.func 13) [] []))) [(.t 19), (.t 21)], none⟩,
  ⟨some 23, .bin .eql (.t 22) (.k (.d (.int .i64 7))), none⟩,
  ⟨some 24, .mov (.t 23), none⟩,
  ⟨some 25, .mov (.t 5), some (24, true)⟩,
  ⟨some 26, .call (.k (.d (.func (.func 26) [] []))) [(.t 25)], some (24, true)⟩,
  ⟨some 27, .bin .eql (.t 26) (.k (.d (.int .i64 7))), some (24, true)⟩,
  ⟨some 28, .pick (.t 24) (.t 27) (.k (.d (.bool false))), none⟩,
  ⟨some 29, .mov (.t 28), none⟩,
  ⟨some 30, .mov (.t 5), some (29, true)⟩,
  ⟨some 31, .call (.k (.d (.func (.func 27) [] []))) [(.t 30)], some (29, true)⟩,
  ⟨some 32, .bin .eql (.t 31) (.k (.d (.int .i64 7))), some (29, true)⟩,
  ⟨some 33, .pick (.t 29) (.t 32) (.k (.d (.bool false))), none⟩,
  ⟨some 34, .mov (.t 33), none⟩,
  ⟨some 35, .mov (.t 6), some (34, true)⟩,
  ⟨some 36, .len (.t 35), some (34, true)⟩,
  ⟨some 37, .bin .eql (.t 36) (.k (.d (.int .i64 0))), some (34, true)⟩,
  ⟨some 38, .pick (.t 34) (.t 37) (.k (.d (.bool false))), none⟩,
  ⟨some 39, .mov (.t 38), none⟩,
  ⟨some 40, .mov (.t 7), some (39, true)⟩,
  ⟨some 41, .not (.t 40), some (39, true)⟩,
  ⟨some 42, .pick (.t 39) (.t 41) (.k (.d (.bool false))), none⟩,
  ⟨some 43, .mov (.t 42), none⟩,
  ⟨some 44, .mov (.t 5), some (43, true)⟩,
  ⟨some 45, .mov (.t 1), some (43, true)⟩,
  ⟨some 46, .call (.k (.d (.func (.func 17) [] []))) [(.t 44), (.t 45)], some (43, true)⟩,
  ⟨some 47, .len (.t 46), some (43, true)⟩,
  ⟨some 48, .bin .eql (.t 47) (.k (.d (.int .i64 0))), some (43, true)⟩,
  ⟨some 49, .pick (.t 43) (.t 48) (.k (.d (.bool false))), none⟩,
  ⟨some 50, .mov (.t 49), none⟩,
  ⟨some 51, .mov (.t 5), some (50, true)⟩,
  ⟨some 52, .call (.k (.d (.func (.func 28) [] []))) [(.t 51)], some (50, true)⟩,
  ⟨some 53, .field none 0 (.t 52), some (50, true)⟩,
  ⟨some 54, .len (.t 53), some (50, true)⟩,
  ⟨some 55, .bin .eql (.t 54) (.k (.d (.int .i64 0))), some (50, true)⟩,
  ⟨some 56, .pick (.t 50) (.t 55) (.k (.d (.bool false))), none⟩,
  ⟨some 57, .mov (.t 56), none⟩,
  ⟨some 58, .mov (.t 5), some (57, true)⟩,
  ⟨some 59, .call (.k (.d (.func (.func 29) [] []))) [(.t 58)], some (57, true)⟩,
  ⟨some 60, .eqnil false .ptr (.t 59), some (57, true)⟩,
  ⟨some 61, .pick (.t 57) (.t 60) (.k (.d (.bool false))), none⟩,
  ⟨some 4, .mov (.t 61), none⟩]
noncomputable def s6 : SCode := (.seq (.region s6r0 0 []) (.seq (.seq (.region s6r1 0 []) (.cond (.t 9) (.seq (.region s6r2 0 []) .ret) .skip)) (.seq (.seq (.region s6r3 0 []) (.cond (.t 12) (.seq (.region s6r4 0 []) .ret) .skip)) (.seq (.region s6r5 0 []) (.seq (.region s6r6 0 []) (.seq (.region s6r7 3 []) .ret))))))
theorem e6 : AWp P k0 s6 Q st = AWp P k0 (.seq (.region s6r0 0 []) (.seq (.seq (.region s6r1 0 []) (.cond (.t 9) (.seq (.region s6r2 0 []) .ret) .skip)) (.seq (.seq (.region s6r3 0 []) (.cond (.t 12) (.seq (.region s6r4 0 []) .ret) .skip)) (.seq (.region s6r5 0 []) (.seq (.region s6r6 0 []) (.seq (.region s6r7 3 []) .ret)))))) Q st := rfl
theorem u6r0 : goReg P s6r0 o p Q st = goLit P (litOf s6r0.eq_1) o p Q st := goReg_of _
theorem u6r1 : goReg P s6r1 o p Q st = goLit P (litOf s6r1.eq_1) o p Q st := goReg_of _
theorem u6r2 : goReg P s6r2 o p Q st = goLit P (litOf s6r2.eq_1) o p Q st := goReg_of _
theorem u6r3 : goReg P s6r3 o p Q st = goLit P (litOf s6r3.eq_1) o p Q st := goReg_of _
theorem u6r4 : goReg P s6r4 o p Q st = goLit P (litOf s6r4.eq_1) o p Q st := goReg_of _
theorem u6r5 : goReg P s6r5 o p Q st = goLit P (litOf s6r5.eq_1) o p Q st := goReg_of _
theorem u6r6 : goReg P s6r6 o p Q st = goLit P (litOf s6r6.eq_1) o p Q st := goReg_of _
theorem u6r7 : goReg P s6r7 o p Q st = goLit P (litOf s6r7.eq_1) o p Q st := goReg_of _
attribute [go_sem] u6r0 u6r1 u6r2 u6r3 u6r4 u6r5 u6r6 u6r7 e6
set_option maxRecDepth 100000 in
theorem F6 : FnIs Try.prog 6 Try.f6 [] news s6 [.tmp 4] 62 := ⟨follows, Try.func6, by kernel_rfl, by kernel_rfl, by kernel_rfl, by kernel_rfl⟩

end

theorem listNil_ok (p : List UInt8) : ACall Try.prog 17 [.d .nilptr, .d (.str p)] [] (.d (.sl 2 [])) [] := by
  refine F17.go ?_
  try (refine ev ?_; try exact True.intro)
  (repeat (with_reducible refine ob ?_)); refine yes_ ?_
  try (refine ev ?_; try exact True.intro)
theorem cloneNil_ok : ACall Try.prog 29 [.d .nilptr] [] (.d .nilptr) [] := by
  refine F29.go ?_
  try (refine ev ?_; try exact True.intro)
  (repeat (with_reducible refine ob ?_)); refine yes_ ?_
  try (refine ev ?_; try exact True.intro)
theorem compactNil_ok : ACall Try.prog 27 [.d .nilptr] [] (.d (.int .i64 7)) [] := by
  refine F27.go ?_
  try (refine ev ?_; try exact True.intro)
  (repeat (with_reducible refine ob ?_)); refine yes_ ?_
  try (refine ev ?_; try exact True.intro)

theorem storeNil_ok (l : List OpS) (key : List UInt8) (hl : l.length ≤ maxLen) : ACall Try.prog 6 [.d (.sl 3 (l.map encOp)), .d (.str key)] [] (.d (.bool true)) [] := by
  refine F6.go ?_
  try (refine ev ?_; try exact True.intro)
  (repeat (with_reducible refine ob ?_)); first | refine cl F10 (awake48_ok) ?_ | refine clF F10 (awake48_ok) (fun _ => by simp only [encOp, encEn, encStep, go_sem, Nat.reduceAdd, Nat.reduceMul, Nat.reduceSub, Nat.reduceEqDiff, Nat.reduceLT, Nat.reduceLeDiff, Nat.reduceBEq, reduceIte, reduceCtorEq, Int.reduceAdd, Int.reduceLT, Int.reduceLE, Int.reduceGT, Int.reduceGE, Int.reduceEq, Int.reduceNe, Int.reduceBEq, Int.reduceBNe, Int.reduceToNat, Int.reduceNeg]) ?_
  try (refine ev ?_; try exact True.intro)
  (repeat (with_reducible refine ob ?_)); refine no_ ?_
  try (refine ev ?_; try exact True.intro)
  (repeat (with_reducible refine ob ?_)); first | refine cl F25 (few_ok l hl) ?_ | refine clF F25 (few_ok l hl) (fun _ => by simp only [encOp, encEn, encStep, go_sem, Nat.reduceAdd, Nat.reduceMul, Nat.reduceSub, Nat.reduceEqDiff, Nat.reduceLT, Nat.reduceLeDiff, Nat.reduceBEq, reduceIte, reduceCtorEq, Int.reduceAdd, Int.reduceLT, Int.reduceLE, Int.reduceGT, Int.reduceGE, Int.reduceEq, Int.reduceNe, Int.reduceBEq, Int.reduceBNe, Int.reduceToNat, Int.reduceNeg]) ?_
  try (refine ev ?_; try exact True.intro)
  (repeat (with_reducible refine ob ?_)); refine iff_ _ (fun h => ?_) (fun h => ?_)
  · try (refine ev ?_; try exact True.intro)
  obtain ⟨q1, q2⟩ := sFew_iff (by simpa using h)
  try (refine ev ?_; try exact True.intro)
  (repeat (with_reducible refine ob ?_)); first | refine cl F15 (getNil_ok key) ?_ | refine clF F15 (getNil_ok key) (fun _ => by simp only [encOp, encEn, encStep, go_sem, Nat.reduceAdd, Nat.reduceMul, Nat.reduceSub, Nat.reduceEqDiff, Nat.reduceLT, Nat.reduceLeDiff, Nat.reduceBEq, reduceIte, reduceCtorEq, Int.reduceAdd, Int.reduceLT, Int.reduceLE, Int.reduceGT, Int.reduceGE, Int.reduceEq, Int.reduceNe, Int.reduceBEq, Int.reduceBNe, Int.reduceToNat, Int.reduceNeg]) ?_
  try (refine ev ?_; try exact True.intro)
  (repeat (with_reducible refine ob ?_)); first | refine cl F14 (to_ok l (by omega) (fun o ho => by have := (q2 o ho).2; omega)) ?_ | refine clF F14 (to_ok l (by omega) (fun o ho => by have := (q2 o ho).2; omega)) (fun _ => by simp only [encOp, encEn, encStep, go_sem, Nat.reduceAdd, Nat.reduceMul, Nat.reduceSub, Nat.reduceEqDiff, Nat.reduceLT, Nat.reduceLeDiff, Nat.reduceBEq, reduceIte, reduceCtorEq, Int.reduceAdd, Int.reduceLT, Int.reduceLE, Int.reduceGT, Int.reduceGE, Int.reduceEq, Int.reduceNe, Int.reduceBEq, Int.reduceBNe, Int.reduceToNat, Int.reduceNeg]) ?_
  try (refine ev ?_; try exact True.intro)
  (repeat (with_reducible refine ob ?_)); first | refine cl F13 (commitNil_ok l) ?_ | refine clF F13 (commitNil_ok l) (fun _ => by simp only [encOp, encEn, encStep, go_sem, Nat.reduceAdd, Nat.reduceMul, Nat.reduceSub, Nat.reduceEqDiff, Nat.reduceLT, Nat.reduceLeDiff, Nat.reduceBEq, reduceIte, reduceCtorEq, Int.reduceAdd, Int.reduceLT, Int.reduceLE, Int.reduceGT, Int.reduceGE, Int.reduceEq, Int.reduceNe, Int.reduceBEq, Int.reduceBNe, Int.reduceToNat, Int.reduceNeg]) ?_
  try (refine ev ?_; try exact True.intro)
  (repeat (with_reducible refine ob ?_)); first | refine cl F26 (syncNil_ok) ?_ | refine clF F26 (syncNil_ok) (fun _ => by simp only [encOp, encEn, encStep, go_sem, Nat.reduceAdd, Nat.reduceMul, Nat.reduceSub, Nat.reduceEqDiff, Nat.reduceLT, Nat.reduceLeDiff, Nat.reduceBEq, reduceIte, reduceCtorEq, Int.reduceAdd, Int.reduceLT, Int.reduceLE, Int.reduceGT, Int.reduceGE, Int.reduceEq, Int.reduceNe, Int.reduceBEq, Int.reduceBNe, Int.reduceToNat, Int.reduceNeg]) ?_
  try (refine ev ?_; try exact True.intro)
  (repeat (with_reducible refine ob ?_)); first | refine cl F27 (compactNil_ok) ?_ | refine clF F27 (compactNil_ok) (fun _ => by simp only [encOp, encEn, encStep, go_sem, Nat.reduceAdd, Nat.reduceMul, Nat.reduceSub, Nat.reduceEqDiff, Nat.reduceLT, Nat.reduceLeDiff, Nat.reduceBEq, reduceIte, reduceCtorEq, Int.reduceAdd, Int.reduceLT, Int.reduceLE, Int.reduceGT, Int.reduceGE, Int.reduceEq, Int.reduceNe, Int.reduceBEq, Int.reduceBNe, Int.reduceToNat, Int.reduceNeg]) ?_
  try (refine ev ?_; try exact True.intro)
  (repeat (with_reducible refine ob ?_)); first | refine cl F17 (listNil_ok key) ?_ | refine clF F17 (listNil_ok key) (fun _ => by simp only [encOp, encEn, encStep, go_sem, Nat.reduceAdd, Nat.reduceMul, Nat.reduceSub, Nat.reduceEqDiff, Nat.reduceLT, Nat.reduceLeDiff, Nat.reduceBEq, reduceIte, reduceCtorEq, Int.reduceAdd, Int.reduceLT, Int.reduceLE, Int.reduceGT, Int.reduceGE, Int.reduceEq, Int.reduceNe, Int.reduceBEq, Int.reduceBNe, Int.reduceToNat, Int.reduceNeg]) ?_
  try (refine ev ?_; try exact True.intro)
  (repeat (with_reducible refine ob ?_)); first | refine cl F28 (logNil_ok) ?_ | refine clF F28 (logNil_ok) (fun _ => by simp only [encOp, encEn, encStep, go_sem, Nat.reduceAdd, Nat.reduceMul, Nat.reduceSub, Nat.reduceEqDiff, Nat.reduceLT, Nat.reduceLeDiff, Nat.reduceBEq, reduceIte, reduceCtorEq, Int.reduceAdd, Int.reduceLT, Int.reduceLE, Int.reduceGT, Int.reduceGE, Int.reduceEq, Int.reduceNe, Int.reduceBEq, Int.reduceBNe, Int.reduceToNat, Int.reduceNeg]) ?_
  try simp only [encLog, byteRows_nil, go_sem, Nat.reduceAdd, Nat.reduceMul, Nat.reduceSub, Nat.reduceEqDiff, Nat.reduceLT, Nat.reduceLeDiff, Nat.reduceBEq, reduceIte, reduceCtorEq, Int.reduceAdd, Int.reduceLT, Int.reduceLE, Int.reduceGT, Int.reduceGE, Int.reduceEq, Int.reduceNe, Int.reduceBEq, Int.reduceBNe, Int.reduceToNat, Int.reduceNeg]
  (repeat (with_reducible refine ob ?_)); first | refine cl F29 (cloneNil_ok) ?_ | refine clF F29 (cloneNil_ok) (fun _ => by simp only [encOp, encEn, encStep, go_sem, Nat.reduceAdd, Nat.reduceMul, Nat.reduceSub, Nat.reduceEqDiff, Nat.reduceLT, Nat.reduceLeDiff, Nat.reduceBEq, reduceIte, reduceCtorEq, Int.reduceAdd, Int.reduceLT, Int.reduceLE, Int.reduceGT, Int.reduceGE, Int.reduceEq, Int.reduceNe, Int.reduceBEq, Int.reduceBNe, Int.reduceToNat, Int.reduceNeg]) ?_
  try (refine ev ?_; try exact True.intro)
end Go.Proofs.Ytinnaedmdoengaa

/- Layer 48 (store): StoreFull. -/
namespace Go.Proofs.Ytinnaedmdoengaa
open Go.Abs
set_option linter.unusedSimpArgs false
set_option linter.unusedVariables false

section
variable {P : Program} {k0 o : Nat} {p : List (Nat × Nat)} {Q : SExit → St → Prop} {st : St}
noncomputable def s16r0 : List SOper := [
  ⟨some 2, .mov (.k (.d (.str []))), none⟩]
noncomputable def s16r1 : List SOper := [
  ⟨some 3, .mov (.t 0), none⟩,
  ⟨some 4, .bin .quo (.t 3) (.k (.d (.int .i64 100))), none⟩,
  ⟨some 5, .bin .add (.k (.d (.int .i64 97))) (.t 4), none⟩,
  ⟨some 6, .conv .u8 (.t 5), none⟩,
  ⟨some 7, .mov (.t 0), none⟩,
  ⟨some 8, .bin .quo (.t 7) (.k (.d (.int .i64 10))), none⟩,
  ⟨some 9, .bin .rem (.t 8) (.k (.d (.int .i64 10))), none⟩,
  ⟨some 10, .bin .add (.k (.d (.int .i64 97))) (.t 9), none⟩,
  ⟨some 11, .conv .u8 (.t 10), none⟩,
  ⟨some 12, .mov (.t 0), none⟩,
  ⟨some 13, .bin .rem (.t 12) (.k (.d (.int .i64 10))), none⟩,
  ⟨some 14, .bin .add (.k (.d (.int .i64 97))) (.t 13), none⟩,
  ⟨some 15, .conv .u8 (.t 14), none⟩,
  ⟨some 16, .buildSlice false 1 3 [(.int .u8 0)] [(0, 1, (.t 6)), (1, 1, (.t 11)), (2, 1, (.t 15))], none⟩,
  ⟨some 17, .b2s (.t 16), none⟩,
  ⟨some 2, .mov (.t 17), none⟩]
noncomputable def s16 : SCode := (.seq (.region s16r0 0 []) (.seq (.region s16r1 0 []) .ret))
theorem e16 : AWp P k0 s16 Q st = AWp P k0 (.seq (.region s16r0 0 []) (.seq (.region s16r1 0 []) .ret)) Q st := rfl
theorem u16r0 : goReg P s16r0 o p Q st = goLit P (litOf s16r0.eq_1) o p Q st := goReg_of _
theorem u16r1 : goReg P s16r1 o p Q st = goLit P (litOf s16r1.eq_1) o p Q st := goReg_of _
attribute [go_sem] u16r0 u16r1 e16
set_option maxRecDepth 100000 in
theorem F16 : FnIs Try.prog 16 Try.f16 [] news s16 [.tmp 2] 18 := ⟨follows, Try.func16, by kernel_rfl, by kernel_rfl, by kernel_rfl, by kernel_rfl⟩

end

def nameB (n : Nat) : List UInt8 := [UInt8.ofNat (97 + n / 100), UInt8.ofNat (97 + n / 10 % 10), UInt8.ofNat (97 + n % 10)]
theorem u8_wrap (n : Nat) (h : n < 256) : IntKind.u8.wrap (n : Int) = ((UInt8.ofNat n).toNat : Int) := by
  rw [wrap_u8]
  have : (UInt8.ofNat n).toNat = n := by simp [UInt8.toNat_ofNat, Nat.mod_eq_of_lt h]
  rw [this]; omega

theorem name_ok (n : Nat) (hn : n ≤ 1000) : ACall Try.prog 16 [.d (.int .i64 n)] [] (.d (.str (nameB n))) [] := by
  refine F16.go ?_
  have e1 : IntKind.i64.wrap ((n : Int).tdiv 100) = ((n / 100 : Nat) : Int) := by rw [show ((n : Int).tdiv 100) = ((n / 100 : Nat) : Int) from by rw [Int.tdiv_eq_ediv_of_nonneg (by omega)]; rfl]; exact wrap_i64 (by omega) (by omega)
  have e2 : IntKind.i64.wrap ((n : Int).tdiv 10) = ((n / 10 : Nat) : Int) := by rw [show ((n : Int).tdiv 10) = ((n / 10 : Nat) : Int) from by rw [Int.tdiv_eq_ediv_of_nonneg (by omega)]; rfl]; exact wrap_i64 (by omega) (by omega)
  have e3 : ∀ m : Nat, ((m : Nat) : Int).tmod 10 = ((m % 10 : Nat) : Int) := fun m => by rw [Int.tmod_eq_emod_of_nonneg (by omega)]; rfl
  have e4 : ∀ m : Nat, m ≤ 100 → IntKind.u8.wrap (IntKind.i64.wrap (97 + ((m : Nat) : Int))) = ((UInt8.ofNat (97 + m)).toNat : Int) := fun m hm => by
    rw [wrap_i64 (by omega) (by omega), ← u8_wrap _ (by omega)]; rfl
  try simp only [e1, e2, e3 n, e3 (n / 10), e4 (n / 100) (by omega), e4 (n / 10 % 10) (by omega), e4 (n % 10) (by omega), go_sem, Nat.reduceAdd, Nat.reduceMul, Nat.reduceSub, Nat.reduceEqDiff, Nat.reduceLT, Nat.reduceLeDiff, Nat.reduceBEq, reduceIte, reduceCtorEq, Int.reduceAdd, Int.reduceLT, Int.reduceLE, Int.reduceGT, Int.reduceGE, Int.reduceEq, Int.reduceNe, Int.reduceBEq, Int.reduceBNe, Int.reduceToNat, Int.reduceNeg]
  exact ⟨⟨nameB n, rfl⟩, rowsBytes_rows (nameB n)⟩

/-- Transactions that set new keys. -/
theorem mPut_new {k v : List UInt8} {m : Cont} (h : k ∉ m.l.map (·.2.1)) : (mPut k v m).l = m.l ++ [(m.c, k, v)] := by
  unfold mPut
  have : m.l.findIdx? (hasKey k) = none := by
    rw [List.findIdx?_eq_none_iff]
    intro x hx
    have : k ≠ x.2.1 := fun e => h (List.mem_map.2 ⟨x, hx, e.symm⟩)
    simpa [hasKey] using this
  rw [this]
def putOp (k : List UInt8) : OpS := ⟨k, false, []⟩
theorem apply_new : ∀ (ks : List (List UInt8)) (m : Cont), (m.l.map (·.2.1) ++ ks).Nodup → m.l.length + ks.length ≤ 400 →
    (mApply m (ks.map putOp)).2 = true ∧ (mApply m (ks.map putOp)).1.l.map (·.2.1) = m.l.map (·.2.1) ++ ks
  | [], m, _, _ => by simp [mApply]
  | k :: ks, m, hn, hl => by
    have hk : k ∉ m.l.map (·.2.1) := fun h => by
      have := (List.nodup_append.1 hn).2.2 k h k (List.mem_cons_self ..)
      exact this rfl
    have hp := mPut_new (v := []) hk
    have e1 : (mPut k [] m).l.map (·.2.1) = m.l.map (·.2.1) ++ [k] := by rw [hp, List.map_append]; rfl
    have ih := apply_new ks (mPut k [] m) (by rw [e1, List.append_assoc]; exact hn) (by rw [hp]; simp only [List.length_append, List.length_cons, List.length_nil] at hl ⊢; omega)
    rw [e1, List.append_assoc] at ih
    simp only [List.map_cons, putOp, mApply, Bool.false_eq_true, if_false]
    rw [if_neg (by rw [hp]; simp only [List.length_append, List.length_cons, List.length_nil] at hl ⊢; omega)]
    exact ih
theorem nameB_inj {a b : Nat} (ha : a ≤ 400) (hb : b ≤ 400) (h : nameB a = nameB b) : a = b := by
  simp only [nameB, List.cons.injEq, and_true] at h
  obtain ⟨h1, h2, h3⟩ := h
  have k1 := congrArg UInt8.toNat h1
  have k2 := congrArg UInt8.toNat h2
  have k3 := congrArg UInt8.toNat h3
  simp only [UInt8.toNat_ofNat'] at k1 k2 k3
  omega
theorem names_nodup (n : Nat) (hn : n ≤ 401) : ((List.range n).map nameB).Nodup := by
  refine List.Pairwise.map _ (R := fun a b => a < b ∧ b < n) (fun a b hab h => ?_) ?_
  · have := nameB_inj (by omega) (by omega) h
    omega
  · rw [List.pairwise_iff_getElem]
    intro i j hi hj hij
    simp only [List.length_range] at hi hj
    simp only [List.getElem_range]
    omega
theorem encode_small {l : List OpS} (h0 : l ≠ []) (hl : l.length ≤ 20) (h : ∀ o ∈ l, o.key.length = 3 ∧ o.val.length ≤ 1 ∧ (o.del = true → o.val = [])) : (sEncode l).2 = 0 := by
  have hp : ∀ o ∈ l, sProper o = true := fun o ho => by
    obtain ⟨h1, h2, h3⟩ := h o ho
    exact sProper_iff.2 ⟨by omega, by omega, by omega, fun hd => by rw [h3 hd]; rfl⟩
  have hw : (wOps l).length ≤ 2000 := by
    have h1 := wInt_len (small_I64 (n := l.length) (by omega))
    have h2 : (l.flatMap wOp).length ≤ l.length * 25 := by
      clear hl hp h0 h1
      induction l with
      | nil => simp
      | cons o l ih =>
        have h3 := ih fun x hx => h x (List.mem_cons_of_mem _ hx)
        obtain ⟨k1, k2, _⟩ := h o (List.mem_cons_self ..)
        have k3 := wText_len o.key (by omega)
        have k4 := wText_len o.val (by omega)
        simp only [List.flatMap_cons, List.length_append, List.length_cons, wOp, List.length_nil]
        omega
    simp only [wOps, List.length_append]; omega
  unfold sEncode
  rw [if_neg, if_neg]
  · simp only [Bool.or_eq_true, decide_eq_true_eq, not_or]; omega
  · simp only [Bool.or_eq_true, decide_eq_true_eq, not_or, List.any_eq_true, not_exists, not_and]
    exact ⟨by simpa using h0, fun o ho => by simp [hp o ho]⟩
theorem commit_of {s : Sto} {l : List OpS} (h : (sEncode l).2 = 0) : sCommit s l = if (mApply s.m l).2 = false then (s, 28) else (⟨wAppend s.file (sEncode l).1, s.synced, (mApply s.m l).1⟩, 0) := by
  unfold sCommit
  rw [if_neg (by simp [h])]

/-- The store behind the first n keys. -/
def FullTo (n : Nat) (s : Sto) : Prop := s.m.l.map (·.2.1) = (List.range n).map nameB
def opsAt (i : Nat) : List OpS := ((List.range 20).map fun k => nameB (i + k)).map putOp
theorem full_step {i : Nat} {s : Sto} (h : FullTo i s) (hi : i + 20 ≤ 400) : (sCommit s (opsAt i)).2 = 0 ∧ FullTo (i + 20) (sCommit s (opsAt i)).1 := by
  have hl : s.m.l.length = i := by have := congrArg List.length h; simpa [FullTo] using this
  have hr : List.range (i + 20) = List.range i ++ (List.range 20).map (i + ·) := List.range_add
  have ha := apply_new ((List.range 20).map fun k => nameB (i + k)) s.m (by
    rw [h]
    have := names_nodup (i + 20) (by omega)
    rw [hr, List.map_append, List.map_map] at this
    exact this) (by simp only [List.length_map, List.length_range]; omega)
  have he : (sEncode (opsAt i)).2 = 0 := encode_small (by simp [opsAt]) (by simp [opsAt]) fun o ho => by
    obtain ⟨k, hk, rfl⟩ := List.mem_map.1 ho
    obtain ⟨j, _, rfl⟩ := List.mem_map.1 hk
    exact ⟨rfl, by simp [putOp], fun _ => rfl⟩
  rw [commit_of he, if_neg (by rw [show opsAt i = ((List.range 20).map fun k => nameB (i + k)).map putOp from rfl, ha.1]; simp)]
  refine ⟨rfl, ?_⟩
  unfold FullTo
  rw [hr, List.map_append, List.map_map]
  have := ha.2
  rw [h] at this
  exact this

theorem mPut_old {k v : List UInt8} {m : Cont} (h : k ∈ m.l.map (·.2.1)) : (mPut k v m).l.map (·.2.1) = m.l.map (·.2.1) := by
  unfold mPut
  cases hf : m.l.findIdx? (hasKey k) with
  | none =>
    rw [List.findIdx?_eq_none_iff] at hf
    obtain ⟨x, hx, rfl⟩ := List.mem_map.1 h
    have := hf x hx
    simp [hasKey] at this
  | some j => exact (map_modify hf).1
theorem mDel_old {k : List UInt8} {m : Cont} (h : k ∈ m.l.map (·.2.1)) : (mDel k m).l.length + 1 = m.l.length := by
  unfold mDel
  cases hf : m.l.findIdx? (hasKey k) with
  | none =>
    rw [List.findIdx?_eq_none_iff] at hf
    obtain ⟨x, hx, rfl⟩ := List.mem_map.1 h
    have := hf x hx
    simp [hasKey] at this
  | some j =>
    have hj := (List.findIdx?_eq_some_iff_findIdx_eq.1 hf).1
    simp only [List.length_eraseIdx, hj, if_true]; omega
def opsE : List OpS := [putOp (nameB 400)]
def opsF (n : Nat) : List OpS := [putOp (nameB 400), ⟨nameB n, true, []⟩]
def opsG (n : Nat) : List OpS := [⟨nameB n, false, [1]⟩]
def opsH (n : Nat) : List OpS := [⟨nameB n, true, []⟩, putOp (nameB 400)]
theorem full_end {s : Sto} (hs : s.m.Ok) (h : FullTo 400 s) {n : Nat} (hn : n < 400) :
    (sCommit s opsE).2 = 28 ∧ (sCommit s (opsF n)).2 = 28 ∧ (sCommit s (opsG n)).2 = 0 ∧ (sCommit (sCommit s (opsG n)).1 (opsH n)).2 = 0 ∧
    mGet (nameB n) (sCommit (sCommit s (opsG n)).1 (opsH n)).1.m = none ∧ (sCommit (sCommit s (opsG n)).1 (opsH n)).1.m.l.length = 400 := by
  have hl : s.m.l.length = 400 := by have := congrArg List.length h; simpa [FullTo] using this
  have hold : nameB n ∈ s.m.l.map (·.2.1) := by rw [h]; exact List.mem_map.2 ⟨n, by simpa using hn, rfl⟩
  have hnew : nameB 400 ∉ s.m.l.map (·.2.1) := by
    rw [h]; intro hm
    obtain ⟨k, hk, he⟩ := List.mem_map.1 hm
    have hk' : k < 400 := by simpa using hk
    have := nameB_inj (by omega) (by omega) he
    omega
  have hne : nameB 400 ≠ nameB n := fun he => hnew (he ▸ hold)
  have eE : (sEncode opsE).2 = 0 := encode_small (by simp [opsE]) (by simp [opsE]) fun o ho => by simp [opsE] at ho; subst ho; exact ⟨rfl, by simp [putOp], fun _ => rfl⟩
  have eF : (sEncode (opsF n)).2 = 0 := encode_small (by simp [opsF]) (by simp [opsF]) fun o ho => by simp [opsF] at ho; rcases ho with rfl | rfl <;> exact ⟨rfl, by simp [putOp], fun _ => rfl⟩
  have eG : (sEncode (opsG n)).2 = 0 := encode_small (by simp [opsG]) (by simp [opsG]) fun o ho => by simp [opsG] at ho; subst ho; exact ⟨rfl, by simp, fun h => by cases h⟩
  have eH : (sEncode (opsH n)).2 = 0 := encode_small (by simp [opsH]) (by simp [opsH]) fun o ho => by simp [opsH] at ho; rcases ho with rfl | rfl <;> exact ⟨rfl, by simp [putOp], fun _ => rfl⟩
  have hp := mPut_new (v := []) hnew
  have hpl : (mPut (nameB 400) [] s.m).l.length > 400 := by rw [hp]; simp; omega
  have aE : (mApply s.m opsE).2 = false := by simp only [opsE, putOp, mApply, Bool.false_eq_true, if_false, if_pos hpl]
  have aF : (mApply s.m (opsF n)).2 = false := by simp only [opsF, putOp, mApply, Bool.false_eq_true, if_false, if_pos hpl]
  have kG : (mPut (nameB n) [1] s.m).l.map (·.2.1) = s.m.l.map (·.2.1) := mPut_old hold
  have lG : (mPut (nameB n) [1] s.m).l.length = 400 := by have := congrArg List.length kG; simpa [hl] using this
  have aG : mApply s.m (opsG n) = (mPut (nameB n) [1] s.m, true) := by
    simp only [opsG, mApply, Bool.false_eq_true, if_false]
    rw [if_neg (by omega)]
  have cG : sCommit s (opsG n) = (⟨wAppend s.file (sEncode (opsG n)).1, s.synced, mPut (nameB n) [1] s.m⟩, 0) := by
    rw [commit_of eG, aG]; rfl
  have okG := mPut_ok hs (nameB n) [1]
  have kD := mDel_old (k := nameB n) (m := mPut (nameB n) [1] s.m) (by rw [kG]; exact hold)
  have hnewD : nameB 400 ∉ (mDel (nameB n) (mPut (nameB n) [1] s.m)).l.map (·.2.1) := fun hm => by
    have := ((mDel_sub (nameB n) (mPut (nameB n) [1] s.m)).map (·.2.1)).subset hm
    rw [kG] at this
    exact hnew this
  have hp2 := mPut_new (v := []) hnewD
  have lH : (mPut (nameB 400) [] (mDel (nameB n) (mPut (nameB n) [1] s.m))).l.length = 400 := by rw [hp2]; simp; omega
  have aH : mApply (mPut (nameB n) [1] s.m) (opsH n) = (mPut (nameB 400) [] (mDel (nameB n) (mPut (nameB n) [1] s.m)), true) := by
    simp only [opsH, putOp, mApply, if_true, Bool.false_eq_true, if_false]
    rw [if_neg (by omega)]
  refine ⟨by rw [commit_of eE, aE]; rfl, by rw [commit_of eF, aF]; rfl, by rw [cG], ?_⟩
  rw [cG, commit_of eH]
  simp only [aH, Bool.true_eq_false, if_false]
  refine ⟨trivial, ?_, lH⟩
  rw [mGet_put, if_neg (Ne.symm hne), mGet_del okG, if_pos rfl]

section
variable {P : Program} {k0 o : Nat} {p : List (Nat × Nat)} {Q : SExit → St → Prop} {st : St}
noncomputable def s4mr0 : List SOper := [
  ⟨some 2, .mov (.k (.d (.bool false))), none⟩]
noncomputable def s4mr1 : List SOper := [
  ⟨some 15, .call (.k (.d (.func (.func 10) [] []))) [], none⟩,
  ⟨some 16, .not (.t 15), none⟩]
noncomputable def s4mr2 : List SOper := [
  ⟨some 2, .mov (.k (.d (.bool false))), none⟩]
noncomputable def s4mr3 : List SOper := [
  ⟨some 17, .call (.k (.d (.func (.func 12) [] []))) [], none⟩,
  ⟨some 3, .mov (.t 17), none⟩]
noncomputable def s4mr4 : List SOper := [
  ⟨some 4, .mov (.k (.d (.int .i64 0))), none⟩]
noncomputable def s4mr5 : List SOper := [
  ⟨some 18, .mov (.t 4), none⟩,
  ⟨some 19, .bin .lss (.t 18) (.k (.d (.int .i64 400))), none⟩]
noncomputable def s4mr6 : List SOper := [
  ⟨some 5, .mov (.k (.d .nilsl)), none⟩]
noncomputable def s4mr7 : List SOper := [
  ⟨some 6, .mov (.k (.d (.int .i64 0))), none⟩]
noncomputable def s4mr8 : List SOper := [
  ⟨some 22, .mov (.t 6), none⟩,
  ⟨some 23, .bin .lss (.t 22) (.k (.d (.int .i64 20))), none⟩]
noncomputable def s4mr9 : List SOper := [
  ⟨some 26, .mov (.t 5), none⟩,
  ⟨some 27, .mov (.t 4), none⟩,
  ⟨some 28, .mov (.t 6), none⟩,
  ⟨some 29, .bin .add (.t 27) (.t 28), none⟩,
  ⟨some 30, .call (.k (.d (.func (.func 16) [] []))) [(.t 29)], none⟩,
  ⟨some 31, .build [(.str []), (.bool false), .nilsl] [(0, 1, (.t 30))], none⟩,
  ⟨some 32, .buildSlice false 3 1 [(.str []), (.bool false), .nilsl] [(0, 3, (.t 31))], none⟩,
  ⟨some 33, .append false 3 48 (.t 26) (.t 32), none⟩,
  ⟨some 5, .mov (.t 33), none⟩]
noncomputable def s4mr10 : List SOper := [
  ⟨some 24, .mov (.t 6), none⟩,
  ⟨some 25, .bin .add (.t 24) (.k (.d (.int .i64 1))), none⟩,
  ⟨some 6, .mov (.t 25), none⟩]
noncomputable def s4ml11 : SCode := (.seq (.seq (.region s4mr8 0 []) (.cond (.t 23) .skip (.exit 2))) (.seq (.block 3 (.region s4mr9 0 [])) (.region s4mr10 0 [])))
theorem e4ml11 : AWp P k0 s4ml11 Q st = AWp P k0 (.seq (.seq (.region s4mr8 0 []) (.cond (.t 23) .skip (.exit 2))) (.seq (.block 3 (.region s4mr9 0 [])) (.region s4mr10 0 []))) Q st := rfl
noncomputable def s4mr12 : List SOper := [
  ⟨some 34, .mov (.t 3), none⟩,
  ⟨some 35, .mov (.t 5), none⟩,
  ⟨some 36, .call (.k (.d (.func (.func 13) [] []))) [(.t 34), (.t 35)], none⟩,
  ⟨some 37, .bin .neq (.t 36) (.k (.d (.int .i64 0))), none⟩]
noncomputable def s4mr13 : List SOper := [
  ⟨some 2, .mov (.k (.d (.bool false))), none⟩]
noncomputable def s4mr14 : List SOper := [
  ⟨some 20, .mov (.t 4), none⟩,
  ⟨some 21, .bin .add (.t 20) (.k (.d (.int .i64 20))), none⟩,
  ⟨some 4, .mov (.t 21), none⟩]
noncomputable def s4ml15 : SCode := (.seq (.seq (.region s4mr5 0 []) (.cond (.t 19) .skip (.exit 0))) (.seq (.block 1 (.seq (.region s4mr6 0 []) (.seq (.seq (.region s4mr7 0 []) (.block 2 (.loop s4ml11))) (.seq (.region s4mr12 1 []) (.cond (.t 37) (.seq (.region s4mr13 0 []) .ret) .skip))))) (.pause (.region s4mr14 0 []))))
theorem e4ml15 : AWp P k0 s4ml15 Q st = AWp P k0 (.seq (.seq (.region s4mr5 0 []) (.cond (.t 19) .skip (.exit 0))) (.seq (.block 1 (.seq (.region s4mr6 0 []) (.seq (.seq (.region s4mr7 0 []) (.block 2 (.loop s4ml11))) (.seq (.region s4mr12 1 []) (.cond (.t 37) (.seq (.region s4mr13 0 []) .ret) .skip))))) (.pause (.region s4mr14 0 [])))) Q st := rfl
noncomputable def s4mr16 : List SOper := [
  ⟨some 38, .mov (.t 0), none⟩,
  ⟨some 39, .conv .i64 (.t 38), none⟩,
  ⟨some 40, .call (.k (.d (.func (.func 16) [] []))) [(.t 39)], none⟩,
  ⟨some 41, .call (.k (.d (.func (.func 16) [] []))) [(.k (.d (.int .i64 400)))], none⟩,
  ⟨some 7, .mov (.t 40), none⟩,
  ⟨some 8, .mov (.t 41), none⟩]
noncomputable def s4mr17 : List SOper := [
  ⟨some 42, .mov (.t 3), none⟩,
  ⟨some 43, .mov (.t 8), none⟩,
  ⟨some 44, .build [(.str []), (.bool false), .nilsl] [(0, 1, (.t 43))], none⟩,
  ⟨some 45, .buildSlice false 3 1 [(.str []), (.bool false), .nilsl] [(0, 3, (.t 44))], none⟩,
  ⟨some 46, .call (.k (.d (.func (.func 13) [] []))) [(.t 42), (.t 45)], none⟩,
  ⟨some 9, .mov (.t 46), none⟩]
noncomputable def s4mr18 : List SOper := [
  ⟨some 47, .mov (.t 3), none⟩,
  ⟨some 48, .mov (.t 8), none⟩,
  ⟨some 49, .build [(.str []), (.bool false), .nilsl] [(0, 1, (.t 48))], none⟩,
  ⟨some 50, .mov (.t 7), none⟩,
  ⟨some 51, .build [(.str []), (.bool false), .nilsl] [(0, 1, (.t 50)), (1, 1, (.k (.d (.bool true))))], none⟩,
  ⟨some 52, .buildSlice false 3 2 [(.str []), (.bool false), .nilsl] [(0, 3, (.t 49)), (3, 3, (.t 51))], none⟩,
  ⟨some 53, .call (.k (.d (.func (.func 13) [] []))) [(.t 47), (.t 52)], none⟩,
  ⟨some 10, .mov (.t 53), none⟩]
noncomputable def s4mr19 : List SOper := [
  ⟨some 54, .mov (.t 3), none⟩,
  ⟨some 55, .mov (.t 7), none⟩,
  ⟨some 56, .buildSlice false 1 1 [(.int .u8 0)] [(0, 1, (.k (.d (.int .u8 1))))], none⟩,
  ⟨some 57, .build [(.str []), (.bool false), .nilsl] [(0, 1, (.t 55)), (2, 1, (.t 56))], none⟩,
  ⟨some 58, .buildSlice false 3 1 [(.str []), (.bool false), .nilsl] [(0, 3, (.t 57))], none⟩,
  ⟨some 59, .call (.k (.d (.func (.func 13) [] []))) [(.t 54), (.t 58)], none⟩,
  ⟨some 11, .mov (.t 59), none⟩]
noncomputable def s4mr20 : List SOper := [
  ⟨some 60, .mov (.t 3), none⟩,
  ⟨some 61, .mov (.t 7), none⟩,
  ⟨some 62, .build [(.str []), (.bool false), .nilsl] [(0, 1, (.t 61)), (1, 1, (.k (.d (.bool true))))], none⟩,
  ⟨some 63, .mov (.t 8), none⟩,
  ⟨some 64, .build [(.str []), (.bool false), .nilsl] [(0, 1, (.t 63))], none⟩,
  ⟨some 65, .buildSlice false 3 2 [(.str []), (.bool false), .nilsl] [(0, 3, (.t 62)), (3, 3, (.t 64))], none⟩,
  ⟨some 66, .call (.k (.d (.func (.func 13) [] []))) [(.t 60), (.t 65)], none⟩,
  ⟨some 12, .mov (.t 66), none⟩]
noncomputable def s4mr21 : List SOper := [
  ⟨some 68, .mov (.t 3), none⟩,
  ⟨some 69, .mov (.t 7), none⟩,
  ⟨some 70, .call (.k (.d (.func (.func 15) [] []))) [(.t 68), (.t 69)], none⟩,
  ⟨some 67, .mov (.t 70), none⟩,
  ⟨some 71, .extract 0 (.t 67), none⟩,
  ⟨some 72, .extract 1 (.t 67), none⟩,
  ⟨some 13, .mov (.t 71), none⟩,
  ⟨some 14, .mov (.t 72), none⟩]
noncomputable def s4mr22 : List SOper := [
  ⟨some 73, .mov (.t 9), none⟩,
  ⟨some 74, .bin .eql (.t 73) (.k (.d (.int .i64 28))), none⟩,
  ⟨some 75, .mov (.t 74), none⟩,
  ⟨some 76, .mov (.t 10), some (75, true)⟩,
  ⟨some 77, .bin .eql (.t 76) (.k (.d (.int .i64 28))), some (75, true)⟩,
  ⟨some 78, .pick (.t 75) (.t 77) (.k (.d (.bool false))), none⟩,
  ⟨some 79, .mov (.t 78), none⟩,
  ⟨some 80, .mov (.t 11), some (79, true)⟩,
  ⟨some 81, .bin .eql (.t 80) (.k (.d (.int .i64 0))), some (79, true)⟩,
  ⟨some 82, .pick (.t 79) (.t 81) (.k (.d (.bool false))), none⟩,
  ⟨some 83, .mov (.t 82), none⟩,
  ⟨some 84, .mov (.t 12), some (83, true)⟩,
  ⟨some 85, .bin .eql (.t 84) (.k (.d (.int .i64 0))), some (83, true)⟩,
  ⟨some 86, .pick (.t 83) (.t 85) (.k (.d (.bool false))), none⟩,
  ⟨some 87, .mov (.t 86), none⟩,
  ⟨some 88, .mov (.t 14), some (87, true)⟩,
  ⟨some 89, .not (.t 88), some (87, true)⟩,
  ⟨some 90, .pick (.t 87) (.t 89) (.k (.d (.bool false))), none⟩,
  ⟨some 91, .mov (.t 90), none⟩,
  ⟨some 92, .mov (.t 3), some (91, true)⟩,
  ⟨some 93, .call (.k (.d (.func (.func 17) [] []))) [(.t 92), (.k (.d (.str [])))], some (91, true)⟩,
  ⟨some 94, .len (.t 93), some (91, true)⟩,
  ⟨some 95, .bin .eql (.t 94) (.k (.d (.int .i64 400))), some (91, true)⟩,
  ⟨some 96, .pick (.t 91) (.t 95) (.k (.d (.bool false))), none⟩,
  ⟨some 2, .mov (.t 96), none⟩]
noncomputable def s4m : SCode := (.seq (.region s4mr0 0 []) (.seq (.seq (.region s4mr1 0 []) (.cond (.t 16) (.seq (.region s4mr2 0 []) .ret) .skip)) (.seq (.region s4mr3 2 []) (.seq (.seq (.region s4mr4 0 []) (.block 0 (.loop s4ml15))) (.seq (.region s4mr16 0 []) (.seq (.region s4mr17 1 []) (.seq (.region s4mr18 1 []) (.seq (.region s4mr19 1 []) (.seq (.region s4mr20 1 []) (.seq (.region s4mr21 0 []) (.seq (.region s4mr22 0 []) .ret)))))))))))
theorem e4m : AWp P k0 s4m Q st = AWp P k0 (.seq (.region s4mr0 0 []) (.seq (.seq (.region s4mr1 0 []) (.cond (.t 16) (.seq (.region s4mr2 0 []) .ret) .skip)) (.seq (.region s4mr3 2 []) (.seq (.seq (.region s4mr4 0 []) (.block 0 (.loop s4ml15))) (.seq (.region s4mr16 0 []) (.seq (.region s4mr17 1 []) (.seq (.region s4mr18 1 []) (.seq (.region s4mr19 1 []) (.seq (.region s4mr20 1 []) (.seq (.region s4mr21 0 []) (.seq (.region s4mr22 0 []) .ret))))))))))) Q st := rfl
theorem u4mr0 : goReg P s4mr0 o p Q st = goLit P (litOf s4mr0.eq_1) o p Q st := goReg_of _
theorem u4mr1 : goReg P s4mr1 o p Q st = goLit P (litOf s4mr1.eq_1) o p Q st := goReg_of _
theorem u4mr2 : goReg P s4mr2 o p Q st = goLit P (litOf s4mr2.eq_1) o p Q st := goReg_of _
theorem u4mr3 : goReg P s4mr3 o p Q st = goLit P (litOf s4mr3.eq_1) o p Q st := goReg_of _
theorem u4mr4 : goReg P s4mr4 o p Q st = goLit P (litOf s4mr4.eq_1) o p Q st := goReg_of _
theorem u4mr5 : goReg P s4mr5 o p Q st = goLit P (litOf s4mr5.eq_1) o p Q st := goReg_of _
theorem u4mr6 : goReg P s4mr6 o p Q st = goLit P (litOf s4mr6.eq_1) o p Q st := goReg_of _
theorem u4mr7 : goReg P s4mr7 o p Q st = goLit P (litOf s4mr7.eq_1) o p Q st := goReg_of _
theorem u4mr8 : goReg P s4mr8 o p Q st = goLit P (litOf s4mr8.eq_1) o p Q st := goReg_of _
theorem u4mr9 : goReg P s4mr9 o p Q st = goLit P (litOf s4mr9.eq_1) o p Q st := goReg_of _
theorem u4mr10 : goReg P s4mr10 o p Q st = goLit P (litOf s4mr10.eq_1) o p Q st := goReg_of _
theorem u4mr12 : goReg P s4mr12 o p Q st = goLit P (litOf s4mr12.eq_1) o p Q st := goReg_of _
theorem u4mr13 : goReg P s4mr13 o p Q st = goLit P (litOf s4mr13.eq_1) o p Q st := goReg_of _
theorem u4mr14 : goReg P s4mr14 o p Q st = goLit P (litOf s4mr14.eq_1) o p Q st := goReg_of _
theorem u4mr16 : goReg P s4mr16 o p Q st = goLit P (litOf s4mr16.eq_1) o p Q st := goReg_of _
theorem u4mr17 : goReg P s4mr17 o p Q st = goLit P (litOf s4mr17.eq_1) o p Q st := goReg_of _
theorem u4mr18 : goReg P s4mr18 o p Q st = goLit P (litOf s4mr18.eq_1) o p Q st := goReg_of _
theorem u4mr19 : goReg P s4mr19 o p Q st = goLit P (litOf s4mr19.eq_1) o p Q st := goReg_of _
theorem u4mr20 : goReg P s4mr20 o p Q st = goLit P (litOf s4mr20.eq_1) o p Q st := goReg_of _
theorem u4mr21 : goReg P s4mr21 o p Q st = goLit P (litOf s4mr21.eq_1) o p Q st := goReg_of _
theorem u4mr22 : goReg P s4mr22 o p Q st = goLit P (litOf s4mr22.eq_1) o p Q st := goReg_of _
attribute [go_sem] u4mr0 u4mr1 u4mr2 u4mr3 u4mr4 u4mr5 u4mr6 u4mr7 u4mr8 u4mr9 u4mr10 e4ml11 u4mr12 u4mr13 u4mr14 e4ml15 u4mr16 u4mr17 u4mr18 u4mr19 u4mr20 u4mr21 u4mr22 e4m
set_option maxRecDepth 100000 in
theorem F4m : FnIs Try.prog 4 Try.f4 [] news s4m [.tmp 2] 97 := ⟨follows, Try.func4, by kernel_rfl, by kernel_rfl, by kernel_rfl, by kernel_rfl⟩

end

def Sfull (i : { x : Nat × Sto // x.1 ≤ 20 ∧ x.2.Ok x.1 ∧ FullTo (20 * x.1) x.2 }) (n : Nat) : St :=
  ⟨[(0, true, .d (.int .u8 (n : Nat))), (3, true, .d (.ptr 1 0)), (4, true, .d (.int .i64 (20 * i.val.1 : Nat)))], [mapO i.val.2.m, stoO i.val.2 0], [], 1⟩
def SfullI (i n : Nat) (s : Sto) (k : { k : Nat // k ≤ 20 }) : St :=
  ⟨[(0, true, .d (.int .u8 (n : Nat))), (3, true, .d (.ptr 1 0)), (4, true, .d (.int .i64 (20 * i : Nat))), (5, true, .own 0 3 (((opsAt (20 * i)).take k.val).map encOp)), (6, true, .d (.int .i64 (k.val : Nat)))], [mapO s.m, stoO s 0], [0], 1⟩
theorem opsAt_len (i : Nat) : (opsAt i).length = 20 := by simp [opsAt]
theorem opsAt_get (i k : Nat) (hk : k < (opsAt i).length) : (opsAt i)[k] = putOp (nameB (i + k)) := by simp [opsAt]
theorem encPut (k : List UInt8) : encOp (putOp k) = [.str k, .bool false, .sl 1 []] := rfl

set_option maxRecDepth 10000 in
theorem storeFull_ok (n : Nat) (hn : n < 256) : ACall Try.prog 4 [.d (.int .u8 (n : Nat))] [] (.d (.bool true)) [] := by
  refine F4m.go ?_
  try (refine ev ?_; try exact True.intro)
  (repeat (with_reducible refine ob ?_)); first | refine cl F10 (awake48_ok) ?_ | refine clF F10 (awake48_ok) (fun _ => by simp only [encOp, encEn, encStep, go_sem, Nat.reduceAdd, Nat.reduceMul, Nat.reduceSub, Nat.reduceEqDiff, Nat.reduceLT, Nat.reduceLeDiff, Nat.reduceBEq, reduceIte, reduceCtorEq, Int.reduceAdd, Int.reduceLT, Int.reduceLE, Int.reduceGT, Int.reduceGE, Int.reduceEq, Int.reduceNe, Int.reduceBEq, Int.reduceBNe, Int.reduceToNat, Int.reduceNeg]) ?_
  try (refine ev ?_; try exact True.intro)
  (repeat (with_reducible refine ob ?_)); refine no_ ?_
  try (refine ev ?_; try exact True.intro)
  have k0 := newM_ok
  simp only [stoO, mapO] at k0
  refine clO [0, 1] F12 k0 ?_
  try (refine ev ?_; try exact True.intro)
  refine AWp_loop (fun i => Sfull i n) (fun i => 20 - i.val.1) ⟨(0, newS), Nat.zero_le _, newS_ok 0, rfl⟩ ?_ (fun i => ?_)
  · try simp only [Sfull, stoO, mapO, Nat.mul_zero, Int.ofNat_zero, go_sem, Nat.reduceAdd, Nat.reduceMul, Nat.reduceSub, Nat.reduceEqDiff, Nat.reduceLT, Nat.reduceLeDiff, Nat.reduceBEq, reduceIte, reduceCtorEq, Int.reduceAdd, Int.reduceLT, Int.reduceLE, Int.reduceGT, Int.reduceGE, Int.reduceEq, Int.reduceNe, Int.reduceBEq, Int.reduceBNe, Int.reduceToNat, Int.reduceNeg]
  obtain ⟨⟨i, s⟩, hi, hs, hg⟩ := i
  simp only at hi hs hg
  try simp only [Sfull, stoO, mapO, go_sem, Nat.reduceAdd, Nat.reduceMul, Nat.reduceSub, Nat.reduceEqDiff, Nat.reduceLT, Nat.reduceLeDiff, Nat.reduceBEq, reduceIte, reduceCtorEq, Int.reduceAdd, Int.reduceLT, Int.reduceLE, Int.reduceGT, Int.reduceGE, Int.reduceEq, Int.reduceNe, Int.reduceBEq, Int.reduceBNe, Int.reduceToNat, Int.reduceNeg]
  (repeat (with_reducible refine ob ?_)); refine iff_ _ (fun h => ?_) (fun h => ?_)
  · have hil : i < 20 := by simp at h; omega
    try (refine ev ?_; try exact True.intro)
    refine AWp_loop (SfullI i n s) (fun k => 20 - k.val) ⟨0, by omega⟩ ?_ (fun k => ?_)
    · try simp only [SfullI, stoO, mapO, List.take_zero, Int.ofNat_zero, go_sem, Nat.reduceAdd, Nat.reduceMul, Nat.reduceSub, Nat.reduceEqDiff, Nat.reduceLT, Nat.reduceLeDiff, Nat.reduceBEq, reduceIte, reduceCtorEq, Int.reduceAdd, Int.reduceLT, Int.reduceLE, Int.reduceGT, Int.reduceGE, Int.reduceEq, Int.reduceNe, Int.reduceBEq, Int.reduceBNe, Int.reduceToNat, Int.reduceNeg]
    obtain ⟨k, hk⟩ := k
    try simp only [SfullI, stoO, mapO, go_sem, Nat.reduceAdd, Nat.reduceMul, Nat.reduceSub, Nat.reduceEqDiff, Nat.reduceLT, Nat.reduceLeDiff, Nat.reduceBEq, reduceIte, reduceCtorEq, Int.reduceAdd, Int.reduceLT, Int.reduceLE, Int.reduceGT, Int.reduceGE, Int.reduceEq, Int.reduceNe, Int.reduceBEq, Int.reduceBNe, Int.reduceToNat, Int.reduceNeg]
    refine iff_ _ (fun hc => ?_) (fun hc => ?_)
    · have hkl : k < 20 := by simp at hc; omega
      have hw : IntKind.i64.wrap (((20 * i : Nat) : Int) + ((k : Nat) : Int)) = ((20 * i + k : Nat) : Int) := by rw [wrap_i64 (by omega) (by omega)]; omega
      try simp only [hw, go_sem, Nat.reduceAdd, Nat.reduceMul, Nat.reduceSub, Nat.reduceEqDiff, Nat.reduceLT, Nat.reduceLeDiff, Nat.reduceBEq, reduceIte, reduceCtorEq, Int.reduceAdd, Int.reduceLT, Int.reduceLE, Int.reduceGT, Int.reduceGE, Int.reduceEq, Int.reduceNe, Int.reduceBEq, Int.reduceBNe, Int.reduceToNat, Int.reduceNeg]
      (repeat (with_reducible refine ob ?_)); first | refine cl F16 (name_ok (20 * i + k) (by omega)) ?_ | refine clF F16 (name_ok (20 * i + k) (by omega)) (fun _ => by simp only [encOp, encEn, encStep, go_sem, Nat.reduceAdd, Nat.reduceMul, Nat.reduceSub, Nat.reduceEqDiff, Nat.reduceLT, Nat.reduceLeDiff, Nat.reduceBEq, reduceIte, reduceCtorEq, Int.reduceAdd, Int.reduceLT, Int.reduceLE, Int.reduceGT, Int.reduceGE, Int.reduceEq, Int.reduceNe, Int.reduceBEq, Int.reduceBNe, Int.reduceToNat, Int.reduceNeg]) ?_
      try (refine ev ?_; try exact True.intro)
      have hln := opsAt_len (20 * i)
      (repeat (with_reducible refine ob ?_))
      have h1 := map_take_snoc encOp (opsAt (20 * i)) (i := k) (by omega)
      rw [opsAt_get, encPut] at h1
      refine ⟨⟨k + 1, hkl⟩, ?_, by dsimp only; omega⟩
      try simp only [SfullI, stoO, mapO, h1, wrap_succ (show k < 9223372036854775807 by omega), go_sem, Nat.reduceAdd, Nat.reduceMul, Nat.reduceSub, Nat.reduceEqDiff, Nat.reduceLT, Nat.reduceLeDiff, Nat.reduceBEq, reduceIte, reduceCtorEq, Int.reduceAdd, Int.reduceLT, Int.reduceLE, Int.reduceGT, Int.reduceGE, Int.reduceEq, Int.reduceNe, Int.reduceBEq, Int.reduceBNe, Int.reduceToNat, Int.reduceNeg]
    · have hkl : k = 20 := by simp at hc; omega
      subst hkl
      have hln := opsAt_len (20 * i)
      rw [List.take_of_length_le (by omega)]
      obtain ⟨f1, f2⟩ := full_step hg (by omega)
      have hf := hs.file
      have k1 := commit_yes (s := s) (l := opsAt (20 * i)) (by omega) (by omega) f1
      have hs2 := sCommit_inv hs (opsAt (20 * i))
      generalize (sCommit s (opsAt (20 * i))).1 = s' at k1 f2 hs2
      simp only [stoO, mapO] at k1
      try (refine ev ?_; try exact True.intro)
      refine clO [1, 0, 2] F13 k1 ?_
      try (refine ev ?_; try exact True.intro)
      (repeat (with_reducible refine ob ?_)); refine no_ ?_
      try (refine ev ?_; try exact True.intro)
      refine pu_ren [2, 1, 0] [mapO s'.m, stoO s' 0, mapO s.m] ?_ (by try simp only [mapO, stoO, go_sem, Nat.reduceAdd, Nat.reduceMul, Nat.reduceSub, Nat.reduceEqDiff, Nat.reduceLT, Nat.reduceLeDiff, Nat.reduceBEq, reduceIte, reduceCtorEq, Int.reduceAdd, Int.reduceLT, Int.reduceLE, Int.reduceGT, Int.reduceGE, Int.reduceEq, Int.reduceNe, Int.reduceBEq, Int.reduceBNe, Int.reduceToNat, Int.reduceNeg]) (hp := rfl)
      refine pu ?_
      have hw : IntKind.i64.wrap (((20 * i : Nat) : Int) + 20) = ((20 * (i + 1) : Nat) : Int) := by rw [wrap_i64 (by omega) (by omega)]; omega
      try simp only [mapO, stoO, hw, go_sem, Nat.reduceAdd, Nat.reduceMul, Nat.reduceSub, Nat.reduceEqDiff, Nat.reduceLT, Nat.reduceLeDiff, Nat.reduceBEq, reduceIte, reduceCtorEq, Int.reduceAdd, Int.reduceLT, Int.reduceLE, Int.reduceGT, Int.reduceGE, Int.reduceEq, Int.reduceNe, Int.reduceBEq, Int.reduceBNe, Int.reduceToNat, Int.reduceNeg]
      refine ⟨⟨(i + 1, s'), hil, hs2, f2⟩, ?_, by dsimp only; omega⟩
      try simp only [Sfull, stoO, mapO, go_sem, Nat.reduceAdd, Nat.reduceMul, Nat.reduceSub, Nat.reduceEqDiff, Nat.reduceLT, Nat.reduceLeDiff, Nat.reduceBEq, reduceIte, reduceCtorEq, Int.reduceAdd, Int.reduceLT, Int.reduceLE, Int.reduceGT, Int.reduceGE, Int.reduceEq, Int.reduceNe, Int.reduceBEq, Int.reduceBNe, Int.reduceToNat, Int.reduceNeg]
  · have hil : i = 20 := by simp at h; omega
    subst hil
    obtain ⟨e1, e2, e3, e4, e5, e6⟩ := full_end hs.good.ok hg (n := n) (by omega)
    have hf := hs.file
    have q1 := commit_no (s := s) (l := opsE) (by decide) (by omega) (by rw [e1]; decide)
    have q2 := commit_no (s := s) (l := opsF n) (by simp [opsF]) (by omega) (by rw [e2]; decide)
    have q3 := commit_yes (s := s) (l := opsG n) (by simp [opsG]) (by omega) e3
    have hs3 := sCommit_inv hs (opsG n)
    have hs4 := sCommit_inv hs3 (opsH n)
    have hf3 := hs3.file
    have q4 := commit_yes (s := (sCommit s (opsG n)).1) (l := opsH n) (by simp [opsH]) (by omega) e4
    have q5 := get_ok (sCommit (sCommit s (opsG n)).1 (opsH n)).1 (nameB n) (fun x hx => by have := (hs4.good.small x hx).2.2; omega)
    have q6 := list_ok (sCommit (sCommit s (opsG n)).1 (opsH n)).1 [] hs4.good.ok (by omega) (fun x hx => by have := (hs4.good.small x hx).2.2; omega)
    have hll : (sList (sCommit (sCommit s (opsG n)).1 (opsH n)).1.m []).length = 400 := by
      rw [sList, (sortEn_perm _).length_eq, ← e6]
      simp [preL, pre]
    rw [e5] at q5
    rw [e1] at q1
    rw [e2] at q2
    generalize (sCommit (sCommit s (opsG n)).1 (opsH n)).1 = s4 at q4 q5 q6 hll
    generalize (sCommit s (opsG n)).1 = s3 at q3 q4
    generalize sList s4.m [] = ls at q6 hll
    simp only [opsE, opsF, opsG, opsH, putOp, List.map_cons, List.map_nil, encOp, stoO, mapO, optV, Option.getD_none, byteRows_nil, Option.isSome_none] at q1 q2 q3 q4 q5 q6
    have w8 : IntKind.i64.wrap ((n : Nat) : Int) = ((n : Nat) : Int) := wrap_i64 (by omega) (by omega)
    try simp only [w8, go_sem, Nat.reduceAdd, Nat.reduceMul, Nat.reduceSub, Nat.reduceEqDiff, Nat.reduceLT, Nat.reduceLeDiff, Nat.reduceBEq, reduceIte, reduceCtorEq, Int.reduceAdd, Int.reduceLT, Int.reduceLE, Int.reduceGT, Int.reduceGE, Int.reduceEq, Int.reduceNe, Int.reduceBEq, Int.reduceBNe, Int.reduceToNat, Int.reduceNeg]
    (repeat (with_reducible refine ob ?_)); first | refine cl F16 (name_ok n (by omega)) ?_ | refine clF F16 (name_ok n (by omega)) (fun _ => by simp only [encOp, encEn, encStep, go_sem, Nat.reduceAdd, Nat.reduceMul, Nat.reduceSub, Nat.reduceEqDiff, Nat.reduceLT, Nat.reduceLeDiff, Nat.reduceBEq, reduceIte, reduceCtorEq, Int.reduceAdd, Int.reduceLT, Int.reduceLE, Int.reduceGT, Int.reduceGE, Int.reduceEq, Int.reduceNe, Int.reduceBEq, Int.reduceBNe, Int.reduceToNat, Int.reduceNeg]) ?_
    try (refine ev ?_; try exact True.intro)
    (repeat (with_reducible refine ob ?_)); first | refine cl F16 (name_ok 400 (by omega)) ?_ | refine clF F16 (name_ok 400 (by omega)) (fun _ => by simp only [encOp, encEn, encStep, go_sem, Nat.reduceAdd, Nat.reduceMul, Nat.reduceSub, Nat.reduceEqDiff, Nat.reduceLT, Nat.reduceLeDiff, Nat.reduceBEq, reduceIte, reduceCtorEq, Int.reduceAdd, Int.reduceLT, Int.reduceLE, Int.reduceGT, Int.reduceGE, Int.reduceEq, Int.reduceNe, Int.reduceBEq, Int.reduceBNe, Int.reduceToNat, Int.reduceNeg]) ?_
    try (refine ev ?_; try exact True.intro)
    refine clO [1, 0, 2] F13 q1 ?_
    try (refine ev ?_; try exact True.intro)
    refine clO [1, 0, 3] F13 q2 ?_
    try (refine ev ?_; try exact True.intro)
    refine clO [1, 0, 4] F13 q3 ?_
    try (refine ev ?_; try exact True.intro)
    refine clO [1, 4, 5] F13 q4 ?_
    try (refine ev ?_; try exact True.intro)
    refine clO [1, 5] F15 q5 ?_
    try (refine ev ?_; try exact True.intro)
    refine clO [1, 5] F17u q6 ?_
    have hll2 : ((ls.length : Int) == 400) = true := by rw [hll]; rfl
    try simp only [hll2, go_sem, Nat.reduceAdd, Nat.reduceMul, Nat.reduceSub, Nat.reduceEqDiff, Nat.reduceLT, Nat.reduceLeDiff, Nat.reduceBEq, reduceIte, reduceCtorEq, Int.reduceAdd, Int.reduceLT, Int.reduceLE, Int.reduceGT, Int.reduceGE, Int.reduceEq, Int.reduceNe, Int.reduceBEq, Int.reduceBNe, Int.reduceToNat, Int.reduceNeg]
end Go.Proofs.Ytinnaedmdoengaa

/- The shapes of the arguments of layer 48's statements. -/
namespace Go.Proofs.Ytinnaedmdoengaa
open Go.Abs
set_option linter.unusedSimpArgs false
set_option maxRecDepth 100000

theorem rows_of {α : Type} {enc : α → List D} {Q : α → Prop} : ∀ {rows : List (List D)}, (∀ r ∈ rows, ∃ x, r = enc x ∧ Q x) → ∃ l : List α, rows = l.map enc ∧ ∀ x ∈ l, Q x
  | [], _ => ⟨[], rfl, by simp⟩
  | r :: rows, h => by
    obtain ⟨x, rfl, hx⟩ := h r (by simp)
    obtain ⟨l, rfl, hl⟩ := rows_of (enc := enc) (Q := Q) (rows := rows) (fun r hr => h r (by simp [hr]))
    exact ⟨x :: l, rfl, by simpa using ⟨hx, hl⟩⟩

theorem i64_wf {n : Int} (h : (Lit.int .i64 n).wf = true) : I64 n := by
  have h1 : IntKind.i64.min = -9223372036854775808 := by decide
  have h2 : IntKind.i64.max = 9223372036854775807 := by decide
  simp only [Lit.wf, Bool.and_eq_true, decide_eq_true_eq, h1, h2] at h
  exact h
theorem u8_wf {n : Int} (h : (Lit.int .u8 n).wf = true) : 0 ≤ n ∧ n ≤ 255 := by
  have h1 : IntKind.u8.min = 0 := by decide
  have h2 : IntKind.u8.max = 255 := by decide
  simp only [Lit.wf, Bool.and_eq_true, decide_eq_true_eq, h1, h2] at h
  exact h

theorem shpInt {n : Nat} {ds : List D} (h : Shp Try.prog (n + 1) 3 ds) : ∃ x, ds = [.int .i64 x] ∧ I64 x := by
  simp only [Shp, Try.underlying3] at h
  obtain ⟨x, rfl, h⟩ := h
  exact ⟨x, rfl, i64_wf h⟩
theorem shpU8 {n : Nat} {ds : List D} (h : Shp Try.prog (n + 1) 5 ds) : ∃ x : Nat, ds = [.int .u8 (x : Nat)] ∧ x < 256 := by
  simp only [Shp, Try.underlying5] at h
  obtain ⟨x, rfl, h⟩ := h
  have := u8_wf h
  refine ⟨x.toNat, ?_, by omega⟩
  rw [Int.toNat_of_nonneg this.1]
theorem shpByte {n : Nat} {ds : List D} (h : Shp Try.prog (n + 1) 5 ds) : ∃ c : UInt8, ds = [byteD c] ∧ True := by
  obtain ⟨x, rfl, hx⟩ := shpU8 h
  refine ⟨UInt8.ofNat x, ?_, trivial⟩
  simp [byteD, UInt8.toNat_ofNat]
  omega
theorem byteRows_map (s : List UInt8) : s.map (fun c => [byteD c]) = byteRows s := by
  induction s with
  | nil => rfl
  | cons c s ih => rw [List.map_cons, ih]; rfl
theorem cells_u8 : Try.prog.cellsOf 5 = 1 := by kernel_rfl
theorem shpBytes {n : Nat} {ds : List D} (h : Shp Try.prog (n + 2) 34 ds) : ∃ s : List UInt8, ds = [.sl 1 (byteRows s)] ∧ s.length ≤ maxLen := by
  rw [Shp] at h
  simp only [Try.underlying34] at h
  obtain ⟨r, rfl, l, h⟩ := h
  obtain ⟨s, rfl, _⟩ := rows_of fun r hr => shpByte (h r hr)
  exact ⟨s, by rw [cells_u8, byteRows_map], by simpa using l⟩
theorem shpStr {n : Nat} {ds : List D} (h : Shp Try.prog (n + 1) 9 ds) : ∃ s : List UInt8, ds = [.str s] ∧ s.length ≤ maxLen := by
  simp only [Shp, Try.underlying9] at h
  exact h

theorem shpOp48 {n : Nat} {ds : List D} (h : Shp Try.prog (n + 3) 36 ds) : ∃ o : OpS, ds = encOp o ∧ o.key.length ≤ maxLen ∧ o.val.length ≤ maxLen := by
  rw [Shp] at h
  simp only [Try.underlying36, ShpFs] at h
  obtain ⟨_, _, rfl, h1, _, _, rfl, h2, _, _, rfl, h3, rfl⟩ := h
  obtain ⟨a1, rfl, l1⟩ := shpStr h1
  simp only [Shp, Try.underlying4] at h2
  obtain ⟨a2, rfl⟩ := h2
  obtain ⟨a3, rfl, l3⟩ := shpBytes h3
  exact ⟨⟨a1, a2, a3⟩, rfl, l1, l3⟩
theorem cells_Op48 : Try.prog.cellsOf 36 = 3 := by kernel_rfl
theorem shpOps {n : Nat} {ds : List D} (h : Shp Try.prog (n + 4) 31 ds) : ∃ l : List OpS, ds = [.sl 3 (l.map encOp)] ∧ l.length ≤ maxLen := by
  rw [Shp] at h
  simp only [Try.underlying31] at h
  obtain ⟨r, rfl, l, h⟩ := h
  obtain ⟨s, rfl, _⟩ := rows_of fun r hr => shpOp48 (h r hr)
  exact ⟨s, by rw [cells_Op48], by simpa using l⟩
theorem shpStep48 {n : Nat} {ds : List D} (h : Shp Try.prog (n + 5) 33 ds) : ∃ x : StepS, ds = encStep x ∧ x.ops.length ≤ maxLen := by
  rw [Shp] at h
  simp only [Try.underlying33, ShpFs] at h
  obtain ⟨_, _, rfl, h1, _, _, rfl, h2, rfl⟩ := h
  obtain ⟨a1, rfl, _⟩ := shpInt h1
  obtain ⟨a2, rfl, l2⟩ := shpOps h2
  exact ⟨⟨a1, a2⟩, rfl, l2⟩
theorem cells_Step48 : Try.prog.cellsOf 33 = 2 := by kernel_rfl
theorem shpSteps {n : Nat} {ds : List D} (h : Shp Try.prog (n + 6) 22 ds) : ∃ l : List StepS, ds = [.sl 2 (l.map encStep)] ∧ l.length ≤ maxLen ∧ ∀ x ∈ l, x.ops.length ≤ maxLen := by
  rw [Shp] at h
  simp only [Try.underlying22] at h
  obtain ⟨r, rfl, l, h⟩ := h
  obtain ⟨s, rfl, hs⟩ := rows_of fun r hr => shpStep48 (h r hr)
  exact ⟨s, by rw [cells_Step48], by simpa using l, hs⟩

theorem argSteps (l : List StepS) : argS Try.prog 22 [.sl 2 (l.map encStep)] = .d (.sl 2 (l.map encStep)) := by simp only [argS, Try.underlying22]; rfl
theorem argOps (l : List OpS) : argS Try.prog 31 [.sl 3 (l.map encOp)] = .d (.sl 3 (l.map encOp)) := by simp only [argS, Try.underlying31]; rfl
theorem argBytes (s : List UInt8) : argS Try.prog 34 [.sl 1 (byteRows s)] = .d (.sl 1 (byteRows s)) := by simp only [argS, Try.underlying34]; rfl
theorem argStr (s : List UInt8) : argS Try.prog 9 [.str s] = .d (.str s) := by simp only [argS, Try.underlying9]; rfl
theorem argU8 (n : Int) : argS Try.prog 5 [.int .u8 n] = .d (.int .u8 n) := by simp only [argS, Try.underlying5]; rfl
end Go.Proofs.Ytinnaedmdoengaa
