/- Texts Wk, Wl, Wm, Wn, Vc, Cg, Ch, Ga, Gb, Gc, Gd, Ge, Gg, Za, Yd, Ya, Yb, Yc, Ye, Yf, Yg. -/
import Derived.Test.YtkcdbcbpbolgkaaGreatDoorMon
import Derived.Shelf.SlSortCmp.NoneTotal
set_option linter.unusedSimpArgs false
set_option linter.unusedVariables false
namespace Go.Proofs.YtkcdbcbpbolgkaaGreatDoor
open Go.Abs Go.Shelf Go.RowKit Go.Lib Go.Sort
theorem xh5 (x : RowE) : (encR x).length = 2 := rfl
theorem xh6 (x : RowE) : ∀ v ∈ encR x, v.oneCell' = true := by
 intro v hv
 simp [encR] at hv
 rcases hv with rfl | rfl
 ·rfl
 ·exact x.2.2
set_option maxHeartbeats 1000000 in
theorem xmx (l : List En) (hn : (l.map (·.1)).Nodup) (hl : l.length ≤ 1000000) :
  qg Tryz.prog 172 [.d (.ref 0 0 2 l.length), .d (.func (.func 173) [] [])] [.row ((qe2 l).map .d)] (.tup []) [.row ((qe2 (qeh l)).map .d)] := by
 intro g w vs hd hlen hv ho
 match vs, hlen with
 | [v0, v1], _ =>
 have h1 := v8 (jc (hv 1 v1 _ rfl rfl))
 have hf1 : v1 = .func (.func 173) #[] #[] := by
  cases h1 with
  | func _ vf vc _ _ hf hc =>
   have e1 : vf = [] := List.eq_nil_of_length_eq_zero (by simpa using hf)
   have e2 : vc = [] := List.eq_nil_of_length_eq_zero (by simpa using hc)
   subst e1; subst e2; rfl
 subst hf1
 have h0 := v8 (jc (hv 0 v0 _ rfl rfl))
 generalize hln : l.length = n at h0
 have none_ : ∀ (p : Option Addr) (cap : Nat), n = 0 → v0 = .slice p 0 cap → Calls Tryz.prog 172 [v0, .func (.func 173) #[] #[]].toArray w fun e w' =>
   ∃ v g' live', e = .returned v ∧ G g w g' w' ∧ Dom g' w' ∧ (∀ t ∈ (ASlot.tup []).toks ++ xg [.row ((qe2 (qeh l)).map .d)], t ∈ live') ∧ RS g' w' live' v (.tup []) ∧ ObjsOk g' w' live' [.row ((qe2 (qeh l)).map .d)] := by
  intro p cap h0 hv0
  have hl0 : l = [] := List.eq_nil_of_length_eq_zero (by omega)
  subst hl0; subst hv0
  have hcon := AnyF.slices_SortFunc_none xpz p cap (.func (.func 173) #[] #[]) w
  change Calls Tryz.prog 172 _ _ _ at hcon
  refine hcon.mono ?_
  rintro e w' ⟨rfl, rfl⟩
  have hs0 : qeh [] = [] := by simp [qeh]
  rw [hs0]
  exact ⟨_, g, [], rfl, .refl _ _, hd, by simp [ASlot.toks, xg, AObj.cells], ⟨[], rfl, rfl, fun i u s hu => by simp at hu⟩, ho⟩
 cases h0 with
 | refnil a => exact none_ a 0 rfl rfl
 | ref b _ _ _ _ cap hg hcap hmx hsz =>
 by_cases hn0 : n = 0
 ·subst hn0; exact none_ _ cap rfl rfl
 obtain ⟨b', hb', c, et, hh, hcs, hcc⟩ := (ho.objs 0 _ rfl (by simp)).resolve_right (fun h => by
  have := h.1
  simp at this
  have := congrArg List.length this
  simp [qib] at this; omega)
 have : b' = b := ho.inj b' b 0 hb' hg
 subst this
 rw [List.length_map, qib] at hcs
 have hcell : ∀ (i : Nat) (e : En), l[i]? = some e → c[2 * i]? = some (.string ⟨e.1.toArray⟩) ∧ ∃ v, c[2 * i + 1]? = some v ∧ v.oneCell' = true ∧ RV g w v (.sl 1 (qd e.2)) := by
  intro i e he
  obtain ⟨k1, k2⟩ := qtn l i e he
  obtain ⟨u, u1, _, u3⟩ := hcc (2 * i) (.d (.str e.1)) (by rw [List.getElem?_map, k1]; rfl)
  obtain ⟨v, v1, v2, v3⟩ := hcc (2 * i + 1) (.d (.sl 1 (qd e.2))) (by rw [List.getElem?_map, k2]; rfl)
  have hu := qcd (show RV g w u (.str e.1) from u3)
  subst hu
  exact ⟨u1, v, v1, v2, v3⟩
 let mkR : Nat → RowE := fun i => match l[i]?, c[2 * i + 1]? with
  | some e, some v => if h : v.oneCell' = true then (e.1, ⟨v, h⟩) else default
  | _, _ => default
 let P : List (RowE × En) := (List.range n).map fun i => (mkR i, l.getD i ([], []))
 have hPR : ∀ z ∈ P, z.1.1 = z.2.1 ∧ RV g w z.1.2.1 (.sl 1 (qd z.2.2)) := by
  intro z hz
  obtain ⟨i, hi, rfl⟩ := List.mem_map.1 hz
  have hil : i < l.length := by rw [hln]; exact List.mem_range.1 hi
  have he := List.getElem?_eq_getElem hil
  obtain ⟨_, v, v1, v2, v3⟩ := hcell i _ he
  have : mkR i = (l[i].1, ⟨v, v2⟩) := by simp only [mkR, he, v1, dif_pos v2]
  have e2 : l.getD i ([], []) = l[i] := by simp [List.getD, he]
  simp only [this, e2]
  exact ⟨trivial, v3⟩
 have hPs : P.map (·.2) = l := by
  apply List.ext_getElem?
  intro i
  simp only [P, List.map_map, List.getElem?_map]
  rcases Nat.lt_or_ge i n with h | h
  ·rw [List.getElem?_range h]
   have he := List.getElem?_eq_getElem (show i < l.length by omega)
   simp [he, List.getD]
  ·rw [List.getElem?_eq_none (by simpa using h), List.getElem?_eq_none (by omega)]; rfl
 obtain ⟨d, hdd⟩ : ∃ d : Array RowE, d = (P.map (·.1)).toArray := ⟨_, rfl⟩
 have hds : d.size = n := by rw [hdd]; simp [P]
 have hdi : ∀ i, i < n → d[i]! = mkR i := fun i hi => by rw [hdd]; simp [P, hi]
 have hblk : b' < w.heap.size := (Array.getElem?_eq_some_iff.1 hh).1
 have hfl : ∀ t, t < n * 2 → (flatK encR 2 d)[t]! = c.getD t default := by
  intro t ht
  rw [get_flatK encR 2 d t (by rw [hds]; exact ht), hdi _ (by omega)]
  have hil : t / 2 < l.length := by omega
  have he := List.getElem?_eq_getElem hil
  obtain ⟨k1, v, v1, v2, v3⟩ := hcell (t / 2) _ he
  have hm : mkR (t / 2) = (l[t / 2].1, ⟨v, v2⟩) := by simp only [mkR, he, v1, dif_pos v2]
  rw [hm]
  rcases Nat.mod_two_eq_zero_or_one t with hp | hp
  ·have e1 : 2 * (t / 2) = t := by omega
   rw [e1] at k1
   rw [hp, Array.getD_eq_getD_getElem?, k1]
   rfl
  ·have e1 : 2 * (t / 2) + 1 = t := by omega
   rw [e1] at v1
   rw [hp, Array.getD_eq_getD_getElem?, v1]
   rfl
 have hH : HoldsK encR 2 w b' 0 d := by
  intro j hj
  rw [size_flatK, hds] at hj
  refine ⟨?_, by simp [World.frozen?, hh]⟩
  rw [hfl j hj]
  have hjc : j < c.size := by omega
  simp [World.cell?, hh, hjc]
 have eg : ∀ args w, (callFunc 173 args).run Tryz.prog w = .ok (.enter 173 args) w := enters_of Tryz.func173 (by kernel_rfl) rfl
 have hcon := AnyQ.slices_SortFunc xpz 2 Tryz.isAgg195 Tryz.sizeOf195 encR xh5 xh6 cmpR xte 173 #[] b' 0 cap d w eg (fun _ _ _ _ x y => xh4 x y _) hH hblk (by omega)
 change Calls Tryz.prog 172 _ _ _ at hcon
 rw [hds] at hcon
 refine hcon.mono ?_
 rintro e w' ⟨rfl, d', m, os, hperm, hsort, hw'⟩
 obtain ⟨hps, _, hpl⟩ := hperm
 rw [hds] at hps
 have hp2 : d'.toList.Perm (P.map (·.1)) := by
  have e1 : d'.extract 0 n = d' := by rw [← hps]; simp
  have e2 : d.extract 0 n = d := by rw [← hds]; simp
  rw [e1, e2] at hpl
  rw [hdd] at hpl
  simpa using hpl
 obtain ⟨Q, q1, q2⟩ := xcs (fun z : RowE × En => z.1) hp2 rfl
 have hQl : Q.length = n := by rw [q1.length_eq]; simp [P]
 have hesl : (Q.map (·.2)).Perm l := by
  have := q1.map (fun z : RowE × En => z.2)
  rwa [hPs] at this
 have hQ : ∀ (i : Nat) (z : RowE × En), Q[i]? = some z → d'[i]! = z.1 ∧ z.1.1 = z.2.1 ∧ RV g w z.1.2.1 (.sl 1 (qd z.2.2)) := by
  intro i z hz
  have h1 := congrArg (fun l => l[i]?) q2
  simp only [List.getElem?_map, hz, Option.map_some, Array.getElem?_toList] at h1
  have hi : i < d'.size := by rw [hps, ← hQl]; exact (List.getElem?_eq_some_iff.1 hz).1
  refine ⟨?_, hPR z (q1.mem_iff.1 (List.mem_of_getElem? hz))⟩
  rw [getElem!_pos d' i hi]
  rw [Array.getElem?_eq_getElem hi] at h1
  simpa using h1.symm
 have hsorted : (Q.map (·.2)).Pairwise fun a b => cmpB a.1 b.1 ≤ 0 := by
  rw [List.pairwise_iff_getElem]
  intro i j hi hj hij
  simp only [List.length_map] at hi hj
  have zi := hQ i _ (List.getElem?_eq_getElem hi)
  have zj := hQ j _ (List.getElem?_eq_getElem hj)
  have hs := hsort i j (Nat.zero_le _) hij (by omega)
  rw [zi.1, zj.1] at hs
  have hs2 : ¬ cmpB Q[j].1.1 Q[i].1.1 < 0 := of_decide_eq_false hs
  rw [zi.2.1, zj.2.1] at hs2
  simp only [List.getElem_map]
  exact qd2.1 hs2
 have hes : Q.map (·.2) = qeh l := by
  have hn2 : ((Q.map (·.2)).map (·.1)).Nodup := (hesl.map (fun x : En => x.1)).nodup_iff.2 hn
  exact qic (hesl.trans (v7 l).symm) hn2 hsorted (qds l)
 have hwh : w'.heap = (w.heap.modify b' (onCells (putCells (fun v : Value => v) 0 (flatK encR 2 d')))) ++ os := by subst hw'; rfl
 have hother : ∀ k, k ≠ b' → k < w.heap.size → w'.heap[k]? = w.heap[k]? := by
  intro k hk hkl
  rw [hwh, Array.getElem?_append, if_pos (by simpa using hkl), Array.getElem?_modify, if_neg (Ne.symm hk)]
 have hself : w'.heap[b']? = some (.cells (putCells (fun v : Value => v) 0 (flatK encR 2 d') c) et (0, 0)) := by
  rw [hwh, Array.getElem?_append, if_pos (by simpa using hblk), Array.getElem?_modify, if_pos rfl, hh]
  rfl
 have hsize : w.heap.size ≤ w'.heap.size := by
  subst hw'
  simp [sortWorldK, grow, putRowK, putRow, mapBlock, Sort.ahead]
 have htop : w'.os = w.os ∧ w'.tape = w.tape ∧ w'.output = w.output := by subst hw'; exact ⟨rfl, rfl, rfl⟩
 have hne : ∀ k r, g k = r → (∀ i, r ≠ .obj i) → k ≠ b' := fun k r h hr he => by rw [he, hg] at h; exact hr 0 h.symm
 have hG : G g w g w' := by
  refine ⟨htop.1, htop.2.1, htop.2.2, hsize, fun k hk hgk => ⟨hother k (hne k _ hgk (by simp)) hk, hgk⟩, fun k r hk hgk => ⟨hother k (hne k _ hgk (by simp)) hk, hgk⟩,
   fun k r t hk hgk => ⟨r, some t, hgk, Nat.le_refl _, fun i u _ hu => by rw [kj (hother k (hne k _ hgk (by simp)) hk)]; exact hu⟩, fun k id hk hgk => ⟨hgk, ?_⟩⟩
  by_cases hkb : k = b'
  ·subst hkb
   rw [vh hh, vh hself]
   simp [putCells]
  ·exact Nat.le_of_eq (jg (hother k hkb hk)).symm
 refine ⟨_, g, [], rfl, hG, hd.of hG fun k hk => hd.1 k (by omega), by simp [ASlot.toks, xg, AObj.cells], ⟨[], rfl, rfl, fun i u s hu => by simp at hu⟩, ⟨fun oid o hid hno => ?_, ho.inj, fun b oid hb => ?_⟩⟩
 ·match oid, hid with
  | 0, hid =>
   simp at hid
   subst hid
   have hle := (v7 l).length_eq
   refine .inl ⟨b', hg, _, et, hself, by simp [putCells, qib, hle]; omega, fun i s hi => ?_⟩
   rw [List.getElem?_map, Option.map_eq_some_iff] at hi
   obtain ⟨x, hx, rfl⟩ := hi
   have hil : i < n * 2 := by
    have := (List.getElem?_eq_some_iff.1 hx).1
    rw [qib, hle, hln] at this
    exact this
   have hQi : i / 2 < Q.length := by omega
   obtain ⟨z1, z2, z3⟩ := hQ (i / 2) _ (List.getElem?_eq_getElem hQi)
   have hz : (qeh l)[i / 2]? = some Q[i / 2].2 := by rw [← hes, List.getElem?_map, List.getElem?_eq_getElem hQi]; rfl
   obtain ⟨k1, k2⟩ := qtn _ _ _ hz
   have hcv : (putCells (fun v : Value => v) 0 (flatK encR 2 d') c)[i]? = some ((encR Q[i / 2].1)[i % 2]!) := by
    have hic : i < c.size := by omega
    simp only [putCells, Array.getElem?_mapIdx, Array.getElem?_eq_getElem hic, Option.map_some, size_flatK, hps, Nat.zero_le, true_and, Nat.zero_add, hil, if_true, Nat.sub_zero]
    rw [get_flatK encR 2 d' i (by rw [hps]; exact hil), z1]
   rcases Nat.mod_two_eq_zero_or_one i with hp | hp
   ·have e1 : 2 * (i / 2) = i := by omega
    rw [e1] at k1
    rw [k1] at hx; cases hx
    rw [hp] at hcv
    have hcs : (encR Q[i / 2].1)[0]! = .string ⟨Q[i / 2].2.1.toArray⟩ := by rw [← z2]; rfl
    rw [hcs] at hcv
    exact ⟨_, hcv, rfl, .str _⟩
   ·have e1 : 2 * (i / 2) + 1 = i := by omega
    rw [e1] at k2
    rw [k2] at hx; cases hx
    rw [hp] at hcv
    exact ⟨_, hcv, Q[i / 2].1.2.2, z3.mono (hG.rowsKept hd) (fun b id hb => hG.obj b id (hd.lt_obj hb) hb)⟩
  | i + 1, hid => simp at hid
 ·obtain ⟨o, h1, h2⟩ := ho.ids b oid hb
  match oid, h1 with
  | 0, h1 => exact ⟨_, rfl, by simp⟩
  | i + 1, h1 => simp at h1
end Go.Proofs.YtkcdbcbpbolgkaaGreatDoor
namespace Go.Proofs.YtkcdbcbpbolgkaaGreatDoor
open Go.Abs
attribute [go_sem] qad
def pre (p k : List UInt8) : Bool := decide (p.length ≤ k.length) && k.take p.length == p
noncomputable section
set_option maxRecDepth 100000
set_option linter.defProp false
def d236 := cut Tryz.prog Tryz.f236 news
@[go_sem] def E236 := ql d236
def F236 := fnC d236 follows Tryz.func236
def d171 := cut Tryz.prog Tryz.f171 news
@[go_sem] def E171 := ql d171
def F171 := fnC d171 follows Tryz.func171
end
theorem qks (k p : List UInt8) : qg Tryz.prog 236 [.d (.str k), .d (.str p)] [] (.d (.bool (pre p k))) [] := by
 refine F236.go ?_
 by_cases h : p.length ≤ k.length
 ·have hd : decide ((k.length : Int) ≥ (p.length : Int)) = true := by simpa using h
  have hd2 : decide (p.length ≤ k.length) = true := by simpa using h
  try (refine ev3 @pre.eq_1 @hd @hd2 ?_; try exact True.intro)
  (repeat (with_reducible refine ob ?_))
  try (refine ev2 @hd @Nat.sub_zero ?_; try exact True.intro)
 ·have hd : decide ((k.length : Int) ≥ (p.length : Int)) = false := by simpa using h
  have hd2 : decide (p.length ≤ k.length) = false := by simpa using h
  try (refine ev3 @pre.eq_1 @hd @hd2 ?_; try exact True.intro)
  (repeat (with_reducible refine ob ?_))
  try (refine ev1 @hd ?_; try exact True.intro)
theorem qnh (k p : List UInt8) : qg Tryz.prog 171 [.d (.str k), .d (.str p)] [] (.d (.bool (pre p k))) [] := by
 refine F171.go ?_
 try (refine ev ?_; try exact True.intro)
 (repeat (with_reducible refine ob ?_)); first | refine cl F236 (qks k p) ?_ | refine clF F236 (qks k p) (fun _ => by (refine ev2 @qp.eq_1 @k8.eq_1 ?_; try exact True.intro)) ?_
 try (refine ev ?_; try exact True.intro)
noncomputable section
set_option maxRecDepth 100000
set_option linter.defProp false
def d92u := cut Tryz.prog Tryz.f92 news [29] [10] true
@[go_sem] def E92u := ql d92u
def F92u := fnC d92u follows Tryz.func92
def d172 := cut Tryz.prog Tryz.f172 news
@[go_sem] def E172 := ql d172
def F172 := fnC d172 follows Tryz.func172
end
theorem q3m {α β : Type} {f : α → β} : ∀ {l : List α}, (l.map f).Nodup → ∀ {x y : α}, x ∈ l → y ∈ l → f x = f y → x = y
 | [], _, x, y, hx, _, _ => by cases hx
 | a :: l, hn, x, y, hx, hy, h => by
  simp only [List.map_cons, List.nodup_cons, List.mem_map, not_exists, not_and] at hn
  rcases List.mem_cons.1 hx with rfl | hx'
  ·rcases List.mem_cons.1 hy with rfl | hy'
   ·rfl
   ·exact absurd h.symm (hn.1 y hy')
  ·rcases List.mem_cons.1 hy with rfl | hy'
   ·exact absurd h (hn.1 x hx')
   ·exact q3m hn.2 hx' hy' h
theorem qbg {α β : Type} (f : α → β) : ∀ {l : List α}, (l.map f).Nodup → l.Nodup
 | [], _ => List.nodup_nil
 | a :: l, hn => by
  simp only [List.map_cons, List.nodup_cons, List.mem_map, not_exists, not_and] at hn ⊢
  exact ⟨fun h => hn.1 a h rfl, qbg f hn.2⟩
theorem q5r {α : Type} (f : α → Nat) : ∀ {l : List α}, (l.map f).Nodup → ∀ {x : α}, x ∈ l → (l.find? fun y => f y == f x) = some x
 | [], _, x, hx => by cases hx
 | a :: l, hn, x, hx => by
  rw [List.find?_cons]
  by_cases h : f a = f x
  ·have := q3m hn (List.mem_cons_self ..) hx h
   subst this
   simp
  ·rw [beq_false_of_ne h]
   rcases List.mem_cons.1 hx with rfl | hx'
   ·exact absurd rfl h
   ·exact q5r f (by simp only [List.map_cons, List.nodup_cons] at hn; exact hn.2) hx'
theorem xct {α : Type} [DecidableEq α] : ∀ {a b : List α}, a.Nodup → (∀ x ∈ a, x ∈ b) → a.length ≤ b.length
 | [], _, _, _ => Nat.zero_le _
 | x :: a, b, h, hs => by
  have hx := hs x (List.mem_cons_self ..)
  have h' := List.nodup_cons.1 h
  have := xct (a := a) (b := b.erase x) h'.2 fun y hy => (List.mem_erase_of_ne (by rintro rfl; exact h'.1 hy)).2 (hs y (List.mem_cons_of_mem _ hy))
  rw [List.length_erase_of_mem hx] at this
  have := List.length_pos_of_mem hx
  simp only [List.length_cons]; omega
theorem q8s (l : List En) : (l.map k8).flatten = qe2 l := rfl
theorem q3n (l : List En) : (qe2 l).all D.isCell = true := by induction l <;> simp_all [qe2, k8, D.isCell]
attribute [go_sem] q8s qzr q3n
structure Cont.Ok (m : Cont) : Prop where
 num : (m.l.map (·.1)).Nodup
 lt : ∀ x ∈ m.l, x.1 < m.c
 key : (m.l.map (·.2.1)).Nodup
def enOf (x : KV) : En := (x.2.1, x.2.2)
def preL (p : List UInt8) (l : List KV) : List En := (l.filter fun x => pre p x.2.1).map enOf
def qc7 (m : Cont) (p : List UInt8) : List En := qeh (preL p m.l)
theorem qzs {p : List UInt8} {l : List KV} (h : (l.map (·.2.1)).Nodup) : ((preL p l).map (·.1)).Nodup := by
 unfold preL
 rw [List.map_map]
 exact List.Nodup.sublist (List.Sublist.map _ List.filter_sublist) h
theorem xcu {a b : List En} (h : a.Perm b) (hn : (a.map (·.1)).Nodup) : qeh a = qeh b := by
 have h1 := v7 a
 have h2 := v7 b
 refine qic (h1.trans (h.trans h2.symm)) ((h1.map (fun x : En => x.1)).nodup_iff.2 hn) (qds a) (qds b)
def xcv (s : Sto) (p : List UInt8) (i : { i : List KV // (i.map (·.1)).Nodup ∧ ∀ x ∈ i, x ∈ s.m.l }) : St :=
 ⟨[(1, true, .d (.str p)), (5, true, .uni 0 2 ((preL p i.val).map k8)), (14, true, .d (.ptr 2 0))], [stoO s 1, mapO s.m, .iter (.d (.map 1)) s.m.c (i.val.map (·.1)) s.m.c], [0], 1⟩
set_option maxRecDepth 10000 in
theorem xmy (s : Sto) (p : List UInt8) (hm : s.m.Ok) (hl : s.m.l.length ≤ 1000) (hv : ∀ x ∈ s.m.l, x.2.2.length ≤ 1000000) :
  qg Tryz.prog 92 [.d (.ptr 0 0), .d (.str p)] [stoO s 1, mapO s.m] (.d (.sl 2 ((qc7 s.m p).map k8))) [stoO s 1, mapO s.m] := by
 refine F92u.go ?_
 try (refine ev2 @stoO.eq_1 @mapO.eq_1 ?_; try exact True.intro)
 (repeat (with_reducible refine ob ?_)); refine no_ ?_
 try (refine ev ?_; try exact True.intro)
 refine qj (xcv s p) (fun i => s.m.l.length - i.val.length) ⟨[], by simp, by simp⟩ ?_ (fun i => ?_)
 ·try (refine ev6 @xcv.eq_1 @stoO.eq_1 @mapO.eq_1 @preL.eq_1 @List.filter_nil.{0} @List.map_nil.{0,0} ?_; try exact True.intro)
 obtain ⟨i, hi1, hi2⟩ := i
 try (refine ev3 @xcv.eq_1 @stoO.eq_1 @mapO.eq_1 ?_; try exact True.intro)
 have hleft : qf5 (s.m.l.map qer) (i.map (·.1)) = (s.m.l.filter fun x => !(i.map (·.1)).contains x.1).map qer := by
  unfold qf5
  rw [List.filter_map]; rfl
 have hone : ∀ x ∈ s.m.l, ∀ y ∈ s.m.l, x.1 = y.1 → x = y := fun x hx y hy h => q3m hm.num hx hy h
 refine xgm (last := s.m.c) ⟨rfl, rfl, by intro e he; obtain ⟨x, hx, rfl⟩ := List.mem_map.1 he; exact hm.lt x hx, Nat.le_refl _⟩ (fun hl0 => ?_) (fun e he => ?_)
 ·
  rw [hleft, List.map_eq_nil_iff, List.filter_eq_nil_iff] at hl0
  have hall : ∀ x ∈ s.m.l, x ∈ i := by
   intro x hx
   have := hl0 x hx
   simp only [List.contains_eq_mem, decide_eq_true_eq, Bool.not_eq_true, Bool.not_eq_false', Bool.not_not] at this
   simp at this
   obtain ⟨a, b, hab⟩ := this
   have := hone x hx _ (hi2 _ hab) rfl
   rw [this]; exact hab
  have hperm : i.Perm s.m.l := by
   refine (List.perm_ext_iff_of_nodup (qbg _ hi1) (qbg _ hm.num)).2 fun x => ⟨hi2 x, hall x⟩
  have hpp : (preL p i).Perm (preL p s.m.l) := (hperm.filter _).map _
  have hpn : ((preL p i).map (·.1)).Nodup := by
   refine (hpp.map (fun x : En => x.1)).nodup_iff.2 ?_
   exact qzs hm.key
  have hsame : qeh (preL p i) = qc7 s.m p := xcu hpp hpn
  have hlen : (preL p i).length ≤ 1000 := by
   have h1 := hpp.length_eq
   have h2 : (preL p s.m.l).length ≤ s.m.l.length := by simp only [preL, List.length_map]; exact List.length_filter_le _ _
   omega
  try (refine ev1 @qpj.eq_1 ?_; try exact True.intro)
  (repeat (with_reducible refine ob ?_)); refine no_ ?_
  try (refine ev ?_; try exact True.intro)
  refine qqd (.fr 5) 0 2 ((preL p i).map k8) ?_
  refine pu ?_
  try (refine ev ?_; try exact True.intro)
  refine clO [3] F172 (xmx (preL p i) hpn (by omega)) ?_
  try (refine ev ?_; try exact True.intro)
  have hsl : (preL p i).length = (qeh (preL p i)).length := (v7 _).length_eq.symm
  rw [hsl]
  refine qqf 3 2 ((qeh (preL p i)).map k8) ?_ (hc := ?_) (hcc := ?_) (hes := ?_) (hok := D.okWR_noPtr (qqs _))
  ·refine pu ?_
   try (refine ev1 @hsame ?_; try exact True.intro)
  ·try (refine ev ?_; try exact True.intro)
  ·try (refine ev ?_; try exact True.intro)
  ·intro r hr
   obtain ⟨x, _, rfl⟩ := List.mem_map.1 hr
   rfl
 ·rw [hleft] at he
  obtain ⟨x, hx, rfl⟩ := List.mem_map.1 he
  rw [List.mem_filter] at hx
  obtain ⟨hx1, hx2⟩ := hx
  have hx3 : x.1 ∉ i.map (·.1) := by simpa using hx2
  have hnext : ((i ++ [x]).map (·.1)).Nodup ∧ ∀ y ∈ i ++ [x], y ∈ s.m.l := by
   refine ⟨by rw [List.map_append]; exact List.nodup_append.2 ⟨hi1, by simp, fun a ha b hb h => by simp at hb; subst hb; subst h; exact hx3 ha⟩, fun y hy => ?_⟩
   rcases List.mem_append.1 hy with h | h
   ·exact hi2 y h
   ·simp at h; subst h; exact hx1
  have hil : i.length < s.m.l.length := by
   have := xct (qbg _ hnext.1) hnext.2
   simp at this; omega
  have hpl : (preL p i).length ≤ i.length := by simp only [preL, List.length_map]; exact List.length_filter_le _ _
  try (refine ev1 @entV.eq_1 ?_; try exact True.intro)
  (repeat (with_reducible refine ob ?_)); refine qcb ?_
  try (refine ev ?_; try exact True.intro)
  refine xbh (e := qer x) (mid := 1) (since := s.m.c) (seen := i.map (·.1) ++ [x.1]) (clock := s.m.c) (es := s.m.l.map qer) ⟨rfl, rfl, by simp [qer], ?_⟩ ?_
  ·rw [List.find?_map]
   have h1 : s.m.l.find? ((fun e : Nat × D × D => e.1 == (qer x).1) ∘ qer) = some x := q5r (fun y : KV => y.1) hm.num hx1
   rw [h1]; rfl
  try (refine ev1 @qer.eq_1 ?_; try exact True.intro)
  (repeat (with_reducible refine ob ?_)); first | refine cl F171 (qnh x.2.1 p) ?_ | refine clF F171 (qnh x.2.1 p) (fun _ => by (refine ev2 @qp.eq_1 @k8.eq_1 ?_; try exact True.intro)) ?_
  try (refine ev ?_; try exact True.intro)
  (repeat (with_reducible refine ob ?_)); refine xn _ (fun h => ?_) (fun h => ?_)
  ·try (refine ev ?_; try exact True.intro)
   (repeat (with_reducible refine ob ?_)); first | refine cl F127 (yq x.2.2 (by have := hv x hx1; omega)) ?_ | refine clF F127 (yq x.2.2 (by have := hv x hx1; omega)) (fun _ => by (refine ev2 @qp.eq_1 @k8.eq_1 ?_; try exact True.intro)) ?_
   try (refine ev ?_; try exact True.intro)
   refine ⟨by omega, ?_⟩
   have hpx : preL p (i ++ [x]) = preL p i ++ [enOf x] := by simp [preL, h]
   refine ⟨⟨i ++ [x], hnext⟩, ?_, by simp only [List.length_append, List.length_singleton]; omega⟩
   try (refine ev7 @xcv.eq_1 @stoO.eq_1 @mapO.eq_1 @hpx @List.map_append.{0,0} @k8.eq_1 @enOf.eq_1 ?_; try exact True.intro)
  ·have hpx : preL p (i ++ [x]) = preL p i := by simp [preL, h]
   try (refine ev ?_; try exact True.intro)
   refine ⟨⟨i ++ [x], hnext⟩, ?_, by simp only [List.length_append, List.length_singleton]; omega⟩
   try (refine ev7 @xcv.eq_1 @stoO.eq_1 @mapO.eq_1 @hpx @List.map_append.{0,0} @k8.eq_1 @enOf.eq_1 ?_; try exact True.intro)
end Go.Proofs.YtkcdbcbpbolgkaaGreatDoor
namespace Go.Proofs.YtkcdbcbpbolgkaaGreatDoor
open Go.Abs
theorem qbh {k : List UInt8} {x : KV} : zp k x = true ↔ k = x.2.1 := by simp [zp]
theorem qqt {k v : List UInt8} : ∀ {l : List KV} {j : Nat}, l.findIdx? (zp k) = some j → ∀ k', (l.modify j fun e => (e.1, k, v)).find? (zp k') = if k' = k then some ((l[j]?.getD (0, [], [])).1, k, v) else l.find? (zp k')
 | [], j, h, k' => by simp at h
 | a :: l, j, h, k' => by
  rw [List.findIdx?_cons] at h
  by_cases ha : zp k a = true
  ·rw [if_pos ha] at h
   cases h
   simp only [List.modify_zero_cons, List.find?_cons, List.getElem?_cons_zero, Option.getD_some]
   by_cases hk : k' = k
   ·subst hk
    have : zp k' (a.1, k', v) = true := qbh.2 rfl
    rw [this, if_pos rfl]
   ·have h1 : zp k' (a.1, k, v) = false := by simpa [zp] using hk
    have h2 : zp k' a = false := by rw [qbh] at ha; simp [zp, ← ha, hk]
    rw [h1, h2, if_neg hk]
  ·rw [if_neg (by simpa using ha)] at h
   obtain ⟨i, hi, rfl⟩ := Option.map_eq_some_iff.1 h
   simp only [List.modify_succ_cons, List.find?_cons, List.getElem?_cons_succ]
   have ih := qqt (v := v) hi k'
   by_cases hk : k' = k
   ·subst hk
    have : zp k' a = false := by simpa using ha
    rw [this]
    exact ih
   ·cases h2 : zp k' a with
    | true => rw [if_neg hk]
    | false => rw [ih]
theorem qzt {k : List UInt8} {l : List KV} (h : l.findIdx? (zp k) = none) : l.find? (zp k) = none := by
 rw [List.findIdx?_eq_none_iff] at h
 exact List.find?_eq_none.2 fun x hx => by rw [h x hx]; simp
theorem q5s (k v : List UInt8) (m : Cont) (k' : List UInt8) : mGet k' (mPut k v m) = if k' = k then some v else mGet k' m := by
 unfold mGet mPut
 cases h : m.l.findIdx? (zp k) with
 | some j =>
  simp only [qqt h k']
  split <;> rfl
 | none =>
  simp only [List.find?_append]
  by_cases hk : k' = k
  ·subst hk
   rw [qzt h, if_pos rfl]
   simp [zp]
  ·rw [if_neg hk]
   have : [(m.c, k, v)].find? (zp k') = none := by simp [zp, hk]
   rw [this, Option.or_none]
theorem qto {k v : List UInt8} : ∀ {l : List KV} {j : Nat}, l.findIdx? (zp k) = some j → (l.modify j fun e => (e.1, k, v)).map (·.2.1) = l.map (·.2.1) ∧ (l.modify j fun e => (e.1, k, v)).map (·.1) = l.map (·.1)
 | [], j, h => by simp at h
 | a :: l, j, h => by
  rw [List.findIdx?_cons] at h
  by_cases ha : zp k a = true
  ·rw [if_pos ha] at h
   cases h
   rw [qbh] at ha
   simp only [List.modify_zero_cons, List.map_cons, ha, and_self]
  ·rw [if_neg (by simpa using ha)] at h
   obtain ⟨i, hi, rfl⟩ := Option.map_eq_some_iff.1 h
   obtain ⟨h1, h2⟩ := qto (v := v) hi
   simp only [List.modify_succ_cons, List.map_cons, h1, h2, and_self]
theorem qtp {α : Type} {l : List α} {x : α} (h : l.Nodup) (hx : x ∉ l) : (l ++ [x]).Nodup :=
 List.nodup_append.2 ⟨h, by simp, fun a ha b hb e => by simp at hb; subst hb; subst e; exact hx ha⟩
theorem qqu {m : Cont} (h : m.Ok) (k v : List UInt8) : (mPut k v m).Ok := by
 unfold mPut
 cases hf : m.l.findIdx? (zp k) with
 | some j =>
  obtain ⟨h1, h2⟩ := qto (v := v) hf
  refine ⟨by simpa only [h2] using h.num, fun x hx => ?_, by simpa only [h1] using h.key⟩
  have : x.1 ∈ (m.l.modify j fun e => (e.1, k, v)).map (·.1) := List.mem_map_of_mem hx
  rw [h2] at this
  obtain ⟨y, hy, he⟩ := List.mem_map.1 this
  rw [← he]; exact h.lt y hy
 | none =>
  rw [List.findIdx?_eq_none_iff] at hf
  refine ⟨?_, fun x hx => ?_, ?_⟩
  ·rw [List.map_append]
   refine qtp h.num fun hm => ?_
   obtain ⟨y, hy, he⟩ := List.mem_map.1 hm
   have := h.lt y hy
   simp only at he
   omega
  ·simp only
   rcases List.mem_append.1 hx with hx | hx
   ·have := h.lt x hx; omega
   ·simp at hx; subst hx; simp
  ·rw [List.map_append]
   refine qtp h.key fun hm => ?_
   obtain ⟨y, hy, he⟩ := List.mem_map.1 hm
   have := hf y hy
   simp [zp, he] at this
theorem qkt (k : List UInt8) (m : Cont) : (mDel k m).l.Sublist m.l := by
 unfold mDel
 split
 ·exact List.eraseIdx_sublist ..
 ·exact List.Sublist.refl _
theorem qqv {m : Cont} (h : m.Ok) (k : List UInt8) : (mDel k m).Ok :=
 ⟨List.Nodup.sublist ((qkt k m).map _) h.num, fun x hx => by rw [xkv]; exact h.lt x ((qkt k m).subset hx), List.Nodup.sublist ((qkt k m).map _) h.key⟩
theorem qtq {k : List UInt8} : ∀ {l : List KV} {j : Nat}, l.findIdx? (zp k) = some j → (l.map (·.2.1)).Nodup → ∀ k', (l.eraseIdx j).find? (zp k') = if k' = k then none else l.find? (zp k')
 | [], j, h, _, k' => by simp at h
 | a :: l, j, h, hn, k' => by
  rw [List.findIdx?_cons] at h
  simp only [List.map_cons, List.nodup_cons] at hn
  by_cases ha : zp k a = true
  ·rw [if_pos ha] at h
   cases h
   rw [qbh] at ha
   simp only [List.eraseIdx_cons_zero, List.find?_cons]
   by_cases hk : k' = k
   ·subst hk
    rw [if_pos rfl]
    refine List.find?_eq_none.2 fun x hx hk => ?_
    rw [qbh] at hk
    exact hn.1 (List.mem_map.2 ⟨x, hx, by rw [← ha, ← hk]⟩)
   ·rw [if_neg hk]
    have h2 : zp k' a = false := by simp [zp, ← ha, hk]
    rw [h2]
  ·rw [if_neg (by simpa using ha)] at h
   obtain ⟨i, hi, rfl⟩ := Option.map_eq_some_iff.1 h
   simp only [List.eraseIdx_cons_succ, List.find?_cons]
   have ih := qtq hi hn.2 k'
   by_cases hk : k' = k
   ·subst hk
    have : zp k' a = false := by simpa using ha
    rw [this, if_pos rfl]
    rw [if_pos rfl] at ih
    exact ih
   ·cases h2 : zp k' a with
    | true => rw [if_neg hk]
    | false => rw [ih]
theorem q5t {m : Cont} (h : m.Ok) (k k' : List UInt8) : mGet k' (mDel k m) = if k' = k then none else mGet k' m := by
 unfold mGet mDel
 cases hf : m.l.findIdx? (zp k) with
 | some j =>
  simp only [qtq hf h.key k']
  split <;> rfl
 | none =>
  simp only
  split
  ·rename_i hk; subst hk; rw [qzt hf]; rfl
  ·rfl
theorem q5u (k v : List UInt8) (m : Cont) : (mPut k v m).l.length ≤ m.l.length + 1 := by
 unfold mPut
 split <;> simp
theorem qv9 (k : List UInt8) (m : Cont) : (mDel k m).l.length ≤ m.l.length := (qkt k m).length_le
def kvOk (x : KV) : Prop := 1 ≤ x.2.1.length ∧ x.2.1.length ≤ 40 ∧ x.2.2.length ≤ 900
theorem xh7 {k v : List UInt8} {m : Cont} {x : KV} (h : x ∈ (mPut k v m).l) : x ∈ m.l ∨ (x.2.1 = k ∧ x.2.2 = v) := by
 unfold mPut at h
 split at h
 ·rename_i j hj
  simp only at h
  obtain ⟨i, hi⟩ := List.getElem?_of_mem h
  rw [List.getElem?_modify] at hi
  cases hg : m.l[i]? with
  | none => rw [hg] at hi; cases hi
  | some y =>
   rw [hg] at hi
   simp only [Option.map_eq_map, Option.map_some, Option.some.injEq] at hi
   split at hi
   ·subst hi; exact .inr ⟨rfl, rfl⟩
   ·subst hi; exact .inl (List.mem_of_getElem? hg)
 ·rcases List.mem_append.1 h with h | h
  ·exact .inl h
  ·simp at h; subst h; exact .inr ⟨rfl, rfl⟩
structure Cont.Good (m : Cont) : Prop where
 ok : m.Ok
 few : m.l.length ≤ 400
 small : ∀ x ∈ m.l, kvOk x
theorem qgf : ∀ (l : List OpS) {m : Cont}, m.Good → (∀ o ∈ l, jz o = true) → (jp m l).2 = true → (jp m l).1.Good
 | [], m, h, _, _ => h
 | o :: l, m, h, hp, hy => by
  rw [jp] at hy ⊢
  have ho := vy.1 (hp o (List.mem_cons_self ..))
  have hp' := fun x hx => hp x (List.mem_cons_of_mem _ hx)
  split at hy
  ·rename_i hd
   rw [if_pos hd]
   exact qgf l ⟨qqv h.ok _, Nat.le_trans (qv9 _ _) h.few, fun x hx => h.small x ((qkt _ _).subset hx)⟩ hp' hy
  ·rename_i hd
   rw [if_neg hd]
   split at hy
   ·cases hy
   ·rename_i h4
    rw [if_neg h4]
    refine qgf l ⟨qqu h.ok _ _, by omega, fun x hx => ?_⟩ hp' hy
    rcases xh7 hx with hx | ⟨h1, h2⟩
    ·exact h.small x hx
    ·exact ⟨by rw [h1]; exact ho.1, by rw [h1]; exact ho.2.1, by rw [h2]; exact ho.2.2.1⟩
theorem qqw (f r : List UInt8) (hr : r.length ≤ 2000) : (yl f r).length ≤ f.length + 70000 := by
 have := qqn _ r (Nat.le_refl _)
 unfold yl
 rw [qqo _ _ (fun q hq => (qbb _ r (Nat.le_refl _) q hq).2)]
 simp only; omega
structure Sto.Ok (n : Nat) (s : Sto) : Prop where
 good : s.m.Good
 file : s.file.length ≤ n * 70000
theorem q3o (n : Nat) : newS.Ok n := by
 refine ⟨⟨⟨List.nodup_nil, fun x hx => (by cases hx), List.nodup_nil⟩, ?_, fun x hx => (by cases hx)⟩, ?_⟩
 ·simp only [newS, qdi, List.length_nil, Nat.zero_le]
 ·simp only [newS, List.length_nil, Nat.zero_le]
theorem Sto.Ok.mono {n m : Nat} {s : Sto} (h : s.Ok n) (hn : n ≤ m) : s.Ok m := ⟨h.good, Nat.le_trans h.file (Nat.mul_le_mul_right _ hn)⟩
theorem qku (s : Sto) (l : List OpS) : ((xf s l).2 ≠ 0 ∧ (xf s l).1 = s) ∨ ((xf s l).2 = 0 ∧ (qr l).2 = 0 ∧ (jp s.m l).2 = true ∧ (xf s l).1 = ⟨yl s.file (qr l).1, s.synced, (jp s.m l).1⟩) := by
 unfold xf
 split
 ·exact .inl ⟨by assumption, rfl⟩
 ·split
  ·exact .inl ⟨by simp, rfl⟩
  ·rename_i h1 h2
   exact .inr ⟨rfl, by simpa using h1, by simpa using h2, rfl⟩
theorem qjf {n : Nat} {s : Sto} (h : s.Ok n) (l : List OpS) : (xf s l).1.Ok (n + 1) := by
 rcases qku s l with ⟨_, he⟩ | ⟨_, h1, h2, he⟩
 ·rw [he]; exact h.mono (Nat.le_succ _)
 ·rw [he]
  refine ⟨qgf l h.good (v6 h1).2.1 h2, ?_⟩
  have := qqw s.file _ (qai l)
  have := h.file
  simp only; omega
def vj (k : List UInt8) : Option (List UInt8) → List OpS → Option (List UInt8)
 | a, [] => a
 | a, o :: l => vj k (if o.key = k then (if o.del then none else some o.val) else a) l
theorem qfv (k : List UInt8) : ∀ (l : List OpS) {m : Cont}, m.Ok → (jp m l).2 = true → mGet k (jp m l).1 = vj k (mGet k m) l
 | [], m, _, _ => rfl
 | o :: l, m, h, hy => by
  rw [jp] at hy ⊢
  rw [vj]
  split at hy
  ·rename_i hd
   rw [if_pos hd, qfv k l (qqv h _) hy, q5t h]
   congr 1
   by_cases hk : k = o.key
   ·rw [if_pos hk, if_pos hk.symm, if_pos hd]
   ·rw [if_neg hk, if_neg (Ne.symm hk)]
  ·rename_i hd
   rw [if_neg hd]
   split at hy
   ·cases hy
   ·rename_i h4
    rw [if_neg h4, qfv k l (qqu h _ _) hy, q5s]
    congr 1
    by_cases hk : k = o.key
    ·rw [if_pos hk, if_pos hk.symm, if_neg hd]
    ·rw [if_neg hk, if_neg (Ne.symm hk)]
end Go.Proofs.YtkcdbcbpbolgkaaGreatDoor
namespace Go.Proofs.YtkcdbcbpbolgkaaGreatDoor
open Go.Abs
theorem qi2 (w : List UInt8) : qbo (qd w) = w := by
 induction w with
 | nil => rfl
 | cons c w ih => simp_all [qbo, qd]
theorem xmz (w : List UInt8) : (∃ l, qd w = qd l) = True := eq_true ⟨w, rfl⟩
theorem xp2 : (∃ l, ([] : List (List D)) = qd l) = True := eq_true ⟨[], rfl⟩
theorem qwb : qbo [] = [] := rfl
attribute [go_sem] qi2 xmz xp2 qwb
noncomputable section
set_option maxRecDepth 100000
set_option linter.defProp false
def d30 := cut Tryz.prog Tryz.f30 news
@[go_sem] def E30 := ql d30
def d24 := cut Tryz.prog Tryz.f24 news
@[go_sem] def E24 := ql d24
end
theorem xcw (m : Cont) (p : List UInt8) : (qc7 m p).length ≤ m.l.length := by
 rw [qc7, (v7 _).length_eq]
 simp only [preL, List.length_map]
 exact List.length_filter_le _ _
theorem qar {α : Type} {f : α → Bool} {l : List α} {i : Nat} (h : (l.take i).all f = true) (hil : i < l.length) (hf : f l[i] = true) : (l.take (i + 1)).all f = true := by
 rw [List.take_succ_eq_append_getElem hil, List.all_append, h]; simp [hf]
theorem qqx {α : Type} {f : α → Bool} {l : List α} {i : Nat} (hil : i < l.length) (hf : f l[i] = false) : l.all f = false := by
 rw [List.all_eq_false]; exact ⟨l[i], List.getElem_mem hil, by simp [hf]⟩
structure StepS where
 kind : Int
 ops : List OpS
 deriving DecidableEq, Inhabited
def zk (x : StepS) : List D := [.int .i64 x.kind, .sl 3 (x.ops.map qp)]
theorem qkv (o : StepS) : D.noPtrL (zk o) = true := by simp only [zk, D.noPtrL, D.noPtr, qby, Bool.and_self]
theorem q3p (l : List StepS) : D.noPtrR (l.map zk) = true := xw qkv l
attribute [go_sem] qkv q3p
noncomputable section
set_option maxRecDepth 100000
set_option linter.defProp false
end
def ops1 : List OpS := [⟨[97], false, [1]⟩, ⟨[98], false, [2]⟩]
def ops2 : List OpS := [⟨[97], true, []⟩]
def st1 : Sto := (xf newS ops1).1
def st2 : Sto := (xf st1 ops2).1
theorem c1 : (xf newS ops1).2 = 0 := by decide +kernel
theorem c2 : (xf st1 ops2).2 = 0 := by decide +kernel
theorem c3 : qc7 st2.m [] = [([98], [2])] := by decide +kernel
end Go.Proofs.YtkcdbcbpbolgkaaGreatDoor
namespace Go.Proofs.YtkcdbcbpbolgkaaGreatDoor
open Go.Abs
theorem xm2 (s : List UInt8) : (((s.length : Nat) : Int) == 0) = (s == []) := by cases s <;> simp <;> omega
noncomputable section
set_option maxRecDepth 100000
set_option linter.defProp false
def d189 := cut Tryz.prog Tryz.f189 news
@[go_sem] def E189 := ql d189
def F189 := fnC d189 follows Tryz.func189
def d191 := cut Tryz.prog Tryz.f191 news
@[go_sem] def E191 := ql d191
def F191 := fnC d191 follows Tryz.func191
def d185 := cut Tryz.prog Tryz.f185 news
@[go_sem] def E185 := ql d185
def F185 := fnC d185 follows Tryz.func185
def d186 := cut Tryz.prog Tryz.f186 news
@[go_sem] def E186 := ql d186
def F186 := fnC d186 follows Tryz.func186
def d269 := cut Tryz.prog Tryz.f269 news
@[go_sem] def E269 := ql d269
def F269 := fnC d269 follows Tryz.func269
def d183 := cut Tryz.prog Tryz.f183 news
@[go_sem] def E183 := ql d183
def F183 := fnC d183 follows Tryz.func183
def xp5 := cut Tryz.prog Tryz.f190 news
@[go_sem] def xth := ql xp5
def q3q := fnC xp5 follows Tryz.func190
def d223 := cut Tryz.prog Tryz.f223 news
@[go_sem] def E223 := ql d223
def F223 := fnC d223 follows Tryz.func223
end
theorem qfw (a b : List UInt8) : qg Tryz.prog 190 [.d (.sl 1 (qd a)), .d (.sl 1 (qd b))] [] (.d (.bool (a == b))) [] := by
 refine q3q.go ?_
 try (refine ev ?_; try exact True.intro)
def qni (s : List UInt8) : Bool := decide ((s.length : Int) ≥ 1) && decide ((s.length : Int) ≤ 30)
theorem qkw (s : List UInt8) : qg Tryz.prog 183 [.d (.str s)] [] (.d (.bool (qni s))) [] := by
 refine F183.go ?_
 try (refine ev1 @qni.eq_1 ?_; try exact True.intro)
def nKey (s : List UInt8) : List UInt8 := s ++ [47, 110]
def sKey (s : List UInt8) (d : Nat) : List UInt8 := s ++ [47, UInt8.ofNat (48 + d)]
theorem qwc (s : List UInt8) (h : s.length ≤ 1000) : qg Tryz.prog 185 [.d (.str s)] [] (.d (.str (nKey s))) [] := by
 refine F185.go ?_
 try (refine ev1 @nKey.eq_1 ?_; try exact True.intro)
 omega
theorem ql9 (s : List UInt8) (d : Nat) (h : s.length ≤ 1000) (hd : d < 4) : qg Tryz.prog 186 [.d (.str s), .d (.int .i64 d)] [] (.d (.str (sKey s d))) [] := by
 refine F186.go ?_
 have h4 : d = 0 ∨ d = 1 ∨ d = 2 ∨ d = 3 := by omega
 have e0 : (Utf8.encode (IntKind.i32.wrap (IntKind.i64.wrap 48))).data.toList = [48] := by decide
 have e1 : (Utf8.encode (IntKind.i32.wrap (IntKind.i64.wrap 49))).data.toList = [49] := by decide
 have e2 : (Utf8.encode (IntKind.i32.wrap (IntKind.i64.wrap 50))).data.toList = [50] := by decide
 have e3 : (Utf8.encode (IntKind.i32.wrap (IntKind.i64.wrap 51))).data.toList = [51] := by decide
 rcases h4 with rfl | rfl | rfl | rfl
 all_goals
  try (refine ev6 @sKey.eq_1 @e0 @e1 @e2 @e3 @List.append_assoc.{0} ?_; try exact True.intro)
  exact ⟨by omega, by omega, rfl⟩
def qaj (q : Qu) : List UInt8 := if q.acc = 0 ∧ q.cons = 0 then [] else wInt q.acc ++ wInt q.cons
theorem qkx (q : Qu) (h1 : I64 q.acc) (h2 : I64 q.cons) : qg Tryz.prog 189 [.d (.agg (encQ q))] [] (.d (.sl 1 (qd (qaj q)))) [] := by
 have a1 := xo h1
 refine F189.go ?_
 try (refine ev1 @encQ.eq_1 ?_; try exact True.intro)
 refine xn _ (fun h => ?_) (fun h => ?_)
 ·have hb : qaj q = [] := by unfold qaj; rw [if_pos]; simpa using h
  try (refine ev2 @hb @qx ?_; try exact True.intro)
 ·have hb : qaj q = wInt q.acc ++ wInt q.cons := by unfold qaj; rw [if_neg]; simpa using h
  try (refine ev ?_; try exact True.intro)
  refine clA F147 (jy [] q.acc (by simp) h1) ?_
  try (refine ev ?_; try exact True.intro)
  refine clA F147 (jy ([] ++ wInt q.acc) q.cons (by rw [List.nil_append]; omega) h2) ?_
  try (refine ev1 @hb ?_; try exact True.intro)
theorem q5v {α : Type} {f : α → Bool} {l : List α} {i : Nat} (hi : (l.take i).find? f = none) (hil : i < l.length) (h : f l[i] = true) : l.find? f = some l[i] := by
 have e : l.find? f = (l.take i ++ l.drop i).find? f := by rw [List.take_append_drop]
 rw [e, List.find?_append, hi, List.drop_eq_getElem_cons hil]
 simp only [Option.none_or, List.find?_cons, h]
def qa5 (q : Qu) (d : Int) : List UInt8 := match q.items.find? (fun p => p.seq.tmod 4 == d) with
 | some p => (qa1 p).1
 | none => []
def q5w (q : Qu) (d : Int) (i : { i : Nat // (q.items.take i).find? (fun p => p.seq.tmod 4 == d) = none }) : St :=
 ⟨[(1, true, .d (.int .i64 d)), (10, true, .d (.sl 9 (q.items.map qe))), (11, true, .d (.int .i64 q.items.length)), (12, true, .d (.int .i64 (i.val : Nat)))], [], [], 1⟩
structure Qu.W (q : Qu) : Prop where
 a : I64 q.acc
 c : I64 q.cons
 p : ∀ p ∈ q.items, p.W
set_option maxRecDepth 10000 in
theorem qky (q : Qu) (d : Int) (hq : q.Sm) (hw : q.W) : qg Tryz.prog 191 [.d (.agg (encQ q)), .d (.int .i64 d)] [] (.d (.sl 1 (qd (qa5 q d)))) [] := by
 have hl := hq.1
 refine F191.go ?_
 try (refine ev1 @encQ.eq_1 ?_; try exact True.intro)
 refine qj (q5w q d) (fun i => q.items.length - i.val) ⟨0, rfl⟩ ?_ (fun i => ?_)
 ·try (refine ev2 @q5w.eq_1 @Int.ofNat_zero ?_; try exact True.intro)
 obtain ⟨i, hi⟩ := i
 try (refine ev1 @q5w.eq_1 ?_; try exact True.intro)
 refine xn _ (fun h => ?_) (fun h => ?_)
 ·have hil : i < q.items.length := by simpa using h
  have hen := q8k q.items[i] (hq.2 _ (List.getElem_mem hil)) (hw.p _ (List.getElem_mem hil))
  simp only [qe] at hen
  try (refine ev2 (qi qe q.items hil) @qe.eq_1 ?_; try exact True.intro)
  (repeat (with_reducible refine ob ?_))
  refine xn _ (fun h => ?_) (fun h => ?_)
  ·have hb : qa5 q d = (qa1 q.items[i]).1 := by
    unfold qa5; rw [q5v hi hil h]
   try (refine ev ?_; try exact True.intro)
   (repeat (with_reducible refine ob ?_)); first | refine cl F255 (hen) ?_ | refine clF F255 (hen) (fun _ => by (refine ev3 @qe.eq_1 @encQ.eq_1 @qp.eq_1 ?_; try exact True.intro)) ?_
   try (refine ev1 @hb ?_; try exact True.intro)
  ·try (refine ev ?_; try exact True.intro)
   refine ⟨⟨i + 1, ?_⟩, ?_, by dsimp only; omega⟩
   ·rw [List.take_succ_eq_append_getElem hil, List.find?_append, hi]
    simp only [Option.none_or, List.find?_cons, h, List.find?_nil]
   ·try (refine ev2 @q5w.eq_1 (qf (show i < 9223372036854775807 by omega)) ?_; try exact True.intro)
 ·have hil : q.items.length ≤ i := by simpa using h
  have hb : qa5 q d = [] := by
   rw [List.take_of_length_le hil] at hi
   unfold qa5; rw [hi]
  try (refine ev2 @hb @qx ?_; try exact True.intro)
def chg (k : List UInt8) (old next : List UInt8) : List OpS := if old = next then [] else [⟨k, next == [], next⟩]
theorem qzu (l : List OpS) (k old next : List UInt8) (hl : l.length ≤ 1000) : qg Tryz.prog 269 [.own 0 3 (l.map qp), .d (.str k), .d (.sl 1 (qd old)), .d (.sl 1 (qd next))] [] (.own 0 3 ((l ++ chg k old next).map qp)) [] := by
 refine F269.go ?_
 try (refine ev ?_; try exact True.intro)
 (repeat (with_reducible refine ob ?_)); first | refine cl q3q (qfw old next) ?_ | refine clF q3q (qfw old next) (fun _ => by (refine ev3 @qe.eq_1 @encQ.eq_1 @qp.eq_1 ?_; try exact True.intro)) ?_
 try (refine ev ?_; try exact True.intro)
 refine xn _ (fun h => ?_) (fun h => ?_)
 ·have hb : chg k old next = [] := by unfold chg; rw [if_pos (by simpa using h)]
  try (refine ev2 @hb @List.append_nil.{0} ?_; try exact True.intro)
 ·have hb : chg k old next = [⟨k, next == [], next⟩] := by unfold chg; rw [if_neg (by simpa using h)]
  try (refine ev6 @hb @List.map_append.{0,0} @List.map_cons.{0,0} @List.map_nil.{0,0} @qp.eq_1 @xm2 ?_; try exact True.intro)
  omega
def vq (a b : Qu) (name : List UInt8) : Nat → List OpS
 | 0 => chg (nKey name) (qaj a) (qaj b)
 | d + 1 => vq a b name d ++ chg (sKey name d) (qa5 a d) (qa5 b d)
def ve (a b : Qu) (name : List UInt8) : List OpS × Int := if (!wy a || !wy b || !qni name) = true then ([], 1) else (vq a b name 4, 0)
theorem xcz (k a b : List UInt8) : (chg k a b).length ≤ 1 := by unfold chg; split <;> simp
theorem qfx (a b : Qu) (name : List UInt8) : ∀ d, (vq a b name d).length ≤ d + 1
 | 0 => xcz _ _ _
 | d + 1 => by
  have := qfx a b name d
  have := xcz (sKey name d) (qa5 a d) (qa5 b d)
  rw [vq, List.length_append]; omega
def xh8 (a b : Qu) (name : List UInt8) (d : Nat) : St :=
 ⟨[(2, true, .d (.str name)), (3, true, .d (.ptr 0 0)), (4, true, .d (.ptr 1 0)), (8, true, .own 0 3 ((vq a b name d).map qp)), (30, true, .d (.int .i64 (d : Nat)))], [.row ((encQ a).map .d), .row ((encQ b).map .d)], [0], 1⟩
set_option maxRecDepth 10000 in
theorem q3r (a b : Qu) (name : List UInt8) (ha : a.Sm) (wa : a.W) (hb : b.Sm) (wb : b.W) (hn : name.length ≤ 1000) :
  qg Tryz.prog 223 [.d (.agg (encQ a)), .d (.agg (encQ b)), .d (.str name)] [] (.tup [.d (.sl 3 ((ve a b name).1.map qp)), .d (.int .i64 (ve a b name).2)]) [] := by
 refine F223.goT ?_
 try (refine ev1 @encQ.eq_1 ?_; try exact True.intro)
 (repeat (with_reducible refine ob ?_)); first | refine cl F188 (qb1 a ha) ?_ | refine clF F188 (qb1 a ha) (fun _ => by (refine ev3 @qe.eq_1 @encQ.eq_1 @qp.eq_1 ?_; try exact True.intro)) ?_
 try (refine ev ?_; try exact True.intro)
 (repeat (with_reducible refine ob ?_)); first | refine cl F188 (qb1 b hb) ?_ | refine clF F188 (qb1 b hb) (fun _ => by (refine ev3 @qe.eq_1 @encQ.eq_1 @qp.eq_1 ?_; try exact True.intro)) ?_
 try (refine ev ?_; try exact True.intro)
 (repeat (with_reducible refine ob ?_)); first | refine cl F183 (qkw name) ?_ | refine clF F183 (qkw name) (fun _ => by (refine ev3 @qe.eq_1 @encQ.eq_1 @qp.eq_1 ?_; try exact True.intro)) ?_
 try (refine ev ?_; try exact True.intro)
 (repeat (with_reducible refine ob ?_))
 refine xn _ (fun h => ?_) (fun h => ?_)
 ·have hx : ve a b name = ([], 1) := by unfold ve; rw [if_pos h]
  try (refine ev2 @hx @List.map_nil.{0,0} ?_; try exact True.intro)
 have hx : ve a b name = (vq a b name 4, 0) := by unfold ve; rw [if_neg]; simp [h]
 try (refine ev ?_; try exact True.intro)
 (repeat (with_reducible refine ob ?_)); first | refine cl F185 (qwc name hn) ?_ | refine clF F185 (qwc name hn) (fun _ => by (refine ev3 @qe.eq_1 @encQ.eq_1 @qp.eq_1 ?_; try exact True.intro)) ?_
 try (refine ev ?_; try exact True.intro)
 (repeat (with_reducible refine ob ?_)); first | refine cl F189 (qkx a wa.a wa.c) ?_ | refine clF F189 (qkx a wa.a wa.c) (fun _ => by (refine ev3 @qe.eq_1 @encQ.eq_1 @qp.eq_1 ?_; try exact True.intro)) ?_
 try (refine ev ?_; try exact True.intro)
 (repeat (with_reducible refine ob ?_)); first | refine cl F189 (qkx b wb.a wb.c) ?_ | refine clF F189 (qkx b wb.a wb.c) (fun _ => by (refine ev3 @qe.eq_1 @encQ.eq_1 @qp.eq_1 ?_; try exact True.intro)) ?_
 try (refine ev ?_; try exact True.intro)
 refine clA F269 (qzu [] (nKey name) (qaj a) (qaj b) (by simp)) ?_
 try (refine ev ?_; try exact True.intro)
 refine qj (fun d : { d : Nat // d ≤ 4 } => xh8 a b name d.val) (fun d => 4 - d.val) ⟨0, Nat.zero_le _⟩ ?_ (fun d => ?_)
 ·try simp only [xh8, Int.ofNat_zero, vq, encQ, go_sem, Nat.reduceAdd, Nat.reduceMul, Nat.reduceSub, Nat.reduceEqDiff, Nat.reduceLT, Nat.reduceLeDiff, Nat.reduceBEq, reduceIte, reduceCtorEq, Int.reduceAdd, Int.reduceLT, Int.reduceLE, Int.reduceGT, Int.reduceGE, Int.reduceEq, Int.reduceNe, Int.reduceBEq, Int.reduceBNe, Int.reduceToNat, Int.reduceNeg]
 obtain ⟨d, hd⟩ := d
 try (refine ev2 @xh8.eq_1 @encQ.eq_1 ?_; try exact True.intro)
 refine xn _ (fun h => ?_) (fun h => ?_)
 ·have hl : d < 4 := by simp at h; omega
  have := qfx a b name d
  try (refine ev ?_; try exact True.intro)
  (repeat (with_reducible refine ob ?_)); first | refine cl F186 (ql9 name d hn hl) ?_ | refine clF F186 (ql9 name d hn hl) (fun _ => by (refine ev3 @qe.eq_1 @encQ.eq_1 @qp.eq_1 ?_; try exact True.intro)) ?_
  try (refine ev ?_; try exact True.intro)
  (repeat (with_reducible refine ob ?_)); first | refine cl F191 (qky a d ha wa) ?_ | refine clF F191 (qky a d ha wa) (fun _ => by (refine ev3 @qe.eq_1 @encQ.eq_1 @qp.eq_1 ?_; try exact True.intro)) ?_
  try (refine ev ?_; try exact True.intro)
  (repeat (with_reducible refine ob ?_)); first | refine cl F191 (qky b d hb wb) ?_ | refine clF F191 (qky b d hb wb) (fun _ => by (refine ev3 @qe.eq_1 @encQ.eq_1 @qp.eq_1 ?_; try exact True.intro)) ?_
  try (refine ev ?_; try exact True.intro)
  refine clA F269 (qzu (vq a b name d) (sKey name d) (qa5 a d) (qa5 b d) (by omega)) ?_
  try (refine ev ?_; try exact True.intro)
  refine ⟨⟨d + 1, hl⟩, ?_, by dsimp only; omega⟩
  try simp only [xh8, encQ, vq, qf (show d < 9223372036854775807 by omega), go_sem, Nat.reduceAdd, Nat.reduceMul, Nat.reduceSub, Nat.reduceEqDiff, Nat.reduceLT, Nat.reduceLeDiff, Nat.reduceBEq, reduceIte, reduceCtorEq, Int.reduceAdd, Int.reduceLT, Int.reduceLE, Int.reduceGT, Int.reduceGE, Int.reduceEq, Int.reduceNe, Int.reduceBEq, Int.reduceBNe, Int.reduceToNat, Int.reduceNeg]
 ·have hl : d = 4 := by simp at h; omega
  subst hl
  try (refine ev1 @hx ?_; try exact True.intro)
end Go.Proofs.YtkcdbcbpbolgkaaGreatDoor
namespace Go.Proofs.YtkcdbcbpbolgkaaGreatDoor
open Go.Abs
theorem qkz {α : Type} {f : α → Bool} {l : List α} {i : Nat} (h : (l.take i).all f = true) (hi : l.length ≤ i) : l.all f = true := by
 rwa [List.take_of_length_le hi] at h
noncomputable section
set_option maxRecDepth 100000
set_option linter.defProp false
def d201 := cut Tryz.prog Tryz.f201 news
@[go_sem] def E201 := ql d201
def d202 := cut Tryz.prog Tryz.f202 news
@[go_sem] def E202 := ql d202
def d264 := cut Tryz.prog Tryz.f264 news
@[go_sem] def E264 := ql d264
def d203 := cut Tryz.prog Tryz.f203 news
@[go_sem] def E203 := ql d203
def d114 := cut Tryz.prog Tryz.f114 news
@[go_sem] def E114 := ql d114
end
def qn6 (p : Pk) : AObj := .row [.d (.int .i64 p.kind), .d (.int .i64 p.sess), .d (.int .i64 p.epoch), .d (.int .i64 p.from_), .d (.int .i64 p.to), .d (.int .i64 p.seq), .d (.int .i64 p.label), .d (.sl 3 (p.values.map xq)), .d (.sl 1 (p.clock.map encI))]
end Go.Proofs.YtkcdbcbpbolgkaaGreatDoor
namespace Go.Proofs.YtkcdbcbpbolgkaaGreatDoor
open Go.Abs
noncomputable section
set_option maxRecDepth 100000
set_option linter.defProp false
def d209 := cut Tryz.prog Tryz.f209 news
@[go_sem] def E209 := ql d209
def d210 := cut Tryz.prog Tryz.f210 news
@[go_sem] def E210 := ql d210
def d124 := cut Tryz.prog Tryz.f124 news
@[go_sem] def E124 := ql d124
def d111 := cut Tryz.prog Tryz.f111 news
@[go_sem] def E111 := ql d111
def d36 := cut Tryz.prog Tryz.f36 news
@[go_sem] def E36 := ql d36
def F36 := fnC d36 follows Tryz.func36
end
def qho (v : AV) : Bool := !decide ((v.s.length : Int) > 100)
def qma (p : Pk) : Bool := p.values.all qho && (decide ((p.values.length : Int) ≤ 10) && decide ((p.clock.length : Int) ≤ 10))
def q52 (p : Pk) (i : { i : Nat // (p.values.take i).all qho = true }) : St := ⟨[(1, true, .d (.ptr 0 0)), (3, true, .d (.int .i64 (i.val : Nat)))], [qn6 p], [], 1⟩
theorem q53 (p : Pk) (hp : p.values.length ≤ maxLen) : qg Tryz.prog 36 [.d (.agg (qe p))] [] (.d (.bool (qma p))) [] := by
 unfold maxLen at hp
 first | refine F36.go ?_ | refine F36.goT ?_
 (refine ev1 @qe.eq_1 ?_; try exact True.intro)
 refine qj (q52 p) (fun i => p.values.length - i.val) ⟨0, rfl⟩ ?_ (fun i => ?_)
 ·try (refine ev2 @q52.eq_1 @qn6.eq_1 ?_; try exact True.intro)
 obtain ⟨i, hi⟩ := i
 try (refine ev2 @q52.eq_1 @qn6.eq_1 ?_; try exact True.intro)
 refine qs _ rfl rfl (fun h => ?_) (fun h => ?_)
 ·have hil : i < p.values.length := by simpa using h
  (refine ev2 (qi xq p.values hil) @xq.eq_1 ?_; try exact True.intro)
  (repeat (with_reducible refine ob ?_))
  refine qs _ rfl rfl (fun h2 => ?_) (fun h2 => ?_)
  ·have hg : qho p.values[i] = false := by simp only [qho, h2]; rfl
   (refine ev2 @qma.eq_1 (qqx hil hg) ?_; try exact True.intro)
  ·have hg : qho p.values[i] = true := by simp only [qho, h2]; rfl
   try (refine ev ?_; try exact True.intro)
   refine ⟨⟨i + 1, qar hi hil hg⟩, ?_, by dsimp only; omega⟩
   (refine ev3 @q52.eq_1 @qn6.eq_1 (qf (show i < 9223372036854775807 by omega)) ?_; try exact True.intro)
 ·have hall : p.values.all qho = true := qkz hi (by simpa using h)
  (refine ev2 @qma.eq_1 @hall ?_; try exact True.intro)
end Go.Proofs.YtkcdbcbpbolgkaaGreatDoor
namespace Go.Proofs.YtkcdbcbpbolgkaaGreatDoor
open Go.Abs
structure Ue where
 sess : Int
 phase : Int
 moved : List Bool
 opened : List Bool
 deriving DecidableEq, Inhabited
def encB (b : Bool) : List D := [.bool b]
theorem qts (b : Bool) : D.noPtrL (encB b) = true := rfl
theorem qcn (l : List Bool) : D.noPtrR (l.map encB) = true := xw qts l
def qn (x : Ue) : List D := [.int .i64 x.sess, .int .i64 x.phase, .sl 1 (x.moved.map encB), .sl 1 (x.opened.map encB)]
theorem qjg (x : Ue) : D.noPtrL (qn x) = true := by simp only [qn, D.noPtrL, D.noPtr, qcn, Bool.and_self]
theorem qfy (l : List Ue) : D.noPtrR (l.map qn) = true := xw qjg l
structure Mg where
 roles : Int
 ents : List Ue
 deriving DecidableEq, Inhabited
def qu (m : Mg) : List D := [.int .i64 m.roles, .sl 4 (m.ents.map qn)]
theorem q3t (m : Mg) : D.noPtrL (qu m) = true := by simp only [qu, D.noPtrL, D.noPtr, qfy, Bool.and_self]
attribute [go_sem] qts qcn qjg qfy q3t
def Ue.Sm (x : Ue) : Prop := x.moved.length ≤ 1000 ∧ x.opened.length ≤ 1000
def Mg.Sm (m : Mg) : Prop := m.ents.length ≤ 1000 ∧ ∀ x ∈ m.ents, x.Sm
noncomputable section
set_option maxRecDepth 100000
set_option linter.defProp false
def d266 := cut Tryz.prog Tryz.f266 news
@[go_sem] def E266 := ql d266
def F266 := fnC d266 follows Tryz.func266
def d211 := cut Tryz.prog Tryz.f211 news
@[go_sem] def E211 := ql d211
def F211 := fnC d211 follows Tryz.func211
def d134 := cut Tryz.prog Tryz.f134 news
@[go_sem] def E134 := ql d134
def F134 := fnC d134 follows Tryz.func134
def d69 := cut Tryz.prog Tryz.f69 news
@[go_sem] def E69 := ql d69
def F69 := fnC d69 follows Tryz.func69
end
def hasB (v : Bool) (l : List Bool) : Bool := l.any fun b => v == b
def q54 (l : List Bool) (v : Bool) (i : { i : Nat // (l.take i).any (fun b => v == b) = false }) : St :=
 ⟨[(0, true, .d (.sl 1 (l.map encB))), (1, true, .d (.bool v)), (7, true, .d (.int .i64 l.length)), (8, true, .d (.int .i64 (i.val : Nat)))], [], [], 1⟩
theorem qtt (l : List Bool) (v : Bool) (hl : l.length ≤ 1000) : qg Tryz.prog 266 [.d (.sl 1 (l.map encB)), .d (.bool v)] [] (.d (.int .i64 (idx (fun b => v == b) l))) [] := by
 refine F266.go ?_
 try (refine ev ?_; try exact True.intro)
 refine qj (q54 l v) (fun i => l.length - i.val) ⟨0, rfl⟩ ?_ (fun i => ?_)
 ·try (refine ev1 @q54.eq_1 ?_; try exact True.intro)
 obtain ⟨i, hi⟩ := i
 try (refine ev1 @q54.eq_1 ?_; try exact True.intro)
 (repeat (with_reducible refine ob ?_)); refine xn _ (fun h => ?_) (fun h => ?_)
 ·have hil : i < l.length := by simpa using h
  (refine ev2 (qi encB l hil) @encB.eq_1 ?_; try exact True.intro)
  (repeat (with_reducible refine ob ?_))
  refine xn _ (fun h2 => ?_) (fun h2 => ?_)
  ·try (refine ev1 (qey (f := fun b => v == b) hi hil h2) ?_; try exact True.intro)
  ·try (refine ev ?_; try exact True.intro)
   refine ⟨⟨i + 1, vn hi hil h2⟩, ?_, by dsimp only; omega⟩
   try (refine ev2 @q54.eq_1 (qf (show i < 9223372036854775807 by omega)) ?_; try exact True.intro)
 ·have hil : l.length ≤ i := by simpa using h
  try (refine ev1 (qex hi hil) ?_; try exact True.intro)
theorem qas (l : List Bool) (v : Bool) (hl : l.length ≤ 1000) : qg Tryz.prog 211 [.d (.sl 1 (l.map encB)), .d (.bool v)] [] (.d (.bool (hasB v l))) [] := by
 refine F211.go ?_
 try (refine ev ?_; try exact True.intro)
 (repeat (with_reducible refine ob ?_)); first | refine cl F266 (qtt l v hl) ?_ | refine clF F266 (qtt l v hl) (fun _ => by (refine ev2 @qn.eq_1 @qu.eq_1 ?_; try exact True.intro)) ?_
 try (refine ev2 @qtk @hasB.eq_1 ?_; try exact True.intro)
def zm (x : Ue) : Int :=
 if !hasB false x.moved && !hasB false x.opened then 3 else if !hasB false x.moved then 2 else if hasB true x.opened then 0 else 1
theorem qbi (x : Ue) (hx : x.Sm) : qg Tryz.prog 134 [.d (.agg (qn x))] [] (.d (.int .i64 (zm x))) [] := by
 refine F134.go ?_
 try (refine ev1 @qn.eq_1 ?_; try exact True.intro)
 (repeat (with_reducible refine ob ?_)); first | refine cl F211 (qas x.moved false hx.1) ?_ | refine clF F211 (qas x.moved false hx.1) (fun _ => by (refine ev2 @qn.eq_1 @qu.eq_1 ?_; try exact True.intro)) ?_
 try (refine ev ?_; try exact True.intro)
 (repeat (with_reducible refine ob ?_)); first | refine cl F211 (qas x.opened false hx.2) ?_ | refine clF F211 (qas x.opened false hx.2) (fun _ => by (refine ev2 @qn.eq_1 @qu.eq_1 ?_; try exact True.intro)) ?_
 try (refine ev ?_; try exact True.intro)
 refine xn _ (fun h1 => ?_) (fun h1 => ?_)
 ·have e : zm x = 3 := by simp_all [zm]
  try (refine ev1 @e ?_; try exact True.intro)
 try (refine ev ?_; try exact True.intro)
 refine xn _ (fun h2 => ?_) (fun h2 => ?_)
 ·have e : zm x = 2 := by simp_all [zm]
  try (refine ev1 @e ?_; try exact True.intro)
 try (refine ev ?_; try exact True.intro)
 (repeat (with_reducible refine ob ?_)); first | refine cl F211 (qas x.opened true hx.2) ?_ | refine clF F211 (qas x.opened true hx.2) (fun _ => by (refine ev2 @qn.eq_1 @qu.eq_1 ?_; try exact True.intro)) ?_
 try (refine ev ?_; try exact True.intro)
 refine xn _ (fun h3 => ?_) (fun h3 => ?_)
 ·have e : zm x = 0 := by simp_all [zm]
  try (refine ev1 @e ?_; try exact True.intro)
 ·have e : zm x = 1 := by simp_all [zm]
  try (refine ev1 @e ?_; try exact True.intro)
theorem w01 : (IntKind.i64.wrap (0 - 1)).toNat = 0 := by decide
def qei (m : Mg) (i : Nat) : Bool :=
 decide ((m.ents.getD i default).sess < 1) || decide ((m.ents.getD i default).sess > 32) || (decide ((i : Int) > 0) && decide ((m.ents.getD i default).sess ≤ (m.ents.getD (i - 1) default).sess)) ||
 ((m.ents.getD i default).moved.length : Int) != m.roles || ((m.ents.getD i default).opened.length : Int) != m.roles || (m.ents.getD i default).phase == 0 || (m.ents.getD i default).phase != zm (m.ents.getD i default)
def zd (m : Mg) : Bool := qbz (fun i => !qei m i) m.ents.length && (decide (m.roles ≥ 1) && decide (m.roles ≤ 6))
theorem en0 (m : Mg) (h : 0 < m.ents.length) : (decide (m.ents[0].sess < 1) || decide (m.ents[0].sess > 32) || (m.ents[0].moved.length : Int) != m.roles || (m.ents[0].opened.length : Int) != m.roles || m.ents[0].phase == 0 || m.ents[0].phase != zm m.ents[0]) = qei m 0 := by
 simp only [qei, x9 h, Int.ofNat_zero, decide_false, Bool.false_and, Bool.or_false, Int.natCast_zero, show ¬ ((0 : Int) > 0) by omega]
theorem enk (m : Mg) (k : Nat) (h : k + 1 < m.ents.length) (h' : k < m.ents.length) : (decide (m.ents[k+1].sess < 1) || decide (m.ents[k+1].sess > 32) || (decide ((k : Int) + 1 > 0) && decide (m.ents[k+1].sess ≤ m.ents[k].sess)) || (m.ents[k+1].moved.length : Int) != m.roles || (m.ents[k+1].opened.length : Int) != m.roles || m.ents[k+1].phase == 0 || m.ents[k+1].phase != zm m.ents[k+1]) = qei m (k + 1) := by
 simp only [qei, x9 h, Nat.add_sub_cancel, x9 h', Int.natCast_add, Int.cast_ofNat_Int]
def zr (m : Mg) : AObj := .row [.d (.int .i64 m.roles), .d (.sl 4 (m.ents.map qn))]
def qk1 (m : Mg) (i : { i : Nat // qbz (fun i => !qei m i) i = true }) : St :=
 ⟨[(1, true, .d (.ptr 0 0)), (6, true, .d (.sl 4 (m.ents.map qn))), (7, true, .d (.int .i64 m.ents.length)), (8, true, .d (.int .i64 (i.val : Nat)))], [zr m], [], 1⟩
set_option maxRecDepth 10000 in
theorem yx (m : Mg) (hm : m.Sm) : qg Tryz.prog 69 [.d (.agg (qu m))] [] (.d (.bool (zd m))) [] := by
 have hl := hm.1
 refine F69.go ?_
 try (refine ev1 @qu.eq_1 ?_; try exact True.intro)
 refine qj (qk1 m) (fun i => m.ents.length - i.val) ⟨0, rfl⟩ ?_ (fun i => ?_)
 ·try (refine ev2 @qk1.eq_1 @zr.eq_1 ?_; try exact True.intro)
 obtain ⟨i, hi⟩ := i
 try (refine ev2 @qk1.eq_1 @zr.eq_1 ?_; try exact True.intro)
 (repeat (with_reducible refine ob ?_)); refine xn _ (fun h => ?_) (fun h => ?_)
 ·have hil : i < m.ents.length := by simpa using h
  have hx := hm.2 _ (List.getElem_mem hil)
  rcases Nat.eq_zero_or_pos i with h0 | h0
  ·subst h0
   (refine ev4 (qi qn m.ents hil) @qn.eq_1 @Int.toNat_zero @w01 ?_; try exact True.intro)
   (repeat (with_reducible refine ob ?_))
   (repeat (with_reducible refine ob ?_)); first | refine cl F134 (qbi m.ents[0] hx) ?_ | refine clF F134 (qbi m.ents[0] hx) (fun _ => by (refine ev2 @qn.eq_1 @qu.eq_1 ?_; try exact True.intro)) ?_
   try (refine ev ?_; try exact True.intro)
   refine ⟨fun h => by rw [h]; rfl, ?_⟩
   refine qs (qei m 0) rfl ?_ (fun h2 => ?_) (fun h2 => ?_)
   ·try (refine ev1 (en0 m hil) ?_; try exact True.intro)
   ·have hg : (!qei m 0) = false := by simp [h2]
    try (refine ev2 @zd.eq_1 (qe0 (g := fun i => !qei m i) hil hg) ?_; try exact True.intro)
   ·try (refine ev ?_; try exact True.intro)
    refine ⟨⟨1, yw hi (by simp [h2])⟩, ?_, by dsimp only; omega⟩
    try (refine ev3 @qk1.eq_1 @zr.eq_1 (show IntKind.i64.wrap 1 = 1 by decide) ?_; try exact True.intro)
  ·obtain ⟨k, rfl⟩ : ∃ k, i = k + 1 := ⟨i - 1, by omega⟩
   have hk : k < m.ents.length := by omega
   have hw : IntKind.i64.wrap (((k : Nat) : Int) + 1 - 1) = ((k : Nat) : Int) := by rw [wrap_i64 (by omega) (by omega)]; omega
   have hw2 : IntKind.i64.wrap (((k : Nat) : Int) + 1 + 1) = ((k : Nat) : Int) + 1 + 1 := by rw [wrap_i64 (by omega) (by omega)]
   (refine ev4 (qi qn m.ents hil) (qi qn m.ents hk) @hw @qn.eq_1 ?_; try exact True.intro)
   (repeat (with_reducible refine ob ?_))
   (repeat (with_reducible refine ob ?_)); first | refine cl F134 (qbi m.ents[k+1] hx) ?_ | refine clF F134 (qbi m.ents[k+1] hx) (fun _ => by (refine ev2 @qn.eq_1 @qu.eq_1 ?_; try exact True.intro)) ?_
   try (refine ev ?_; try exact True.intro)
   refine ⟨fun h => by rw [h]; rfl, ?_⟩
   refine qs (qei m (k + 1)) rfl ?_ (fun h2 => ?_) (fun h2 => ?_)
   ·try (refine ev1 (enk m k hil hk) ?_; try exact True.intro)
   ·have hg : (!qei m (k + 1)) = false := by simp [h2]
    try (refine ev2 @zd.eq_1 (qe0 (g := fun i => !qei m i) hil hg) ?_; try exact True.intro)
   ·try (refine ev ?_; try exact True.intro)
    refine ⟨⟨k + 1 + 1, yw hi (by simp [h2])⟩, ?_, by dsimp only; omega⟩
    try (refine ev3 @qk1.eq_1 @zr.eq_1 @hw2 ?_; try exact True.intro)
 ·have hil : m.ents.length ≤ i := by simpa using h
  have ha : qbz (fun i => !qei m i) m.ents.length = true := za.2 fun j hj => za.1 hi j (by omega)
  try (refine ev ?_; try exact True.intro)
  (repeat (with_reducible refine ob ?_))
  (refine ev2 @zd.eq_1 @ha ?_; try exact True.intro)
end Go.Proofs.YtkcdbcbpbolgkaaGreatDoor
namespace Go.Proofs.YtkcdbcbpbolgkaaGreatDoor
open Go.Abs
noncomputable section
set_option maxRecDepth 100000
set_option linter.defProp false
def d144 := cut Tryz.prog Tryz.f144 news
@[go_sem] def E144 := ql d144
def F144 := fnC d144 follows Tryz.func144
def d143 := cut Tryz.prog Tryz.f143 news
@[go_sem] def E143 := ql d143
def F143 := fnC d143 follows Tryz.func143
def d77 := cut Tryz.prog Tryz.f77 news
@[go_sem] def E77 := ql d77
def F77 := fnC d77 follows Tryz.func77
def d145 := cut Tryz.prog Tryz.f145 news
@[go_sem] def E145 := ql d145
def F145 := fnC d145 follows Tryz.func145
def d78 := cut Tryz.prog Tryz.f78 news
@[go_sem] def E78 := ql d78
def F78 := fnC d78 follows Tryz.func78
def d101 := cut Tryz.prog Tryz.f101 news
@[go_sem] def E101 := ql d101
def F101 := fnC d101 follows Tryz.func101
def d40 := cut Tryz.prog Tryz.f40 news
@[go_sem] def E40 := ql d40
def F40 := fnC d40 follows Tryz.func40
def d43 := cut Tryz.prog Tryz.f43 news
@[go_sem] def E43 := ql d43
def F43 := fnC d43 follows Tryz.func43
end
def sObj (s : Int) : AObj := .row [.d (.int .i64 s)]
attribute [go_sem] sObj
theorem xia (x : Ue) (s : Int) : qg Tryz.prog 144 [.d (.agg (qn x)), .d (.ptr 0 0)] [sObj s] (.d (.bool (decide (x.sess ≥ s)))) [sObj s] := by
 refine F144.go ?_
 try (refine ev2 @qn.eq_1 @sObj.eq_1 ?_; try exact True.intro)
def xib (l : List Ue) (k : FuncId) (s : Int) (f : Ue → Bool) (i : { i : Nat // (l.take i).any f = false }) : St :=
 ⟨[(0, true, .d (.sl 4 (l.map qn))), (1, true, .d (.func (.func k) [] [.ptr 0 0])), (6, true, .d (.sl 4 (l.map qn))), (7, true, .d (.int .i64 l.length)), (8, true, .d (.int .i64 (i.val : Nat)))],
  [sObj s], [], 1⟩
theorem q8t (l : List Ue) (s : Int) (hl : l.length ≤ 1000) : qg Tryz.prog 143 [.d (.sl 4 (l.map qn)), .d (.func (.func 144) [] [.ptr 0 0])] [sObj s]
  (.d (.int .i64 (idx (fun x => decide (x.sess ≥ s)) l))) [sObj s] := by
 refine F143.go ?_
 try (refine ev ?_; try exact True.intro)
 refine qj (xib l 144 s (fun x => decide (x.sess ≥ s))) (fun i => l.length - i.val) ⟨0, rfl⟩ ?_ (fun i => ?_)
 ·try (refine ev2 @xib.eq_1 @sObj.eq_1 ?_; try exact True.intro)
 obtain ⟨i, hi⟩ := i
 try (refine ev1 @xib.eq_1 ?_; try exact True.intro)
 (repeat (with_reducible refine ob ?_)); refine xn _ (fun h => ?_) (fun h => ?_)
 ·have hil : i < l.length := by simpa using h
  (refine ev2 (qi qn l hil) @qn.eq_1 ?_; try exact True.intro)
  (repeat (with_reducible refine ob ?_)); refine clO [0] F144 (xia l[i] s) ?_ (hfit := by first | exact ⟨qc, trivial⟩ | exact ⟨qc, qc, trivial⟩ | (refine ev2 @qn.eq_1 @qu.eq_1 ?_; try exact True.intro))
  try (refine ev1 @sObj.eq_1 ?_; try exact True.intro)
  refine xn _ (fun h2 => ?_) (fun h2 => ?_)
  ·try (refine ev1 (qey (f := fun x => decide (x.sess ≥ s)) hi hil h2) ?_; try exact True.intro)
  ·try (refine ev ?_; try exact True.intro)
   refine ⟨⟨i + 1, vn hi hil h2⟩, ?_, by dsimp only; omega⟩
   try (refine ev3 @xib.eq_1 @sObj.eq_1 (qf (show i < 9223372036854775807 by omega)) ?_; try exact True.intro)
 ·try (refine ev2 (qex hi (by simpa using h)) @sObj.eq_1 ?_; try exact True.intro)
def xh (m : Mg) (s : Int) : Nat × Bool :=
 if m.ents.any (fun x => decide (x.sess ≥ s)) then (m.ents.findIdx (fun x => decide (x.sess ≥ s)), (m.ents.getD (m.ents.findIdx (fun x => decide (x.sess ≥ s))) default).sess == s) else (m.ents.length, false)
theorem xm3 {α : Type} (f : α → Bool) (l : List α) : decide (idx f l < 0) = !l.any f := by
 unfold idx
 cases l.any f <;> simp
theorem qq0 {α : Type} {f : α → Bool} {l : List α} (h : l.any f = true) : idx f l = (l.findIdx f : Int) ∧ l.findIdx f < l.length := by
 refine ⟨by simp [idx, h], ?_⟩
 rw [List.findIdx_lt_length]
 simpa using h
theorem qfz (m : Mg) (s : Int) (hm : m.Sm) : qg Tryz.prog 77 [.d (.agg (qu m)), .d (.int .i64 s)] [] (.tup [.d (.int .i64 ((xh m s).1 : Nat)), .d (.bool (xh m s).2)]) [] := by
 refine F77.goT ?_
 try (refine ev1 @qu.eq_1 ?_; try exact True.intro)
 (repeat (with_reducible refine ob ?_)); refine clO [1] F143 (q8t m.ents s hm.1) ?_ (hfit := by first | exact ⟨qc, trivial⟩ | exact ⟨qc, qc, trivial⟩ | (refine ev2 @qn.eq_1 @qu.eq_1 ?_; try exact True.intro))
 try (refine ev2 @xm3 @sObj.eq_1 ?_; try exact True.intro)
 (repeat (with_reducible refine ob ?_)); refine xn _ (fun h => ?_) (fun h => ?_)
 ·have hf : m.ents.any (fun x => decide (x.sess ≥ s)) = false := by simpa using h
  have hu : xh m s = (m.ents.length, false) := by simp [xh, hf]
  try (refine ev1 @hu ?_; try exact True.intro)
 ·have hf : m.ents.any (fun x => decide (x.sess ≥ s)) = true := by simpa using h
  obtain ⟨h1, h2⟩ := qq0 hf
  have hu : xh m s = (m.ents.findIdx (fun x => decide (x.sess ≥ s)), (m.ents.getD (m.ents.findIdx (fun x => decide (x.sess ≥ s))) default).sess == s) := by simp [xh, hf]
  rw [hu, x9 h2]
  rw [h1]
  generalize m.ents.findIdx (fun x => decide (x.sess ≥ s)) = k at h2 ⊢
  try (refine ev2 (qi qn m.ents h2) @qn.eq_1 ?_; try exact True.intro)
  (repeat (with_reducible refine ob ?_))
  try (refine ev2 (qi qn m.ents h2) @qn.eq_1 ?_; try exact True.intro)
  first | omega | exact ⟨by omega, by omega⟩ | skip
theorem q55 (l m : List Bool) (hl : l.length ≤ 1000) :
  qg Tryz.prog 145 [.d (.sl 1 (l.map encB)), .d (.sl 1 (m.map encB))] [] (.d (.bool (decide (l = m)))) [] := by
 refine F145.go ?_
 try (refine ev ?_; try exact True.intro)
 refine xn _ (fun h => ?_) (fun h => ?_)
 ·have hne : decide (l = m) = false := by rw [decide_eq_false_iff_not]; rintro rfl; simp at h
  try (refine ev1 @hne ?_; try exact True.intro)
 ·have hlm : l.length = m.length := by simp at h; omega
  try (refine ev ?_; try exact True.intro)
  refine qj (Seq 1 encB l m) (fun i => l.length - i.val) ⟨0, rfl⟩ ?_ (fun i => ?_)
  ·try (refine ev1 @Seq.eq_1 ?_; try exact True.intro)
  ·obtain ⟨i, hi⟩ := i
   try (refine ev1 @Seq.eq_1 ?_; try exact True.intro)
   refine xn _ (fun h => ?_) (fun h => ?_)
   ·have hil : i < l.length := by simpa using h
    have him : i < m.length := by omega
    try (refine ev3 (qi encB l hil) (qi encB m him) @encB.eq_1 ?_; try exact True.intro)
    refine ⟨by omega, by omega, ?_⟩
    refine xn _ (fun h2 => ?_) (fun h2 => ?_)
    ·have hne : l[i] ≠ m[i] := by simpa using h2
     try (refine ev1 (qv1 hil him hne) ?_; try exact True.intro)
    ·have he : l[i] = m[i] := by simpa using h2
     try (refine ev ?_; try exact True.intro)
     refine ⟨⟨i + 1, ye hi hil him he⟩, ?_, by dsimp only; omega⟩
     try (refine ev2 @Seq.eq_1 (qf (show i < 9223372036854775807 by omega)) ?_; try exact True.intro)
   ·have he : decide (l = m) = true := by
     have : l.length ≤ i := by simpa using h
     rw [List.take_of_length_le this, List.take_of_length_le (by omega)] at hi
     simp [hi]
    try (refine ev1 @he ?_; try exact True.intro)
theorem xky (x y : Ue) : (x.sess == y.sess && x.phase == y.phase && decide (x.moved = y.moved) && decide (x.opened = y.opened)) = decide (x = y) := by
 obtain ⟨a1, a2, a3, a4⟩ := x
 obtain ⟨b1, b2, b3, b4⟩ := y
 rw [Bool.eq_iff_iff]
 simp [and_assoc]
theorem qmb (x y : Ue) (hx : x.Sm) : qg Tryz.prog 78 [.d (.agg (qn x)), .d (.agg (qn y))] [] (.d (.bool (decide (x = y)))) [] := by
 refine F78.go ?_
 try (refine ev1 @qn.eq_1 ?_; try exact True.intro)
 (repeat (with_reducible refine ob ?_)); first | refine cl F145 (q55 x.moved y.moved hx.1) ?_ | refine clF F145 (q55 x.moved y.moved hx.1) (fun _ => by (refine ev2 @qn.eq_1 @qu.eq_1 ?_; try exact True.intro)) ?_
 try (refine ev ?_; try exact True.intro)
 (repeat (with_reducible refine ob ?_))
 (repeat (with_reducible refine ob ?_)); first | refine cl F145 (q55 x.opened y.opened hx.2) ?_ | refine clF F145 (q55 x.opened y.opened hx.2) (fun _ => by (refine ev2 @qn.eq_1 @qu.eq_1 ?_; try exact True.intro)) ?_
 try (refine ev1 @xky ?_; try exact True.intro)
def SeqE (l m : List Ue) (i : { i : Nat // qbz (eqAt (fun x y => decide (x = y)) l m) i = true }) : St :=
 ⟨[(1, true, .d (.sl 4 (m.map qn))), (2, true, .d (.func (.func 78) [] [])), (15, true, .d (.sl 4 (l.map qn))), (16, true, .d (.int .i64 l.length)), (17, true, .d (.int .i64 (i.val : Nat)))], [], [], 1⟩
set_option maxRecDepth 10000 in
theorem q56 (l m : List Ue) (hl : l.length ≤ 1000) (hp : ∀ x ∈ l, x.Sm) :
  qg Tryz.prog 101 [.d (.sl 4 (l.map qn)), .d (.sl 4 (m.map qn)), .d (.func (.func 78) [] [])] [] (.d (.bool (decide (l = m)))) [] := by
 refine F101.go ?_
 try (refine ev ?_; try exact True.intro)
 refine xn _ (fun h => ?_) (fun h => ?_)
 ·have hne : decide (l = m) = false := by rw [decide_eq_false_iff_not]; rintro rfl; simp at h
  try (refine ev1 @hne ?_; try exact True.intro)
 ·have hlm : l.length = m.length := by simp at h; omega
  try (refine ev ?_; try exact True.intro)
  refine qj (SeqE l m) (fun i => l.length - i.val) ⟨0, rfl⟩ ?_ (fun i => ?_)
  ·try (refine ev1 @SeqE.eq_1 ?_; try exact True.intro)
  ·obtain ⟨i, hi⟩ := i
   try (refine ev1 @SeqE.eq_1 ?_; try exact True.intro)
   refine xn _ (fun h => ?_) (fun h => ?_)
   ·have hil : i < l.length := by simpa using h
    have him : i < m.length := by omega
    (refine ev3 (qi qn l hil) (qi qn m him) @qn.eq_1 ?_; try exact True.intro)
    (repeat (with_reducible refine ob ?_))
    (repeat (with_reducible refine ob ?_)); first | refine cl F78 (qmb l[i] m[i] (hp _ (List.getElem_mem hil))) ?_ | refine clF F78 (qmb l[i] m[i] (hp _ (List.getElem_mem hil))) (fun _ => by (refine ev2 @qn.eq_1 @qu.eq_1 ?_; try exact True.intro)) ?_
    try (refine ev ?_; try exact True.intro)
    refine xn _ (fun h2 => ?_) (fun h2 => ?_)
    ·have hne : l[i] ≠ m[i] := by simpa using h2
     try (refine ev1 (qv1 hil him hne) ?_; try exact True.intro)
    ·have he : l[i] = m[i] := by simpa using h2
     try (refine ev ?_; try exact True.intro)
     refine ⟨⟨i + 1, yw hi (by simp [eqAt, hil, him, he])⟩, ?_, by dsimp only; omega⟩
     try (refine ev2 @SeqE.eq_1 (qf (show i < 9223372036854775807 by omega)) ?_; try exact True.intro)
   ·have he : decide (l = m) = true := by
     have : l.length ≤ i := by simpa using h
     rw [← xcj]
     simp only [eqBy, hlm, beq_self_eq_true, Bool.true_and]
     exact za.2 fun j hj => za.1 hi j (by omega)
    try (refine ev1 @he ?_; try exact True.intro)
theorem xkz (a b : Mg) : (a.roles == b.roles && decide (a.ents = b.ents)) = decide (a = b) := by
 obtain ⟨a1, a2⟩ := a
 obtain ⟨b1, b2⟩ := b
 rw [Bool.eq_iff_iff]
 simp
theorem qtu (a b : Mg) (ha : a.Sm) : qg Tryz.prog 40 [.d (.agg (qu a)), .d (.agg (qu b))] [] (.d (.bool (decide (a = b)))) [] := by
 refine F40.go ?_
 try (refine ev1 @qu.eq_1 ?_; try exact True.intro)
 (repeat (with_reducible refine ob ?_)); first | refine cl F101 (q56 a.ents b.ents ha.1 ha.2) ?_ | refine clF F101 (q56 a.ents b.ents ha.1 ha.2) (fun _ => by (refine ev2 @qn.eq_1 @qu.eq_1 ?_; try exact True.intro)) ?_
 try (refine ev ?_; try exact True.intro)
 exact xkz a b
def qq1 (n : Int) : Mg × Int := if decide (n < 1) || decide (n > 6) then (⟨0, []⟩, 2) else (⟨n, []⟩, 0)
theorem q57 (n : Int) : qg Tryz.prog 43 [.d (.int .i64 n)] [] (.tup [.d (.agg (qu (qq1 n).1)), .d (.int .i64 (qq1 n).2)]) [] := by
 refine F43.goT ?_
 try (refine ev ?_; try exact True.intro)
 (repeat (with_reducible refine ob ?_)); refine xn _ (fun h => ?_) (fun h => ?_)
 ·try (refine ev4 @qq1.eq_1 @h @qu.eq_1 @List.map_nil.{0,0} ?_; try exact True.intro)
 ·try (refine ev4 @qq1.eq_1 @h @qu.eq_1 @List.map_nil.{0,0} ?_; try exact True.intro)
end Go.Proofs.YtkcdbcbpbolgkaaGreatDoor
namespace Go.Proofs.YtkcdbcbpbolgkaaGreatDoor
open Go.Abs
noncomputable section
set_option maxRecDepth 100000
set_option linter.defProp false
def xp7 := cut Tryz.prog Tryz.f224 news [7]
@[go_sem] def xtj := ql xp7
def xm4 := fnC xp7 follows Tryz.func224
def xp8 := cut Tryz.prog Tryz.f225 news [7]
@[go_sem] def xtk := ql xp8
def xm5 := fnC xp8 follows Tryz.func225
def d225 := cut Tryz.prog Tryz.f225 news
@[go_sem] def E225 := ql d225
def F225 := fnC d225 follows Tryz.func225
end
theorem qzw (l : List Ue) (hl : l.length ≤ 1000) : qg Tryz.prog 224 [.d (.sl 4 (l.map qn))] [] (.uni 0 4 (l.map qn)) [] := by
 refine xm4.go ?_
 try (refine ev ?_; try exact True.intro)
 refine ql1 rfl rfl (fun b hb => ?_)
 try (refine ev ?_; try exact True.intro)
 (repeat (with_reducible refine ob ?_)); refine xn _ (fun h => ?_) (fun h => ?_)
 ·try (refine ev1 (hb h) ?_; try exact True.intro)
 ·try (refine ev ?_; try exact True.intro)
  omega
theorem qtv (l : List Bool) (hl : l.length ≤ 1000) : qg Tryz.prog 225 [.d (.sl 1 (l.map encB))] [] (.uni 0 1 (l.map encB)) [] := by
 refine xm5.go ?_
 try (refine ev ?_; try exact True.intro)
 refine ql1 rfl rfl (fun b hb => ?_)
 try (refine ev ?_; try exact True.intro)
 (repeat (with_reducible refine ob ?_)); refine xn _ (fun h => ?_) (fun h => ?_)
 ·try (refine ev1 (hb h) ?_; try exact True.intro)
 ·try (refine ev ?_; try exact True.intro)
  omega
theorem yr (l : List Bool) (hl : l.length ≤ 1000) : qg Tryz.prog 225 [.d (.sl 1 (l.map encB))] [] (.d (.sl 1 (l.map encB))) [] := by
 refine F225.go ?_
 try (refine ev ?_; try exact True.intro)
 refine ql1 rfl rfl (fun b hb => ?_)
 try (refine ev ?_; try exact True.intro)
 (repeat (with_reducible refine ob ?_)); refine xn _ (fun h => ?_) (fun h => ?_)
 ·try (refine ev1 (hb h) ?_; try exact True.intro)
 ·try (refine ev ?_; try exact True.intro)
  omega
end Go.Proofs.YtkcdbcbpbolgkaaGreatDoor
namespace Go.Proofs.YtkcdbcbpbolgkaaGreatDoor
open Go.Abs
noncomputable section
set_option maxRecDepth 100000
set_option linter.defProp false
def xp9 := cut Tryz.prog Tryz.f141 news [] [2, 7] true
@[go_sem] def xtl := ql xp9
def xqa := fnC xp9 follows Tryz.func141
end
theorem q8u (b es : Nat) (rows : List (List D)) : qd8 b (.uni 0 es rows) = .uni b es rows := by simp [qd8, wj, renT, ASlot.toks]
theorem q8v (b es : Nat) (rows : List (List D)) : qd8 b (.own 0 es rows) = .own b es rows := by simp [qd8, wj, renT, ASlot.toks]
attribute [go_sem] q8u q8v
def jm (l : List Ue) : List ASlot := (l.map qn).flatten.map ASlot.d
theorem qzx (l : List Ue) : List.map ASlot.d (l.map qn).flatten = jm l := rfl
theorem x8 (x : Ue) (l : List Ue) : jm (x :: l) = .d (.int .i64 x.sess) :: .d (.int .i64 x.phase) :: .d (.sl 1 (x.moved.map encB)) :: .d (.sl 1 (x.opened.map encB)) :: jm l := rfl
theorem qej : ∀ l : List Ue, (jm l).length = l.length * 4
 | [] => rfl
 | x :: l => by rw [x8]; simp only [List.length_cons, qej l]; omega
theorem qhp : ∀ (l : List Ue) (i j : Nat) (_ : i < l.length) (_ : j < 4), (jm l)[i * 4 + j]? = some (.d ((qn l[i]).getD j .nilsl))
 | x :: l, 0, j, _, hj => by
  rw [x8]
  have : j = 0 ∨ j = 1 ∨ j = 2 ∨ j = 3 := by omega
  rcases this with rfl | rfl | rfl | rfl <;> rfl
 | x :: l, i + 1, j, hi, hj => by
  rw [x8, show (i + 1) * 4 + j = (i * 4 + j) + 1 + 1 + 1 + 1 by omega]
  simp only [List.getElem?_cons_succ]
  exact qhp l i j (by simpa using hi) hj
theorem qtw (l : List Ue) (i j : Nat) (hi : i < l.length) (hj : j < 4) : (jm l).getD (i * 4 + j) .bad = .d ((qn l[i]).getD j .nilsl) := by
 rw [List.getD_eq_getElem?_getD, qhp l i j hi hj]; rfl
theorem qzy (l : List Ue) (i j : Nat) (hi : i < l.length) (hj : j < 4) : (jm l).set (i * 4 + j) (.d ((qn l[i]).getD j .nilsl)) = jm l := by
 refine List.ext_getElem? fun k => ?_
 rw [List.getElem?_set]
 split
 ·rename_i h; subst h
  rw [qhp l i j hi hj]
  have := (List.getElem?_eq_some_iff.1 (qhp l i j hi hj)).1
  simp [this]
 ·rfl
theorem qol {l : List Ue} {i : Nat} (hi : i < l.length) : (jm l).getD (i * 4 + 2) .bad = .d (.sl 1 (l[i].moved.map encB)) := qtw l i 2 hi (by decide)
theorem qom {l : List Ue} {i : Nat} (hi : i < l.length) : (jm l).getD (i * 4 + 3) .bad = .d (.sl 1 (l[i].opened.map encB)) := qtw l i 3 hi (by decide)
theorem qgg {l : List Ue} {i : Nat} (hi : i < l.length) : (jm l).set (i * 4 + 2) (.d (.sl 1 (l[i].moved.map encB))) = jm l := qzy l i 2 hi (by decide)
theorem qgh {l : List Ue} {i : Nat} (hi : i < l.length) : (jm l).set (i * 4 + 3) (.d (.sl 1 (l[i].opened.map encB))) = jm l := qzy l i 3 hi (by decide)
theorem qq2 (keep : Nat → Bool) : ∀ l : List Ue, csW keep (jm l) (jm l)
 | [] => by simp only [jm, List.map_nil, List.flatten_nil, csW]
 | x :: l => by
  rw [x8]
  have := qq2 keep l
  try (refine ev1 @this ?_; try exact True.intro)
theorem qgi : ∀ l : List Ue, qba (jm l) (jm l) = []
 | [] => rfl
 | x :: l => by
  rw [x8]
  have := qgi l
  try (refine ev1 @this ?_; try exact True.intro)
theorem qmc : ∀ l : List Ue, (jm l).flatMap ASlot.toks = []
 | [] => rfl
 | x :: l => by
  rw [x8]
  have := qmc l
  try (refine ev2 @List.flatMap_cons.{0,0} @this ?_; try exact True.intro)
attribute [go_sem] qq2 qgi qmc qej
def Scop (m : Mg) (i : { i : Nat // i ≤ m.ents.length }) : St :=
 ⟨[(1, true, .d (.ptr 0 0)), (2, true, .d (.ptr 1 0)), (11, true, .d (.int .i64 m.ents.length)), (12, true, .d (.int .i64 (i.val : Nat)))],
  [.row [.d (.int .i64 m.roles), .d (.ref 2 0 4 m.ents.length)], .row [.d (.int .i64 0), .d .nilsl], .row (jm m.ents)], [], 1⟩
set_option maxRecDepth 10000 in
theorem xc0 (m : Mg) (hm : m.Sm) : qg Tryz.prog 141 [.d (.agg (qu m))] [] (.d (.agg [.int .i64 m.roles, .ref 2 0 4 m.ents.length])) [.none, .none, .row (jm m.ents)] := by
 have hl := hm.1
 refine xqa.go ?_
 try (refine ev1 @qu.eq_1 ?_; try exact True.intro)
 refine clA xm4 (qzw m.ents hm.1) ?_
 try (refine ev ?_; try exact True.intro)
 try (refine ev ?_; try exact True.intro)
 (repeat (with_reducible refine ob ?_))
 refine qqd (.cell 0 1) _ 4 (m.ents.map qn) ?_
 refine pu ?_
 try (refine ev ?_; try exact True.intro)
 refine qj (Scop m) (fun i => m.ents.length - i.val) ⟨0, Nat.zero_le _⟩ ?_ (fun i => ?_)
 ·try (refine ev2 @Scop.eq_1 @qzx ?_; try exact True.intro)
 obtain ⟨i, hi⟩ := i
 try (refine ev1 @Scop.eq_1 ?_; try exact True.intro)
 (repeat (with_reducible refine ob ?_)); refine xn _ (fun h => ?_) (fun h => ?_)
 ·have hil : i < m.ents.length := by simpa using h
  have hx := hm.2 _ (List.getElem_mem hil)
  try (refine ev ?_; try exact True.intro)
  (repeat (with_reducible refine ob ?_))
  rw [qol hil]
  (repeat (with_reducible refine ob ?_)); first | refine cl F225 (yr m.ents[i].moved hx.1) ?_ | refine clF F225 (yr m.ents[i].moved hx.1) (fun _ => by (refine ev2 @qn.eq_1 @qu.eq_1 ?_; try exact True.intro)) ?_
  try (refine ev ?_; try exact True.intro)
  (repeat (with_reducible refine ob ?_))
  rw [qom hil]
  (repeat (with_reducible refine ob ?_)); first | refine cl F225 (yr m.ents[i].opened hx.2) ?_ | refine clF F225 (yr m.ents[i].opened hx.2) (fun _ => by (refine ev2 @qn.eq_1 @qu.eq_1 ?_; try exact True.intro)) ?_
  try (refine ev2 (qgg hil) (qgh hil) ?_; try exact True.intro)
  (repeat (with_reducible refine ob ?_))
  try (refine ev2 (qgg hil) (qgh hil) ?_; try exact True.intro)
  (repeat (with_reducible refine ob ?_))
  try (refine ev2 (qgg hil) (qgh hil) ?_; try exact True.intro)
  refine pu ?_
  try (refine ev ?_; try exact True.intro)
  refine ⟨⟨i + 1, hil⟩, ?_, by dsimp only; omega⟩
  try (refine ev2 @Scop.eq_1 (qf (show i < 9223372036854775807 by omega)) ?_; try exact True.intro)
 ·have hil : i = m.ents.length := by
   have : m.ents.length ≤ i := by simpa using h
   omega
  subst hil
  try (refine ev ?_; try exact True.intro)
  refine pu ?_
  try (refine ev ?_; try exact True.intro)
  trace_state
theorem q3u {keep : Nat → Bool} {s : ASlot} (hs : qc5 keep s s) : ∀ (l : List ASlot) (i : Nat), csW keep l l → csW keep (l.set i s) (l.set i s)
 | [], _, h => h
 | _ :: _, 0, h => ⟨hs, h.2⟩
 | _ :: l, i + 1, h => ⟨h.1, q3u hs l i h.2⟩
theorem qjh {s : ASlot} (hs : vw s s = []) : ∀ (l : List ASlot) (i : Nat), qba l l = [] → qba (l.set i s) (l.set i s) = []
 | [], _, h => h
 | x :: l, 0, h => by
  rw [List.set_cons_zero, qcw]
  rw [qcw, List.append_eq_nil_iff] at h
  rw [hs, h.2]; rfl
 | x :: l, i + 1, h => by
  rw [List.set_cons_succ, qcw]
  rw [qcw, List.append_eq_nil_iff] at h
  rw [h.1, qjh hs l i h.2]; rfl
theorem qwe {s : ASlot} (hs : s.toks = []) : ∀ (l : List ASlot) (i : Nat), l.flatMap ASlot.toks = [] → (l.set i s).flatMap ASlot.toks = []
 | [], _, h => h
 | x :: l, 0, h => by
  rw [List.set_cons_zero, List.flatMap_cons]
  rw [List.flatMap_cons, List.append_eq_nil_iff] at h
  rw [hs, h.2]; rfl
 | x :: l, i + 1, h => by
  rw [List.set_cons_succ, List.flatMap_cons]
  rw [List.flatMap_cons, List.append_eq_nil_iff] at h
  rw [h.1, qwe hs l i h.2]; rfl
noncomputable section
set_option maxRecDepth 100000
set_option linter.defProp false
def xqb := cut Tryz.prog Tryz.f141 news [] [2, 7] true
@[go_sem] def xtm := ql xqb
def xqc := fnC xqb follows Tryz.func141
end
def refA (l : List ASlot) (k a b : Nat) (x : Ue) : List ASlot := (l.set (k * 4 + 2) (.d (.ref a 0 1 x.moved.length))).set (k * 4 + 3) (.d (.ref b 0 1 x.opened.length))
theorem xic (l : List ASlot) (k a b : Nat) (x : Ue) : (refA l k a b x).length = l.length := by simp [refA]
theorem xm6 {l : List Ue} {k a b i : Nat} {x : Ue} (hik : i ≠ k) (hi : i < l.length) : (refA (jm l) k a b x).getD (i * 4 + 2) .bad = .d (.sl 1 (l[i].moved.map encB)) := by
 rw [← qol hi, List.getD_eq_getElem?_getD, List.getD_eq_getElem?_getD, refA, List.getElem?_set_ne (by omega), List.getElem?_set_ne (by omega)]
theorem xm7 {l : List Ue} {k a b i : Nat} {x : Ue} (hik : i ≠ k) (hi : i < l.length) : (refA (jm l) k a b x).getD (i * 4 + 3) .bad = .d (.sl 1 (l[i].opened.map encB)) := by
 rw [← qom hi, List.getD_eq_getElem?_getD, List.getD_eq_getElem?_getD, refA, List.getElem?_set_ne (by omega), List.getElem?_set_ne (by omega)]
theorem q3v {l : List Ue} {k a b i : Nat} {x : Ue} (hik : i ≠ k) (hi : i < l.length) : (refA (jm l) k a b x).set (i * 4 + 2) (.d (.sl 1 (l[i].moved.map encB))) = refA (jm l) k a b x := by
 rw [refA, List.set_comm _ _ (show k * 4 + 3 ≠ i * 4 + 2 by omega), List.set_comm _ _ (show k * 4 + 2 ≠ i * 4 + 2 by omega), qgg hi]
theorem q3w {l : List Ue} {k a b i : Nat} {x : Ue} (hik : i ≠ k) (hi : i < l.length) : (refA (jm l) k a b x).set (i * 4 + 3) (.d (.sl 1 (l[i].opened.map encB))) = refA (jm l) k a b x := by
 rw [refA, List.set_comm _ _ (show k * 4 + 3 ≠ i * 4 + 3 by omega), List.set_comm _ _ (show k * 4 + 2 ≠ i * 4 + 3 by omega), qgh hi]
theorem qon {keep : Nat → Bool} {l : List Ue} {k a b : Nat} {x : Ue} (ha : keep a = true) (hb : keep b = true) : csW keep (refA (jm l) k a b x) (refA (jm l) k a b x) :=
 q3u (by try (refine ev2 @ha @hb ?_; try exact True.intro)) _ _ (q3u (by try (refine ev2 @ha @hb ?_; try exact True.intro)) _ _ (qq2 keep l))
theorem qzz {l : List Ue} {k a b : Nat} {x : Ue} : qba (refA (jm l) k a b x) (refA (jm l) k a b x) = [] := qjh rfl _ _ (qjh rfl _ _ (qgi l))
theorem xc1 {l : List Ue} {k a b : Nat} {x : Ue} : (refA (jm l) k a b x).flatMap ASlot.toks = [] := qwe rfl _ _ (qwe rfl _ _ (qmc l))
theorem xid (l : List Bool) : List.map ASlot.d (l.map encB).flatten = l.map fun b => .d (.bool b) := by
 induction l with
 | nil => rfl
 | cons b l ih => simp only [List.map_cons, List.flatten_cons, encB, List.cons_append, List.nil_append, ih]
theorem q58 (keep : Nat → Bool) : ∀ l : List Bool, csW keep (l.map fun b => .d (.bool b)) (l.map fun b => .d (.bool b))
 | [] => trivial
 | x :: l => by
  have := q58 keep l
  try (refine ev2 @List.map_cons.{0,0} @this ?_; try exact True.intro)
theorem qnl : ∀ l : List Bool, qba (l.map fun b => .d (.bool b)) (l.map fun b => .d (.bool b)) = []
 | [] => rfl
 | x :: l => by
  have := qnl l
  try (refine ev2 @List.map_cons.{0,0} @this ?_; try exact True.intro)
theorem qz0 : ∀ l : List Bool, ((l.map fun b => .d (.bool b)).flatMap ASlot.toks : List Nat) = []
 | [] => rfl
 | x :: l => by
  have := qz0 l
  try (refine ev3 @List.map_cons.{0,0} @List.flatMap_cons.{0,0} @this ?_; try exact True.intro)
attribute [go_sem] xic qon qzz xc1 xid q58 qnl qz0
theorem xie (l : List ASlot) (k a b : Nat) (x : Ue) : (l.set (k * 4 + 2) (.d (.ref a 0 1 x.moved.length))).set (k * 4 + 3) (.d (.ref b 0 1 x.opened.length)) = refA l k a b x := rfl
theorem xtn {l : List ASlot} {a b : Nat} {u v x y : ASlot} (h : a ≠ b) : (((l.set a u).set b v).set a x).set b y = (l.set a x).set b y := by
 rw [List.set_comm _ _ (Ne.symm h), List.set_set, List.set_set]
def qz1 (m : Mg) (k : Nat) (x : Ue) (i : { i : Nat // i ≤ m.ents.length }) : St :=
 ⟨[(1, true, .d (.ptr 0 0)), (2, true, .d (.ptr 1 0)), (11, true, .d (.int .i64 m.ents.length)), (12, true, .d (.int .i64 (i.val : Nat)))],
  if i.val ≤ k then [.row [.d (.int .i64 m.roles), .d (.ref 2 0 4 m.ents.length)], .row [.d (.int .i64 0), .d .nilsl], .row (jm m.ents)]
  else [.row [.d (.int .i64 m.roles), .d (.ref 2 0 4 m.ents.length)], .row [.d (.int .i64 0), .d .nilsl], .row (refA (jm m.ents) k 3 4 x), .row (x.moved.map fun b => .d (.bool b)), .row (x.opened.map fun b => .d (.bool b))], [], 1⟩
set_option maxRecDepth 10000 in
theorem q3x (m : Mg) (hm : m.Sm) (k : Nat) (hk : k < m.ents.length) : qg Tryz.prog 141 [.d (.agg (qu m))] [] (.d (.agg [.int .i64 m.roles, .ref 2 0 4 m.ents.length]))
  [.none, .none, .row (refA (jm m.ents) k 3 4 m.ents[k]), .row (m.ents[k].moved.map fun b => .d (.bool b)), .row (m.ents[k].opened.map fun b => .d (.bool b))] := by
 have hl := hm.1
 refine xqc.go ?_
 try (refine ev1 @qu.eq_1 ?_; try exact True.intro)
 refine clA xm4 (qzw m.ents hm.1) ?_
 try (refine ev ?_; try exact True.intro)
 (repeat (with_reducible refine ob ?_))
 refine qqd (.cell 0 1) _ 4 (m.ents.map qn) ?_
 refine pu ?_
 try (refine ev ?_; try exact True.intro)
 refine qj (qz1 m k m.ents[k]) (fun i => m.ents.length - i.val) ⟨0, Nat.zero_le _⟩ ?_ (fun i => ?_)
 ·try (refine ev3 @qz1.eq_1 @qzx @Nat.zero_le ?_; try exact True.intro)
 obtain ⟨i, hi⟩ := i
 rcases Nat.lt_trichotomy i k with hik | hik | hik
 ·have hle : i ≤ k := by omega
  have hle1 : i + 1 ≤ k := by omega
  try (refine ev2 @qz1.eq_1 @hle ?_; try exact True.intro)
  (repeat (with_reducible refine ob ?_)); refine xn _ (fun h => ?_) (fun h => ?_)
  ·have hil : i < m.ents.length := by simpa using h
   have hx := hm.2 _ (List.getElem_mem hil)
   try (refine ev ?_; try exact True.intro)
   (repeat (with_reducible refine ob ?_))
   rw [qol hil]
   (repeat (with_reducible refine ob ?_)); first | refine cl F225 (yr m.ents[i].moved hx.1) ?_ | refine clF F225 (yr m.ents[i].moved hx.1) (fun _ => by (refine ev2 @qn.eq_1 @qu.eq_1 ?_; try exact True.intro)) ?_
   try (refine ev ?_; try exact True.intro)
   (repeat (with_reducible refine ob ?_))
   rw [qom hil]
   (repeat (with_reducible refine ob ?_)); first | refine cl F225 (yr m.ents[i].opened hx.2) ?_ | refine clF F225 (yr m.ents[i].opened hx.2) (fun _ => by (refine ev2 @qn.eq_1 @qu.eq_1 ?_; try exact True.intro)) ?_
   try (refine ev2 (qgg hil) (qgh hil) ?_; try exact True.intro)
   (repeat (with_reducible refine ob ?_))
   try (refine ev2 (qgg hil) (qgh hil) ?_; try exact True.intro)
   (repeat (with_reducible refine ob ?_))
   try (refine ev2 (qgg hil) (qgh hil) ?_; try exact True.intro)
   refine pu ?_
   try (refine ev ?_; try exact True.intro)
   refine ⟨⟨i + 1, hil⟩, ?_, by dsimp only; omega⟩
   try (refine ev3 @qz1.eq_1 @hle1 (qf (show i < 9223372036854775807 by omega)) ?_; try exact True.intro)
  ·exfalso; simp at h; omega
 ·subst hik
  have hni : ¬ (i + 1 ≤ i) := by omega
  try (refine ev2 @qz1.eq_1 @Nat.le_refl ?_; try exact True.intro)
  (repeat (with_reducible refine ob ?_)); refine xn _ (fun h => ?_) (fun h => ?_)
  ·have hil : i < m.ents.length := hk
   have hx := hm.2 _ (List.getElem_mem hil)
   try (refine ev ?_; try exact True.intro)
   (repeat (with_reducible refine ob ?_))
   rw [qol hil]
   refine clA xm5 (qtv m.ents[i].moved hx.1) ?_
   try (refine ev ?_; try exact True.intro)
   (repeat (with_reducible refine ob ?_))
   rw [qom hil]
   refine clA xm5 (qtv m.ents[i].opened hx.2) ?_
   try (refine ev ?_; try exact True.intro)
   (repeat (with_reducible refine ob ?_))
   try (refine ev ?_; try exact True.intro)
   (repeat (with_reducible refine ob ?_))
   try (refine ev2 @List.length_set.{0} @qej ?_; try exact True.intro)
   (repeat (with_reducible refine ob ?_))
   have hf : (jm m.ents).length = m.ents.length * 4 := qej _
   refine qqd (.cell 2 (i * 4 + 2)) 240 1 (m.ents[i].moved.map encB) ?_ (hp := by simp only [St.slotAt, qh, List.getElem?_cons_succ, List.getElem?_cons_zero, AObj.cells, List.getD_eq_getElem?_getD]; rw [List.getElem?_set_ne (by omega), List.getElem?_set_self (by rw [hf]; omega)]; rfl)
   try (refine ev2 @List.set_comm.{0} @List.length_set.{0} ?_; try exact True.intro)
   refine qqd (.cell 2 (i * 4 + 3)) 320 1 (m.ents[i].opened.map encB) ?_ (hp := by simp only [St.slotAt, qh, List.getElem?_cons_succ, List.getElem?_cons_zero, AObj.cells, List.getD_eq_getElem?_getD]; rw [List.getElem?_set_ne (by omega), List.getElem?_set_self (by rw [List.length_set, hf]; omega)]; rfl)
   try simp only [xtn (show i * 4 + 2 ≠ i * 4 + 3 by omega), xie, go_sem, Nat.reduceAdd, Nat.reduceMul, Nat.reduceSub, Nat.reduceEqDiff, Nat.reduceLT, Nat.reduceLeDiff, Nat.reduceBEq, reduceIte, reduceCtorEq, Int.reduceAdd, Int.reduceLT, Int.reduceLE, Int.reduceGT, Int.reduceGE, Int.reduceEq, Int.reduceNe, Int.reduceBEq, Int.reduceBNe, Int.reduceToNat, Int.reduceNeg]
   refine pu ?_
   try (refine ev ?_; try exact True.intro)
   refine ⟨⟨i + 1, hil⟩, ?_, by dsimp only; omega⟩
   try (refine ev3 @qz1.eq_1 @hni (qf (show i < 9223372036854775807 by omega)) ?_; try exact True.intro)
   exact qon rfl rfl
  ·exfalso; simp at h; omega
 ·have hle : ¬ i ≤ k := by omega
  have hle1 : ¬ i + 1 ≤ k := by omega
  try (refine ev2 @qz1.eq_1 @hle ?_; try exact True.intro)
  (repeat (with_reducible refine ob ?_)); refine xn _ (fun h => ?_) (fun h => ?_)
  ·have hil : i < m.ents.length := by simpa using h
   have hx := hm.2 _ (List.getElem_mem hil)
   have hik' : i ≠ k := by omega
   try (refine ev ?_; try exact True.intro)
   (repeat (with_reducible refine ob ?_))
   rw [xm6 hik' hil]
   (repeat (with_reducible refine ob ?_)); first | refine cl F225 (yr m.ents[i].moved hx.1) ?_ | refine clF F225 (yr m.ents[i].moved hx.1) (fun _ => by (refine ev2 @qn.eq_1 @qu.eq_1 ?_; try exact True.intro)) ?_
   try (refine ev ?_; try exact True.intro)
   (repeat (with_reducible refine ob ?_))
   rw [xm7 hik' hil]
   (repeat (with_reducible refine ob ?_)); first | refine cl F225 (yr m.ents[i].opened hx.2) ?_ | refine clF F225 (yr m.ents[i].opened hx.2) (fun _ => by (refine ev2 @qn.eq_1 @qu.eq_1 ?_; try exact True.intro)) ?_
   try simp only [q3v hik' hil, q3w hik' hil, go_sem, Nat.reduceAdd, Nat.reduceMul, Nat.reduceSub, Nat.reduceEqDiff, Nat.reduceLT, Nat.reduceLeDiff, Nat.reduceBEq, reduceIte, reduceCtorEq, Int.reduceAdd, Int.reduceLT, Int.reduceLE, Int.reduceGT, Int.reduceGE, Int.reduceEq, Int.reduceNe, Int.reduceBEq, Int.reduceBNe, Int.reduceToNat, Int.reduceNeg]
   (repeat (with_reducible refine ob ?_))
   try simp only [q3v hik' hil, q3w hik' hil, go_sem, Nat.reduceAdd, Nat.reduceMul, Nat.reduceSub, Nat.reduceEqDiff, Nat.reduceLT, Nat.reduceLeDiff, Nat.reduceBEq, reduceIte, reduceCtorEq, Int.reduceAdd, Int.reduceLT, Int.reduceLE, Int.reduceGT, Int.reduceGE, Int.reduceEq, Int.reduceNe, Int.reduceBEq, Int.reduceBNe, Int.reduceToNat, Int.reduceNeg]
   (repeat (with_reducible refine ob ?_))
   try simp only [q3v hik' hil, q3w hik' hil, go_sem, Nat.reduceAdd, Nat.reduceMul, Nat.reduceSub, Nat.reduceEqDiff, Nat.reduceLT, Nat.reduceLeDiff, Nat.reduceBEq, reduceIte, reduceCtorEq, Int.reduceAdd, Int.reduceLT, Int.reduceLE, Int.reduceGT, Int.reduceGE, Int.reduceEq, Int.reduceNe, Int.reduceBEq, Int.reduceBNe, Int.reduceToNat, Int.reduceNeg]
   refine pu ?_
   try (refine ev ?_; try exact True.intro)
   refine ⟨⟨i + 1, hil⟩, ?_, by dsimp only; omega⟩
   try (refine ev3 @qz1.eq_1 @hle1 (qf (show i < 9223372036854775807 by omega)) ?_; try exact True.intro)
   exact qon rfl rfl
  ·have hil : i = m.ents.length := by
    have : m.ents.length ≤ i := by simpa using h
    omega
   subst hil
   try (refine ev ?_; try exact True.intro)
   refine pu ?_
   try (refine ev ?_; try exact True.intro)
   exact qon rfl rfl
end Go.Proofs.YtkcdbcbpbolgkaaGreatDoor
namespace Go.Proofs.YtkcdbcbpbolgkaaGreatDoor
open Go.Abs
noncomputable section
set_option maxRecDepth 100000
set_option linter.defProp false
def d229 := cut Tryz.prog Tryz.f229 news
@[go_sem] def E229 := ql d229
def d230 := cut Tryz.prog Tryz.f230 news
@[go_sem] def E230 := ql d230
def d149 := cut Tryz.prog Tryz.f149 news
@[go_sem] def E149 := ql d149
def d81 := cut Tryz.prog Tryz.f81 news
@[go_sem] def E81 := ql d81
def d82 := cut Tryz.prog Tryz.f82 news
@[go_sem] def E82 := ql d82
def d99 := cut Tryz.prog Tryz.f99 news
@[go_sem] def E99 := ql d99
def d34 := cut Tryz.prog Tryz.f34 news
@[go_sem] def E34 := ql d34
def d23 := cut Tryz.prog Tryz.f23 news
@[go_sem] def E23 := ql d23
def d94 := cut Tryz.prog Tryz.f94 news
@[go_sem] def E94 := ql d94
end
def idB (b : Bool) : Bool := b
theorem qmd (l : List Bool) : hasB false l = !l.all idB := by
 induction l with
 | nil => rfl
 | cons b l ih => cases b <;> simp_all [hasB, idB]
theorem qz3 (l : List Bool) : hasB true l = l.any idB := by
 induction l with
 | nil => rfl
 | cons b l ih => cases b <;> simp_all [hasB, idB]
end Go.Proofs.YtkcdbcbpbolgkaaGreatDoor
namespace Go.Proofs.YtkcdbcbpbolgkaaGreatDoor
open Go.Abs
noncomputable section
set_option maxRecDepth 100000
set_option linter.defProp false
def d18 := cut Tryz.prog Tryz.f18 news
@[go_sem] def E18 := ql d18
def F18 := fnC d18 follows Tryz.func18
def d200 := cut Tryz.prog Tryz.f200 news
@[go_sem] def E200 := ql d200
def d26 := cut Tryz.prog Tryz.f26 news
@[go_sem] def E26 := ql d26
def d35 := cut Tryz.prog Tryz.f35 news
@[go_sem] def E35 := ql d35
end
def qhq (s r label : Int) : Pk := ⟨3, s, 0, r, 0, 0, label, [], []⟩
def qme (s label : Int) (marks : List Bool) (r : Nat) : List Pk := if marks.getD r true then [] else [qhq s r label]
def qq3 (s label : Int) (marks : List Bool) (n : Nat) : List Pk := (List.range n).flatMap (qme s label marks)
def x7 (x : Ue) : List Bool := if x.phase != 1 then x.opened else x.moved
def ym (x : Ue) : Int := if x.phase != 1 then 2 else 1
def qwf (x : Ue) : List Pk := qq3 x.sess (ym x) (x7 x) (x7 x).length
def yn (m : Mg) (n : Nat) : List Pk := (List.range n).flatMap fun i => qwf (m.ents.getD i default)
def xp (m : Mg) : List Pk := if zd m then yn m m.ents.length else []
theorem qz4 (m : Mg) : yn m 0 = [] := rfl
theorem xc2 (s label : Int) (marks : List Bool) : qq3 s label marks 0 = [] := rfl
theorem qd3 (s label : Int) (marks : List Bool) (n : Nat) : qq3 s label marks (n + 1) = qq3 s label marks n ++ qme s label marks n := by simp [qq3, List.range_succ]
theorem qdt (m : Mg) (n : Nat) : yn m (n + 1) = yn m n ++ qwf (m.ents.getD n default) := by simp [yn, List.range_succ]
theorem qhr (s label : Int) (marks : List Bool) : ∀ n, (qq3 s label marks n).length ≤ n
 | 0 => by simp [qq3]
 | n + 1 => by
  rw [qd3, List.length_append]
  have := qhr s label marks n
  have : (qme s label marks n).length ≤ 1 := by unfold qme; split <;> simp
  omega
theorem qq4 (x : Ue) (hx : x.Sm) : (x7 x).length ≤ 1000 := by unfold x7; split; exact hx.2; exact hx.1
theorem xc3 (x : Ue) (hx : x.Sm) : (qwf x).length ≤ 1000 := Nat.le_trans (qhr _ _ _ _) (qq4 x hx)
theorem qe3 (m : Mg) (hm : m.Sm) : ∀ n, n ≤ m.ents.length → (yn m n).length ≤ n * 1000
 | 0, _ => by simp [yn]
 | n + 1, h => by
  have h1 : n < m.ents.length := h
  rw [qdt, List.length_append, x9 h1]
  have := qe3 m hm n (by omega)
  have := xc3 _ (hm.2 _ (List.getElem_mem h1))
  omega
def qg4 (x : Ue) : AObj := .row [.d (.int .i64 x.sess), .d (.int .i64 x.phase), .d (.sl 1 (x.moved.map encB)), .d (.sl 1 (x.opened.map encB))]
def xc4 (m : Mg) (i : { i : Nat // i ≤ m.ents.length }) : St :=
 ⟨[(2, true, .d .nilsl), (3, true, .own 0 9 ((yn m i.val).map qe)), (14, true, .d (.sl 4 (m.ents.map qn))), (15, true, .d (.int .i64 m.ents.length)), (16, true, .d (.int .i64 (i.val : Nat)))], [zr m], [0], 1⟩
def qsr (m : Mg) (i : Nat) (x : Ue) (r : { r : Nat // r ≤ (x7 x).length }) : St :=
 ⟨[(2, true, .d .nilsl), (3, true, .own 0 9 ((yn m i ++ qq3 x.sess (ym x) (x7 x) r.val).map qe)), (5, true, .d (.ptr 1 0)), (7, true, .d (.int .i64 (ym x))), (14, true, .d (.sl 4 (m.ents.map qn))), (15, true, .d (.int .i64 m.ents.length)), (16, true, .d (.int .i64 (i : Nat))),
  (27, true, .d (.sl 1 ((x7 x).map encB))), (28, true, .d (.int .i64 (x7 x).length)), (29, true, .d (.int .i64 (r.val : Nat)))], [zr m, qg4 x], [0], 1⟩
theorem xk1 (m : Mg) (hm : m.Sm) (i : Nat) (hi : i < m.ents.length) (x : Ue) (hx : x.Sm) (Q : SExit → St → Prop) (st : St) (h0 : Weak 0 st (qsr m i x ⟨0, Nat.zero_le _⟩))
  (hQ : ∀ b, Q .normal ⟨(30, true, .d (.bool b)) :: (qsr m i x ⟨(x7 x).length, Nat.le_refl _⟩).fr, [zr m, qg4 x], [0], 2⟩) : AWp Tryz.prog 0 (.block 2 (.loop (.seq (.region (d18.reg 11) 0 []) (.seq (.cond (.t 30) .skip (.exit 2)) (.seq (.block 3 (.seq (.region (d18.reg 12) 0 []) (.seq (.region (d18.reg 13) 0 []) (.cond (.t 35) (.region (d18.reg 14) 0 []) .skip)))) (.region (d18.reg 15) 0 [])))))) Q st := by
 have hml := qq4 x hx
 have hol := qe3 m hm i (by omega)
 have hl := hm.1
 try (refine ev ?_; try exact True.intro)
 refine qj (qsr m i x) (fun r => (x7 x).length - r.val) ⟨0, Nat.zero_le _⟩ h0 (fun r => ?_)
 obtain ⟨r, hr⟩ := r
 try (refine ev3 @qsr.eq_1 @zr.eq_1 @qg4.eq_1 ?_; try exact True.intro)
 (repeat (with_reducible refine ob ?_)); refine xn _ (fun h => ?_) (fun h => ?_)
 ·have hil : r < (x7 x).length := by simpa using h
  (refine ev2 (qi encB (x7 x) hil) @encB.eq_1 ?_; try exact True.intro)
  (repeat (with_reducible refine ob ?_))
  refine xn _ (fun h2 => ?_) (fun h2 => ?_)
  ·have hb : (x7 x)[r] = false := by simpa using h2
   have ha : qme x.sess (ym x) (x7 x) r = [qhq x.sess r (ym x)] := by simp [qme, hil, hb]
   have hlt := qhr x.sess (ym x) (x7 x) r
   try (refine ev ?_; try exact True.intro)
   (repeat (with_reducible refine ob ?_))
   refine ⟨⟨r + 1, hil⟩, ?_, by dsimp only; omega⟩
   try simp only [qsr, zr, qg4, qd3, ha, ← List.append_assoc, List.map_append, List.map_cons, List.map_nil, qhq, qe, qf (show r < 9223372036854775807 by omega), go_sem, Nat.reduceAdd, Nat.reduceMul, Nat.reduceSub, Nat.reduceEqDiff, Nat.reduceLT, Nat.reduceLeDiff, Nat.reduceBEq, reduceIte, reduceCtorEq, Int.reduceAdd, Int.reduceLT, Int.reduceLE, Int.reduceGT, Int.reduceGE, Int.reduceEq, Int.reduceNe, Int.reduceBEq, Int.reduceBNe, Int.reduceToNat, Int.reduceNeg]
  ·have hb : (x7 x)[r] = true := by simpa using h2
   have ha : qme x.sess (ym x) (x7 x) r = [] := by simp [qme, hil, hb]
   try (refine ev ?_; try exact True.intro)
   refine ⟨⟨r + 1, hil⟩, ?_, by dsimp only; omega⟩
   try (refine ev7 @qsr.eq_1 @zr.eq_1 @qg4.eq_1 @qd3 @ha @List.append_nil.{0} (qf (show r < 9223372036854775807 by omega)) ?_; try exact True.intro)
 ·have hil : r = (x7 x).length := by
   have : (x7 x).length ≤ r := by simpa using h
   omega
  subst hil
  try (refine ev ?_; try exact True.intro)
  exact hQ _
set_option maxRecDepth 10000 in
theorem qgj (m : Mg) (hm : m.Sm) : qg Tryz.prog 18 [.d (.agg (qu m))] [] (.d (.sl 9 ((xp m).map qe))) [] := by
 have hl := hm.1
 refine F18.go ?_
 try (refine ev1 @qu.eq_1 ?_; try exact True.intro)
 (repeat (with_reducible refine ob ?_)); first | refine cl F69 (yx m hm) ?_ | refine clF F69 (yx m hm) (fun _ => by (refine ev3 @qn.eq_1 @qu.eq_1 @qe.eq_1 ?_; try exact True.intro)) ?_
 try (refine ev ?_; try exact True.intro)
 refine xn _ (fun hv => ?_) (fun hv => ?_)
 ·have hu : xp m = [] := by simp at hv; simp [xp, hv]
  try (refine ev2 @hu @List.map_nil.{0,0} ?_; try exact True.intro)
 have hu : xp m = yn m m.ents.length := by simp at hv; simp [xp, hv]
 rw [hu]
 try (refine ev ?_; try exact True.intro)
 refine qj (xc4 m) (fun i => m.ents.length - i.val) ⟨0, Nat.zero_le _⟩ ?_ (fun i => ?_)
 ·try (refine ev4 @xc4.eq_1 @zr.eq_1 @qz4 @List.map_nil.{0,0} ?_; try exact True.intro)
 obtain ⟨i, hi⟩ := i
 try (refine ev2 @xc4.eq_1 @zr.eq_1 ?_; try exact True.intro)
 (repeat (with_reducible refine ob ?_)); refine xn _ (fun h => ?_) (fun h => ?_)
 ·have hil : i < m.ents.length := by simpa using h
  have hx := hm.2 _ (List.getElem_mem hil)
  (refine ev2 (qi qn m.ents hil) @qn.eq_1 ?_; try exact True.intro)
  (repeat (with_reducible refine ob ?_))
  refine xn _ (fun h2 => ?_) (fun h2 => ?_)
  ·have e1 : x7 m.ents[i] = m.ents[i].opened := by simp only [x7, h2, if_true]
   have e2 : ym m.ents[i] = 2 := by simp only [ym, h2, if_true]
   try (refine ev ?_; try exact True.intro)
   refine xk1 m hm i hil m.ents[i] hx _ _ ?_ (fun b => ?_)
   ·try (refine ev7 @qsr.eq_1 @zr.eq_1 @qg4.eq_1 @e1 @e2 @xc2 @List.append_nil.{0} ?_; try exact True.intro)
   ·try (refine ev3 @qsr.eq_1 @zr.eq_1 @qg4.eq_1 ?_; try exact True.intro)
    refine ⟨⟨i + 1, hil⟩, ?_, by dsimp only; omega⟩
    try (refine ev6 @xc4.eq_1 @zr.eq_1 @qdt (x9 hil) @qwf.eq_1 (qf (show i < 9223372036854775807 by omega)) ?_; try exact True.intro)
  ·have e1 : x7 m.ents[i] = m.ents[i].moved := by simp only [x7, h2]; rfl
   have e2 : ym m.ents[i] = 1 := by simp only [ym, h2]; rfl
   try (refine ev ?_; try exact True.intro)
   refine xk1 m hm i hil m.ents[i] hx _ _ ?_ (fun b => ?_)
   ·try (refine ev7 @qsr.eq_1 @zr.eq_1 @qg4.eq_1 @e1 @e2 @xc2 @List.append_nil.{0} ?_; try exact True.intro)
   ·try (refine ev3 @qsr.eq_1 @zr.eq_1 @qg4.eq_1 ?_; try exact True.intro)
    refine ⟨⟨i + 1, hil⟩, ?_, by dsimp only; omega⟩
    try (refine ev6 @xc4.eq_1 @zr.eq_1 @qdt (x9 hil) @qwf.eq_1 (qf (show i < 9223372036854775807 by omega)) ?_; try exact True.intro)
 ·have hil : i = m.ents.length := by
   have : m.ents.length ≤ i := by simpa using h
   omega
  subst hil
  try (refine ev ?_; try exact True.intro)
end Go.Proofs.YtkcdbcbpbolgkaaGreatDoor
namespace Go.Proofs.YtkcdbcbpbolgkaaGreatDoor
open Go.Abs
def Sorted (l : List En) : Prop := l.Pairwise fun a b => cmpB a.1 b.1 < 0
theorem Sorted.le {l : List En} (h : Sorted l) : l.Pairwise fun a b => cmpB a.1 b.1 ≤ 0 := h.imp fun hab => Int.le_of_lt hab
theorem xc6 (k : List UInt8) : pre [] k = true := by simp [pre]
def eSet (x : En) : List En → List En
 | [] => [x]
 | y :: l => if Op.bytesLess y.1 x.1 = true then y :: eSet x l else if y.1 = x.1 then x :: l else x :: y :: l
def eDel (k : List UInt8) (l : List En) : List En := l.filter fun e => !(e.1 == k)
def eOp (l : List En) (o : OpS) : List En := if o.del then eDel o.key l else eSet (o.key, o.val) l
def qaw : List En → List OpS → List En × Bool
 | l, [] => (l, true)
 | l, o :: r => if (eOp l o).length > 400 then ([], false) else qaw (eOp l o) r
def jl (m : Cont) : List En := qc7 m []
theorem qk2 {m : Cont} : (jl m).length = m.l.length := by
 have h1 : preL [] m.l = m.l.map enOf := by
  unfold preL
  congr 1
  exact List.filter_eq_self.2 fun x _ => xc6 _
 rw [jl, qc7, (v7 _).length_eq, h1, List.length_map]
end Go.Proofs.YtkcdbcbpbolgkaaGreatDoor
namespace Go.Proofs.YtkcdbcbpbolgkaaGreatDoor
open Go.Abs
noncomputable section
set_option maxRecDepth 100000
set_option linter.defProp false
def d150 := cut Tryz.prog Tryz.f150 news
@[go_sem] def E150 := ql d150
def d165 := cut Tryz.prog Tryz.f165 news
@[go_sem] def E165 := ql d165
def d163 := cut Tryz.prog Tryz.f163 news
@[go_sem] def E163 := ql d163
def d164 := cut Tryz.prog Tryz.f164 news
@[go_sem] def E164 := ql d164
def d162 := cut Tryz.prog Tryz.f162 news
@[go_sem] def E162 := ql d162
def d89 := cut Tryz.prog Tryz.f89 news
@[go_sem] def E89 := ql d89
end
end Go.Proofs.YtkcdbcbpbolgkaaGreatDoor
namespace Go.Proofs.YtkcdbcbpbolgkaaGreatDoor
open Go.Abs
structure Rd where
 b : List UInt8
 pos : Nat
 failed : Bool
 deriving DecidableEq, Inhabited
structure Rd.Ok (r : Rd) : Prop where
 len : r.b.length ≤ 1000000000
 pos : r.pos ≤ r.b.length
noncomputable section
set_option maxRecDepth 100000
set_option linter.defProp false
def d177 := cut Tryz.prog Tryz.f177 news
@[go_sem] def E177 := ql d177
def d288 := cut Tryz.prog Tryz.f288 news
@[go_sem] def E288 := ql d288
def d247 := cut Tryz.prog Tryz.f247 news
@[go_sem] def E247 := ql d247
def d180 := cut Tryz.prog Tryz.f180 news
@[go_sem] def E180 := ql d180
end
noncomputable section
set_option maxRecDepth 100000
set_option linter.defProp false
def d244 := cut Tryz.prog Tryz.f244 news
@[go_sem] def E244 := ql d244
end
theorem q30 (u d i : Nat) (hu : u < 2 ^ i) : u ||| d * 2 ^ i = u + d * 2 ^ i := by
 have := Nat.shiftLeft_add_eq_or_of_lt hu d
 rw [Nat.shiftLeft_eq] at this
 rw [Nat.or_comm, ← this, Nat.add_comm]
end Go.Proofs.YtkcdbcbpbolgkaaGreatDoor
namespace Go.Proofs.YtkcdbcbpbolgkaaGreatDoor
open Go.Abs
attribute [go_sem] exists_eq' List.getD_nil
noncomputable section
set_option maxRecDepth 100000
set_option linter.defProp false
def d246 := cut Tryz.prog Tryz.f246 news
@[go_sem] def E246 := ql d246
def d295 := cut Tryz.prog Tryz.f295 news
@[go_sem] def E295 := ql d295
def d292 := cut Tryz.prog Tryz.f292 news
@[go_sem] def E292 := ql d292
def d245 := cut Tryz.prog Tryz.f245 news
@[go_sem] def E245 := ql d245
def d294 := cut Tryz.prog Tryz.f294 news
@[go_sem] def E294 := ql d294
def d243 := cut Tryz.prog Tryz.f243 news
@[go_sem] def E243 := ql d243
def d291 := cut Tryz.prog Tryz.f291 news
@[go_sem] def E291 := ql d291
def d293 := cut Tryz.prog Tryz.f293 news
@[go_sem] def E293 := ql d293
def d178 := cut Tryz.prog Tryz.f178 news
@[go_sem] def E178 := ql d178
def d179 := cut Tryz.prog Tryz.f179 news
@[go_sem] def E179 := ql d179
def d250 := cut Tryz.prog Tryz.f250 news
@[go_sem] def E250 := ql d250
def d251 := cut Tryz.prog Tryz.f251 news
@[go_sem] def E251 := ql d251
def d249 := cut Tryz.prog Tryz.f249 news
@[go_sem] def E249 := ql d249
end
end Go.Proofs.YtkcdbcbpbolgkaaGreatDoor
namespace Go.Proofs.YtkcdbcbpbolgkaaGreatDoor
open Go.Abs
noncomputable section
set_option maxRecDepth 100000
set_option linter.defProp false
def d182 := cut Tryz.prog Tryz.f182 news
@[go_sem] def E182 := ql d182
end
end Go.Proofs.YtkcdbcbpbolgkaaGreatDoor
namespace Go.Proofs.YtkcdbcbpbolgkaaGreatDoor
open Go.Abs
end Go.Proofs.YtkcdbcbpbolgkaaGreatDoor
namespace Go.Proofs.YtkcdbcbpbolgkaaGreatDoor
open Go.Abs
noncomputable section
set_option maxRecDepth 100000
set_option linter.defProp false
def d96 := cut Tryz.prog Tryz.f96 news
@[go_sem] def E96 := ql d96
end
end Go.Proofs.YtkcdbcbpbolgkaaGreatDoor
namespace Go.Proofs.YtkcdbcbpbolgkaaGreatDoor
open Go.Abs
noncomputable section
set_option maxRecDepth 100000
set_option linter.defProp false
def d309 := cut Tryz.prog Tryz.f309 news
@[go_sem] def E309 := ql d309
def d257 := cut Tryz.prog Tryz.f257 news
@[go_sem] def E257 := ql d257
def d259 := cut Tryz.prog Tryz.f259 news
@[go_sem] def E259 := ql d259
def d260 := cut Tryz.prog Tryz.f260 news
@[go_sem] def E260 := ql d260
def d258 := cut Tryz.prog Tryz.f258 news
@[go_sem] def E258 := ql d258
def d98 := cut Tryz.prog Tryz.f98 news
@[go_sem] def E98 := ql d98
end
noncomputable section
set_option maxRecDepth 100000
set_option linter.defProp false
def d194 := cut Tryz.prog Tryz.f194 news
@[go_sem] def E194 := ql d194
end
end Go.Proofs.YtkcdbcbpbolgkaaGreatDoor
