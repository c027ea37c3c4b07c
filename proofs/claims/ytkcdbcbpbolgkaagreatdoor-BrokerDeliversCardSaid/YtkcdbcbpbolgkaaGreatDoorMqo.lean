/- Texts Wk, Wl, Wm, Wn, Vc, Cg, Ch, Ga, Gb, Gc, Gd, Ge, Gg, Za, Yd, Ya, Yb, Yc, Ye, Yf, Yg. -/
import Derived.Test.YtkcdbcbpbolgkaaGreatDoorMqn
import Derived.Shelf.SlSortCmp.NoneTotal
set_option linter.unusedSimpArgs false
set_option linter.unusedVariables false
namespace Go.Proofs.YtkcdbcbpbolgkaaGreatDoor
open Go.Abs Go.Shelf Go.RowKit Go.Lib Go.Sort
theorem xio (x : RowE) : (encR x).length = 2 := rfl
theorem xip (x : RowE) : ∀ v ∈ encR x, v.oneCell' = true := by
 intro v hv
 simp [encR] at hv
 rcases hv with rfl | rfl
 ·rfl
 ·exact x.2.2
set_option maxHeartbeats 1000000 in
theorem xnh (l : List En) (hn : (l.map (·.1)).Nodup) (hl : l.length ≤ 1000000) :
  qg Tryz.prog 172 [.d (.ref 0 0 2 l.length), .d (.func (.func 173) [] [])] [.row ((qfd l).map .d)] (.tup []) [.row ((qfd (qes l)).map .d)] := by
 intro g w vs hd hlen hv ho
 match vs, hlen with
 | [v0, v1], _ =>
 have h1 := wj (je (hv 1 v1 _ rfl rfl))
 have hf1 : v1 = .func (.func 173) #[] #[] := by
  cases h1 with
  | func _ vf vc _ _ hf hc =>
   have e1 : vf = [] := List.eq_nil_of_length_eq_zero (by simpa using hf)
   have e2 : vc = [] := List.eq_nil_of_length_eq_zero (by simpa using hc)
   subst e1; subst e2; rfl
 subst hf1
 have h0 := wj (je (hv 0 v0 _ rfl rfl))
 generalize hln : l.length = n at h0
 have none_ : ∀ (p : Option Addr) (cap : Nat), n = 0 → v0 = .slice p 0 cap → Calls Tryz.prog 172 [v0, .func (.func 173) #[] #[]].toArray w fun e w' =>
   ∃ v g' live', e = .returned v ∧ G g w g' w' ∧ Dom g' w' ∧ (∀ t ∈ (ASlot.tup []).toks ++ xh [.row ((qfd (qes l)).map .d)], t ∈ live') ∧ RS g' w' live' v (.tup []) ∧ ObjsOk g' w' live' [.row ((qfd (qes l)).map .d)] := by
  intro p cap h0 hv0
  have hl0 : l = [] := List.eq_nil_of_length_eq_zero (by omega)
  subst hl0; subst hv0
  have hcon := AnyF.slices_SortFunc_none xqk p cap (.func (.func 173) #[] #[]) w
  change Calls Tryz.prog 172 _ _ _ at hcon
  refine hcon.mono ?_
  rintro e w' ⟨rfl, rfl⟩
  have hs0 : qes [] = [] := by simp [qes]
  rw [hs0]
  exact ⟨_, g, [], rfl, .refl _ _, hd, by simp [ASlot.toks, xh, AObj.cells], ⟨[], rfl, rfl, fun i u s hu => by simp at hu⟩, ho⟩
 cases h0 with
 | refnil a => exact none_ a 0 rfl rfl
 | ref b _ _ _ _ cap hg hcap hmx hsz =>
 by_cases hn0 : n = 0
 ·subst hn0; exact none_ _ cap rfl rfl
 obtain ⟨b', hb', c, et, hh, hcs, hcc⟩ := (ho.objs 0 _ rfl (by simp)).resolve_right (fun h => by
  have := h.1
  simp at this
  have := congrArg List.length this
  simp [qie] at this; omega)
 have : b' = b := ho.inj b' b 0 hb' hg
 subst this
 rw [List.length_map, qie] at hcs
 have hcell : ∀ (i : Nat) (e : En), l[i]? = some e → c[2 * i]? = some (.string ⟨e.1.toArray⟩) ∧ ∃ v, c[2 * i + 1]? = some v ∧ v.oneCell' = true ∧ RV g w v (.sl 1 (qd e.2)) := by
  intro i e he
  obtain ⟨k1, k2⟩ := qtx l i e he
  obtain ⟨u, u1, _, u3⟩ := hcc (2 * i) (.d (.str e.1)) (by rw [List.getElem?_map, k1]; rfl)
  obtain ⟨v, v1, v2, v3⟩ := hcc (2 * i + 1) (.d (.sl 1 (qd e.2))) (by rw [List.getElem?_map, k2]; rfl)
  have hu := qcm (show RV g w u (.str e.1) from u3)
  subst hu
  exact ⟨u1, v, v1, v2, v3⟩
 let mkR : Nat → RowE := fun i => match l[i]?, c[2 * i + 1]? with
  | some e, some v => if h : v.oneCell' = true then (e.1, ⟨v, h⟩) else default
  | _, _ => default
 let P : List (RowE × En) := (List.range n).map fun i => (mkR i, l.getD i ([], []))
 have hPR : ∀ z ∈ P, z.1.1 = z.2.1 ∧ RV g w z.1.2.1 (.sl 1 (qd z.2.2)) := by
  intro z hz
  obtain ⟨i, hi, rfl⟩ := List.mem_map.1 hz
  have hil : i < l.length := by rw [hln]; exact List.mem_range.1 hi
  have he := List.getElem?_eq_getElem hil
  obtain ⟨_, v, v1, v2, v3⟩ := hcell i _ he
  have : mkR i = (l[i].1, ⟨v, v2⟩) := by simp only [mkR, he, v1, dif_pos v2]
  have e2 : l.getD i ([], []) = l[i] := by simp [List.getD, he]
  simp only [this, e2]
  exact ⟨trivial, v3⟩
 have hPs : P.map (·.2) = l := by
  apply List.ext_getElem?
  intro i
  simp only [P, List.map_map, List.getElem?_map]
  rcases Nat.lt_or_ge i n with h | h
  ·rw [List.getElem?_range h]
   have he := List.getElem?_eq_getElem (show i < l.length by omega)
   simp [he, List.getD]
  ·rw [List.getElem?_eq_none (by simpa using h), List.getElem?_eq_none (by omega)]; rfl
 obtain ⟨d, hdd⟩ : ∃ d : Array RowE, d = (P.map (·.1)).toArray := ⟨_, rfl⟩
 have hds : d.size = n := by rw [hdd]; simp [P]
 have hdi : ∀ i, i < n → d[i]! = mkR i := fun i hi => by rw [hdd]; simp [P, hi]
 have hblk : b' < w.heap.size := (Array.getElem?_eq_some_iff.1 hh).1
 have hfl : ∀ t, t < n * 2 → (flatK encR 2 d)[t]! = c.getD t default := by
  intro t ht
  rw [get_flatK encR 2 d t (by rw [hds]; exact ht), hdi _ (by omega)]
  have hil : t / 2 < l.length := by omega
  have he := List.getElem?_eq_getElem hil
  obtain ⟨k1, v, v1, v2, v3⟩ := hcell (t / 2) _ he
  have hm : mkR (t / 2) = (l[t / 2].1, ⟨v, v2⟩) := by simp only [mkR, he, v1, dif_pos v2]
  rw [hm]
  rcases Nat.mod_two_eq_zero_or_one t with hp | hp
  ·have e1 : 2 * (t / 2) = t := by omega
   rw [e1] at k1
   rw [hp, Array.getD_eq_getD_getElem?, k1]
   rfl
  ·have e1 : 2 * (t / 2) + 1 = t := by omega
   rw [e1] at v1
   rw [hp, Array.getD_eq_getD_getElem?, v1]
   rfl
 have hH : HoldsK encR 2 w b' 0 d := by
  intro j hj
  rw [size_flatK, hds] at hj
  refine ⟨?_, by simp [World.frozen?, hh]⟩
  rw [hfl j hj]
  have hjc : j < c.size := by omega
  simp [World.cell?, hh, hjc]
 have eg : ∀ args w, (callFunc 173 args).run Tryz.prog w = .ok (.enter 173 args) w := enters_of Tryz.func173 (by kernel_rfl) rfl
 have hcon := AnyQ.slices_SortFunc xqk 2 Tryz.isAgg195 Tryz.sizeOf195 encR xio xip cmpR xua 173 #[] b' 0 cap d w eg (fun _ _ _ _ x y => xin x y _) hH hblk (by omega)
 change Calls Tryz.prog 172 _ _ _ at hcon
 rw [hds] at hcon
 refine hcon.mono ?_
 rintro e w' ⟨rfl, d', m, os, hperm, hsort, hw'⟩
 obtain ⟨hps, _, hpl⟩ := hperm
 rw [hds] at hps
 have hp2 : d'.toList.Perm (P.map (·.1)) := by
  have e1 : d'.extract 0 n = d' := by rw [← hps]; simp
  have e2 : d.extract 0 n = d := by rw [← hds]; simp
  rw [e1, e2] at hpl
  rw [hdd] at hpl
  simpa using hpl
 obtain ⟨Q, q1, q2⟩ := xc8 (fun z : RowE × En => z.1) hp2 rfl
 have hQl : Q.length = n := by rw [q1.length_eq]; simp [P]
 have hesl : (Q.map (·.2)).Perm l := by
  have := q1.map (fun z : RowE × En => z.2)
  rwa [hPs] at this
 have hQ : ∀ (i : Nat) (z : RowE × En), Q[i]? = some z → d'[i]! = z.1 ∧ z.1.1 = z.2.1 ∧ RV g w z.1.2.1 (.sl 1 (qd z.2.2)) := by
  intro i z hz
  have h1 := congrArg (fun l => l[i]?) q2
  simp only [List.getElem?_map, hz, Option.map_some, Array.getElem?_toList] at h1
  have hi : i < d'.size := by rw [hps, ← hQl]; exact (List.getElem?_eq_some_iff.1 hz).1
  refine ⟨?_, hPR z (q1.mem_iff.1 (List.mem_of_getElem? hz))⟩
  rw [getElem!_pos d' i hi]
  rw [Array.getElem?_eq_getElem hi] at h1
  simpa using h1.symm
 have hsorted : (Q.map (·.2)).Pairwise fun a b => cmpB a.1 b.1 ≤ 0 := by
  rw [List.pairwise_iff_getElem]
  intro i j hi hj hij
  simp only [List.length_map] at hi hj
  have zi := hQ i _ (List.getElem?_eq_getElem hi)
  have zj := hQ j _ (List.getElem?_eq_getElem hj)
  have hs := hsort i j (Nat.zero_le _) hij (by omega)
  rw [zi.1, zj.1] at hs
  have hs2 : ¬ cmpB Q[j].1.1 Q[i].1.1 < 0 := of_decide_eq_false hs
  rw [zi.2.1, zj.2.1] at hs2
  simp only [List.getElem_map]
  exact qec.1 hs2
 have hes : Q.map (·.2) = qes l := by
  have hn2 : ((Q.map (·.2)).map (·.1)).Nodup := (hesl.map (fun x : En => x.1)).nodup_iff.2 hn
  exact qif (hesl.trans (wi l).symm) hn2 hsorted (qd0 l)
 have hwh : w'.heap = (w.heap.modify b' (onCells (putCells (fun v : Value => v) 0 (flatK encR 2 d')))) ++ os := by subst hw'; rfl
 have hother : ∀ k, k ≠ b' → k < w.heap.size → w'.heap[k]? = w.heap[k]? := by
  intro k hk hkl
  rw [hwh, Array.getElem?_append, if_pos (by simpa using hkl), Array.getElem?_modify, if_neg (Ne.symm hk)]
 have hself : w'.heap[b']? = some (.cells (putCells (fun v : Value => v) 0 (flatK encR 2 d') c) et (0, 0)) := by
  rw [hwh, Array.getElem?_append, if_pos (by simpa using hblk), Array.getElem?_modify, if_pos rfl, hh]
  rfl
 have hsize : w.heap.size ≤ w'.heap.size := by
  subst hw'
  simp [sortWorldK, grow, putRowK, putRow, mapBlock, Sort.ahead]
 have htop : w'.os = w.os ∧ w'.tape = w.tape ∧ w'.output = w.output := by subst hw'; exact ⟨rfl, rfl, rfl⟩
 have hne : ∀ k r, g k = r → (∀ i, r ≠ .obj i) → k ≠ b' := fun k r h hr he => by rw [he, hg] at h; exact hr 0 h.symm
 have hG : G g w g w' := by
  refine ⟨htop.1, htop.2.1, htop.2.2, hsize, fun k hk hgk => ⟨hother k (hne k _ hgk (by simp)) hk, hgk⟩, fun k r hk hgk => ⟨hother k (hne k _ hgk (by simp)) hk, hgk⟩,
   fun k r t hk hgk => ⟨r, some t, hgk, Nat.le_refl _, fun i u _ hu => by rw [ky (hother k (hne k _ hgk (by simp)) hk)]; exact hu⟩, fun k id hk hgk => ⟨hgk, ?_⟩⟩
  by_cases hkb : k = b'
  ·subst hkb
   rw [vi hh, vi hself]
   simp [putCells]
  ·exact Nat.le_of_eq (ji (hother k hkb hk)).symm
 refine ⟨_, g, [], rfl, hG, hd.of hG fun k hk => hd.1 k (by omega), by simp [ASlot.toks, xh, AObj.cells], ⟨[], rfl, rfl, fun i u s hu => by simp at hu⟩, ⟨fun oid o hid hno => ?_, ho.inj, fun b oid hb => ?_⟩⟩
 ·match oid, hid with
  | 0, hid =>
   simp at hid
   subst hid
   have hle := (wi l).length_eq
   refine .inl ⟨b', hg, _, et, hself, by simp [putCells, qie, hle]; omega, fun i s hi => ?_⟩
   rw [List.getElem?_map, Option.map_eq_some_iff] at hi
   obtain ⟨x, hx, rfl⟩ := hi
   have hil : i < n * 2 := by
    have := (List.getElem?_eq_some_iff.1 hx).1
    rw [qie, hle, hln] at this
    exact this
   have hQi : i / 2 < Q.length := by omega
   obtain ⟨z1, z2, z3⟩ := hQ (i / 2) _ (List.getElem?_eq_getElem hQi)
   have hz : (qes l)[i / 2]? = some Q[i / 2].2 := by rw [← hes, List.getElem?_map, List.getElem?_eq_getElem hQi]; rfl
   obtain ⟨k1, k2⟩ := qtx _ _ _ hz
   have hcv : (putCells (fun v : Value => v) 0 (flatK encR 2 d') c)[i]? = some ((encR Q[i / 2].1)[i % 2]!) := by
    have hic : i < c.size := by omega
    simp only [putCells, Array.getElem?_mapIdx, Array.getElem?_eq_getElem hic, Option.map_some, size_flatK, hps, Nat.zero_le, true_and, Nat.zero_add, hil, if_true, Nat.sub_zero]
    rw [get_flatK encR 2 d' i (by rw [hps]; exact hil), z1]
   rcases Nat.mod_two_eq_zero_or_one i with hp | hp
   ·have e1 : 2 * (i / 2) = i := by omega
    rw [e1] at k1
    rw [k1] at hx; cases hx
    rw [hp] at hcv
    have hcs : (encR Q[i / 2].1)[0]! = .string ⟨Q[i / 2].2.1.toArray⟩ := by rw [← z2]; rfl
    rw [hcs] at hcv
    exact ⟨_, hcv, rfl, .str _⟩
   ·have e1 : 2 * (i / 2) + 1 = i := by omega
    rw [e1] at k2
    rw [k2] at hx; cases hx
    rw [hp] at hcv
    exact ⟨_, hcv, Q[i / 2].1.2.2, z3.mono (hG.rowsKept hd) (fun b id hb => hG.obj b id (hd.lt_obj hb) hb)⟩
  | i + 1, hid => simp at hid
 ·obtain ⟨o, h1, h2⟩ := ho.ids b oid hb
  match oid, h1 with
  | 0, h1 => exact ⟨_, rfl, by simp⟩
  | i + 1, h1 => simp at h1
end Go.Proofs.YtkcdbcbpbolgkaaGreatDoor
namespace Go.Proofs.YtkcdbcbpbolgkaaGreatDoor
open Go.Abs
attribute [go_sem] qaj
def pre (p k : List UInt8) : Bool := decide (p.length ≤ k.length) && k.take p.length == p
noncomputable section
set_option maxRecDepth 100000
set_option linter.defProp false
def d236 := cut Tryz.prog Tryz.f236 news
@[go_sem] def E236 := ql d236
def F236 := fnC d236 follows Tryz.func236
def d171 := cut Tryz.prog Tryz.f171 news
@[go_sem] def E171 := ql d171
def F171 := fnC d171 follows Tryz.func171
end
theorem qkv (k p : List UInt8) : qg Tryz.prog 236 [.d (.str k), .d (.str p)] [] (.d (.bool (pre p k))) [] := by
 refine F236.go ?_
 by_cases h : p.length ≤ k.length
 ·have hd : decide ((k.length : Int) ≥ (p.length : Int)) = true := by simpa using h
  have hd2 : decide (p.length ≤ k.length) = true := by simpa using h
  try (refine ev3 @pre.eq_1 @hd @hd2 ?_; try exact True.intro)
  (repeat (with_reducible refine ob ?_))
  try (refine ev2 @hd @Nat.sub_zero ?_; try exact True.intro)
 ·have hd : decide ((k.length : Int) ≥ (p.length : Int)) = false := by simpa using h
  have hd2 : decide (p.length ≤ k.length) = false := by simpa using h
  try (refine ev3 @pre.eq_1 @hd @hd2 ?_; try exact True.intro)
  (repeat (with_reducible refine ob ?_))
  try (refine ev1 @hd ?_; try exact True.intro)
theorem qnl (k p : List UInt8) : qg Tryz.prog 171 [.d (.str k), .d (.str p)] [] (.d (.bool (pre p k))) [] := by
 refine F171.go ?_
 try (refine ev ?_; try exact True.intro)
 (repeat (with_reducible refine ob ?_)); first | refine cl F236 (qkv k p) ?_ | refine clF F236 (qkv k p) (fun _ => by (refine ev2 @qo.eq_1 @vd.eq_1 ?_; try exact True.intro)) ?_
 try (refine ev ?_; try exact True.intro)
noncomputable section
set_option maxRecDepth 100000
set_option linter.defProp false
def d92u := cut Tryz.prog Tryz.f92 news [29] [10] true
@[go_sem] def E92u := ql d92u
def F92u := fnC d92u follows Tryz.func92
def d172 := cut Tryz.prog Tryz.f172 news
@[go_sem] def E172 := ql d172
def F172 := fnC d172 follows Tryz.func172
end
theorem q3y {α β : Type} {f : α → β} : ∀ {l : List α}, (l.map f).Nodup → ∀ {x y : α}, x ∈ l → y ∈ l → f x = f y → x = y
 | [], _, x, y, hx, _, _ => by cases hx
 | a :: l, hn, x, y, hx, hy, h => by
  simp only [List.map_cons, List.nodup_cons, List.mem_map, not_exists, not_and] at hn
  rcases List.mem_cons.1 hx with rfl | hx'
  ·rcases List.mem_cons.1 hy with rfl | hy'
   ·rfl
   ·exact absurd h.symm (hn.1 y hy')
  ·rcases List.mem_cons.1 hy with rfl | hy'
   ·exact absurd h (hn.1 x hx')
   ·exact q3y hn.2 hx' hy' h
theorem qbs {α β : Type} (f : α → β) : ∀ {l : List α}, (l.map f).Nodup → l.Nodup
 | [], _ => List.nodup_nil
 | a :: l, hn => by
  simp only [List.map_cons, List.nodup_cons, List.mem_map, not_exists, not_and] at hn ⊢
  exact ⟨fun h => hn.1 a h rfl, qbs f hn.2⟩
theorem q53 {α : Type} (f : α → Nat) : ∀ {l : List α}, (l.map f).Nodup → ∀ {x : α}, x ∈ l → (l.find? fun y => f y == f x) = some x
 | [], _, x, hx => by cases hx
 | a :: l, hn, x, hx => by
  rw [List.find?_cons]
  by_cases h : f a = f x
  ·have := q3y hn (List.mem_cons_self ..) hx h
   subst this
   simp
  ·rw [beq_false_of_ne h]
   rcases List.mem_cons.1 hx with rfl | hx'
   ·exact absurd rfl h
   ·exact q53 f (by simp only [List.map_cons, List.nodup_cons] at hn; exact hn.2) hx'
theorem xc9 {α : Type} [DecidableEq α] : ∀ {a b : List α}, a.Nodup → (∀ x ∈ a, x ∈ b) → a.length ≤ b.length
 | [], _, _, _ => Nat.zero_le _
 | x :: a, b, h, hs => by
  have hx := hs x (List.mem_cons_self ..)
  have h' := List.nodup_cons.1 h
  have := xc9 (a := a) (b := b.erase x) h'.2 fun y hy => (List.mem_erase_of_ne (by rintro rfl; exact h'.1 hy)).2 (hs y (List.mem_cons_of_mem _ hy))
  rw [List.length_erase_of_mem hx] at this
  have := List.length_pos_of_mem hx
  simp only [List.length_cons]; omega
theorem q9a (l : List En) : (l.map vd).flatten = qfd l := rfl
theorem q3z (l : List En) : (qfd l).all D.isCell = true := by induction l <;> simp_all [qfd, vd, D.isCell]
attribute [go_sem] q9a qz1 q3z
structure Cont.Ok (m : Cont) : Prop where
 num : (m.l.map (·.1)).Nodup
 lt : ∀ x ∈ m.l, x.1 < m.c
 key : (m.l.map (·.2.1)).Nodup
def enOf (x : KV) : En := (x.2.1, x.2.2)
def preL (p : List UInt8) (l : List KV) : List En := (l.filter fun x => pre p x.2.1).map enOf
def qdh (m : Cont) (p : List UInt8) : List En := qes (preL p m.l)
theorem qz2 {p : List UInt8} {l : List KV} (h : (l.map (·.2.1)).Nodup) : ((preL p l).map (·.1)).Nodup := by
 unfold preL
 rw [List.map_map]
 exact List.Nodup.sublist (List.Sublist.map _ List.filter_sublist) h
theorem xda {a b : List En} (h : a.Perm b) (hn : (a.map (·.1)).Nodup) : qes a = qes b := by
 have h1 := wi a
 have h2 := wi b
 refine qif (h1.trans (h.trans h2.symm)) ((h1.map (fun x : En => x.1)).nodup_iff.2 hn) (qd0 a) (qd0 b)
def xdb (s : Sto) (p : List UInt8) (i : { i : List KV // (i.map (·.1)).Nodup ∧ ∀ x ∈ i, x ∈ s.m.l }) : St :=
 ⟨[(1, true, .d (.str p)), (5, true, .uni 0 2 ((preL p i.val).map vd)), (14, true, .d (.ptr 2 0))], [stoO s 1, mapO s.m, .iter (.d (.map 1)) s.m.c (i.val.map (·.1)) s.m.c], [0], 1⟩
set_option maxRecDepth 10000 in
theorem xni (s : Sto) (p : List UInt8) (hm : s.m.Ok) (hl : s.m.l.length ≤ 1000) (hv : ∀ x ∈ s.m.l, x.2.2.length ≤ 1000000) :
  qg Tryz.prog 92 [.d (.ptr 0 0), .d (.str p)] [stoO s 1, mapO s.m] (.d (.sl 2 ((qdh s.m p).map vd))) [stoO s 1, mapO s.m] := by
 refine F92u.go ?_
 try (refine ev2 @stoO.eq_1 @mapO.eq_1 ?_; try exact True.intro)
 (repeat (with_reducible refine ob ?_)); refine no_ ?_
 try (refine ev ?_; try exact True.intro)
 refine qk (xdb s p) (fun i => s.m.l.length - i.val.length) ⟨[], by simp, by simp⟩ ?_ (fun i => ?_)
 ·try (refine ev6 @xdb.eq_1 @stoO.eq_1 @mapO.eq_1 @preL.eq_1 @List.filter_nil.{0} @List.map_nil.{0,0} ?_; try exact True.intro)
 obtain ⟨i, hi1, hi2⟩ := i
 try (refine ev3 @xdb.eq_1 @stoO.eq_1 @mapO.eq_1 ?_; try exact True.intro)
 have hleft : qgg (s.m.l.map qe3) (i.map (·.1)) = (s.m.l.filter fun x => !(i.map (·.1)).contains x.1).map qe3 := by
  unfold qgg
  rw [List.filter_map]; rfl
 have hone : ∀ x ∈ s.m.l, ∀ y ∈ s.m.l, x.1 = y.1 → x = y := fun x hx y hy h => q3y hm.num hx hy h
 refine xg5 (last := s.m.c) ⟨rfl, rfl, by intro e he; obtain ⟨x, hx, rfl⟩ := List.mem_map.1 he; exact hm.lt x hx, Nat.le_refl _⟩ (fun hl0 => ?_) (fun e he => ?_)
 ·
  rw [hleft, List.map_eq_nil_iff, List.filter_eq_nil_iff] at hl0
  have hall : ∀ x ∈ s.m.l, x ∈ i := by
   intro x hx
   have := hl0 x hx
   simp only [List.contains_eq_mem, decide_eq_true_eq, Bool.not_eq_true, Bool.not_eq_false', Bool.not_not] at this
   simp at this
   obtain ⟨a, b, hab⟩ := this
   have := hone x hx _ (hi2 _ hab) rfl
   rw [this]; exact hab
  have hperm : i.Perm s.m.l := by
   refine (List.perm_ext_iff_of_nodup (qbs _ hi1) (qbs _ hm.num)).2 fun x => ⟨hi2 x, hall x⟩
  have hpp : (preL p i).Perm (preL p s.m.l) := (hperm.filter _).map _
  have hpn : ((preL p i).map (·.1)).Nodup := by
   refine (hpp.map (fun x : En => x.1)).nodup_iff.2 ?_
   exact qz2 hm.key
  have hsame : qes (preL p i) = qdh s.m p := xda hpp hpn
  have hlen : (preL p i).length ≤ 1000 := by
   have h1 := hpp.length_eq
   have h2 : (preL p s.m.l).length ≤ s.m.l.length := by simp only [preL, List.length_map]; exact List.length_filter_le _ _
   omega
  try (refine ev1 @qpn.eq_1 ?_; try exact True.intro)
  (repeat (with_reducible refine ob ?_)); refine no_ ?_
  try (refine ev ?_; try exact True.intro)
  refine qqh (.fr 5) 0 2 ((preL p i).map vd) ?_
  refine pu ?_
  try (refine ev ?_; try exact True.intro)
  refine clO [3] F172 (xnh (preL p i) hpn (by omega)) ?_
  try (refine ev ?_; try exact True.intro)
  have hsl : (preL p i).length = (qes (preL p i)).length := (wi _).length_eq.symm
  rw [hsl]
  refine qqj 3 2 ((qes (preL p i)).map vd) ?_ (hc := ?_) (hcc := ?_) (hes := ?_) (hok := D.okWR_noPtr (qqw _))
  ·refine pu ?_
   try (refine ev1 @hsame ?_; try exact True.intro)
  ·try (refine ev ?_; try exact True.intro)
  ·try (refine ev ?_; try exact True.intro)
  ·intro r hr
   obtain ⟨x, _, rfl⟩ := List.mem_map.1 hr
   rfl
 ·rw [hleft] at he
  obtain ⟨x, hx, rfl⟩ := List.mem_map.1 he
  rw [List.mem_filter] at hx
  obtain ⟨hx1, hx2⟩ := hx
  have hx3 : x.1 ∉ i.map (·.1) := by simpa using hx2
  have hnext : ((i ++ [x]).map (·.1)).Nodup ∧ ∀ y ∈ i ++ [x], y ∈ s.m.l := by
   refine ⟨by rw [List.map_append]; exact List.nodup_append.2 ⟨hi1, by simp, fun a ha b hb h => by simp at hb; subst hb; subst h; exact hx3 ha⟩, fun y hy => ?_⟩
   rcases List.mem_append.1 hy with h | h
   ·exact hi2 y h
   ·simp at h; subst h; exact hx1
  have hil : i.length < s.m.l.length := by
   have := xc9 (qbs _ hnext.1) hnext.2
   simp at this; omega
  have hpl : (preL p i).length ≤ i.length := by simp only [preL, List.length_map]; exact List.length_filter_le _ _
  try (refine ev1 @entV.eq_1 ?_; try exact True.intro)
  (repeat (with_reducible refine ob ?_)); refine qck ?_
  try (refine ev ?_; try exact True.intro)
  refine xbz (e := qe3 x) (mid := 1) (since := s.m.c) (seen := i.map (·.1) ++ [x.1]) (clock := s.m.c) (es := s.m.l.map qe3) ⟨rfl, rfl, by simp [qe3], ?_⟩ ?_
  ·rw [List.find?_map]
   have h1 : s.m.l.find? ((fun e : Nat × D × D => e.1 == (qe3 x).1) ∘ qe3) = some x := q53 (fun y : KV => y.1) hm.num hx1
   rw [h1]; rfl
  try (refine ev1 @qe3.eq_1 ?_; try exact True.intro)
  (repeat (with_reducible refine ob ?_)); first | refine cl F171 (qnl x.2.1 p) ?_ | refine clF F171 (qnl x.2.1 p) (fun _ => by (refine ev2 @qo.eq_1 @vd.eq_1 ?_; try exact True.intro)) ?_
  try (refine ev ?_; try exact True.intro)
  (repeat (with_reducible refine ob ?_)); refine xq _ (fun h => ?_) (fun h => ?_)
  ·try (refine ev ?_; try exact True.intro)
   (repeat (with_reducible refine ob ?_)); first | refine cl F127 (yw x.2.2 (by have := hv x hx1; omega)) ?_ | refine clF F127 (yw x.2.2 (by have := hv x hx1; omega)) (fun _ => by (refine ev2 @qo.eq_1 @vd.eq_1 ?_; try exact True.intro)) ?_
   try (refine ev ?_; try exact True.intro)
   refine ⟨by omega, ?_⟩
   have hpx : preL p (i ++ [x]) = preL p i ++ [enOf x] := by simp [preL, h]
   refine ⟨⟨i ++ [x], hnext⟩, ?_, by simp only [List.length_append, List.length_singleton]; omega⟩
   try (refine ev7 @xdb.eq_1 @stoO.eq_1 @mapO.eq_1 @hpx @List.map_append.{0,0} @vd.eq_1 @enOf.eq_1 ?_; try exact True.intro)
  ·have hpx : preL p (i ++ [x]) = preL p i := by simp [preL, h]
   try (refine ev ?_; try exact True.intro)
   refine ⟨⟨i ++ [x], hnext⟩, ?_, by simp only [List.length_append, List.length_singleton]; omega⟩
   try (refine ev7 @xdb.eq_1 @stoO.eq_1 @mapO.eq_1 @hpx @List.map_append.{0,0} @vd.eq_1 @enOf.eq_1 ?_; try exact True.intro)
end Go.Proofs.YtkcdbcbpbolgkaaGreatDoor
namespace Go.Proofs.YtkcdbcbpbolgkaaGreatDoor
open Go.Abs
theorem qbt {k : List UInt8} {x : KV} : zt k x = true ↔ k = x.2.1 := by simp [zt]
theorem qqx {k v : List UInt8} : ∀ {l : List KV} {j : Nat}, l.findIdx? (zt k) = some j → ∀ k', (l.modify j fun e => (e.1, k, v)).find? (zt k') = if k' = k then some ((l[j]?.getD (0, [], [])).1, k, v) else l.find? (zt k')
 | [], j, h, k' => by simp at h
 | a :: l, j, h, k' => by
  rw [List.findIdx?_cons] at h
  by_cases ha : zt k a = true
  ·rw [if_pos ha] at h
   cases h
   simp only [List.modify_zero_cons, List.find?_cons, List.getElem?_cons_zero, Option.getD_some]
   by_cases hk : k' = k
   ·subst hk
    have : zt k' (a.1, k', v) = true := qbt.2 rfl
    rw [this, if_pos rfl]
   ·have h1 : zt k' (a.1, k, v) = false := by simpa [zt] using hk
    have h2 : zt k' a = false := by rw [qbt] at ha; simp [zt, ← ha, hk]
    rw [h1, h2, if_neg hk]
  ·rw [if_neg (by simpa using ha)] at h
   obtain ⟨i, hi, rfl⟩ := Option.map_eq_some_iff.1 h
   simp only [List.modify_succ_cons, List.find?_cons, List.getElem?_cons_succ]
   have ih := qqx (v := v) hi k'
   by_cases hk : k' = k
   ·subst hk
    have : zt k' a = false := by simpa using ha
    rw [this]
    exact ih
   ·cases h2 : zt k' a with
    | true => rw [if_neg hk]
    | false => rw [ih]
theorem qz3 {k : List UInt8} {l : List KV} (h : l.findIdx? (zt k) = none) : l.find? (zt k) = none := by
 rw [List.findIdx?_eq_none_iff] at h
 exact List.find?_eq_none.2 fun x hx => by rw [h x hx]; simp
theorem q54 (k v : List UInt8) (m : Cont) (k' : List UInt8) : mGet k' (mPut k v m) = if k' = k then some v else mGet k' m := by
 unfold mGet mPut
 cases h : m.l.findIdx? (zt k) with
 | some j =>
  simp only [qqx h k']
  split <;> rfl
 | none =>
  simp only [List.find?_append]
  by_cases hk : k' = k
  ·subst hk
   rw [qz3 h, if_pos rfl]
   simp [zt]
  ·rw [if_neg hk]
   have : [(m.c, k, v)].find? (zt k') = none := by simp [zt, hk]
   rw [this, Option.or_none]
theorem qty {k v : List UInt8} : ∀ {l : List KV} {j : Nat}, l.findIdx? (zt k) = some j → (l.modify j fun e => (e.1, k, v)).map (·.2.1) = l.map (·.2.1) ∧ (l.modify j fun e => (e.1, k, v)).map (·.1) = l.map (·.1)
 | [], j, h => by simp at h
 | a :: l, j, h => by
  rw [List.findIdx?_cons] at h
  by_cases ha : zt k a = true
  ·rw [if_pos ha] at h
   cases h
   rw [qbt] at ha
   simp only [List.modify_zero_cons, List.map_cons, ha, and_self]
  ·rw [if_neg (by simpa using ha)] at h
   obtain ⟨i, hi, rfl⟩ := Option.map_eq_some_iff.1 h
   obtain ⟨h1, h2⟩ := qty (v := v) hi
   simp only [List.modify_succ_cons, List.map_cons, h1, h2, and_self]
theorem qtz {α : Type} {l : List α} {x : α} (h : l.Nodup) (hx : x ∉ l) : (l ++ [x]).Nodup :=
 List.nodup_append.2 ⟨h, by simp, fun a ha b hb e => by simp at hb; subst hb; subst e; exact hx ha⟩
theorem qqy {m : Cont} (h : m.Ok) (k v : List UInt8) : (mPut k v m).Ok := by
 unfold mPut
 cases hf : m.l.findIdx? (zt k) with
 | some j =>
  obtain ⟨h1, h2⟩ := qty (v := v) hf
  refine ⟨by simpa only [h2] using h.num, fun x hx => ?_, by simpa only [h1] using h.key⟩
  have : x.1 ∈ (m.l.modify j fun e => (e.1, k, v)).map (·.1) := List.mem_map_of_mem hx
  rw [h2] at this
  obtain ⟨y, hy, he⟩ := List.mem_map.1 this
  rw [← he]; exact h.lt y hy
 | none =>
  rw [List.findIdx?_eq_none_iff] at hf
  refine ⟨?_, fun x hx => ?_, ?_⟩
  ·rw [List.map_append]
   refine qtz h.num fun hm => ?_
   obtain ⟨y, hy, he⟩ := List.mem_map.1 hm
   have := h.lt y hy
   simp only at he
   omega
  ·simp only
   rcases List.mem_append.1 hx with hx | hx
   ·have := h.lt x hx; omega
   ·simp at hx; subst hx; simp
  ·rw [List.map_append]
   refine qtz h.key fun hm => ?_
   obtain ⟨y, hy, he⟩ := List.mem_map.1 hm
   have := hf y hy
   simp [zt, he] at this
theorem qkw (k : List UInt8) (m : Cont) : (mDel k m).l.Sublist m.l := by
 unfold mDel
 split
 ·exact List.eraseIdx_sublist ..
 ·exact List.Sublist.refl _
theorem qqz {m : Cont} (h : m.Ok) (k : List UInt8) : (mDel k m).Ok :=
 ⟨List.Nodup.sublist ((qkw k m).map _) h.num, fun x hx => by rw [xlg]; exact h.lt x ((qkw k m).subset hx), List.Nodup.sublist ((qkw k m).map _) h.key⟩
theorem qt0 {k : List UInt8} : ∀ {l : List KV} {j : Nat}, l.findIdx? (zt k) = some j → (l.map (·.2.1)).Nodup → ∀ k', (l.eraseIdx j).find? (zt k') = if k' = k then none else l.find? (zt k')
 | [], j, h, _, k' => by simp at h
 | a :: l, j, h, hn, k' => by
  rw [List.findIdx?_cons] at h
  simp only [List.map_cons, List.nodup_cons] at hn
  by_cases ha : zt k a = true
  ·rw [if_pos ha] at h
   cases h
   rw [qbt] at ha
   simp only [List.eraseIdx_cons_zero, List.find?_cons]
   by_cases hk : k' = k
   ·subst hk
    rw [if_pos rfl]
    refine List.find?_eq_none.2 fun x hx hk => ?_
    rw [qbt] at hk
    exact hn.1 (List.mem_map.2 ⟨x, hx, by rw [← ha, ← hk]⟩)
   ·rw [if_neg hk]
    have h2 : zt k' a = false := by simp [zt, ← ha, hk]
    rw [h2]
  ·rw [if_neg (by simpa using ha)] at h
   obtain ⟨i, hi, rfl⟩ := Option.map_eq_some_iff.1 h
   simp only [List.eraseIdx_cons_succ, List.find?_cons]
   have ih := qt0 hi hn.2 k'
   by_cases hk : k' = k
   ·subst hk
    have : zt k' a = false := by simpa using ha
    rw [this, if_pos rfl]
    rw [if_pos rfl] at ih
    exact ih
   ·cases h2 : zt k' a with
    | true => rw [if_neg hk]
    | false => rw [ih]
theorem q55 {m : Cont} (h : m.Ok) (k k' : List UInt8) : mGet k' (mDel k m) = if k' = k then none else mGet k' m := by
 unfold mGet mDel
 cases hf : m.l.findIdx? (zt k) with
 | some j =>
  simp only [qt0 hf h.key k']
  split <;> rfl
 | none =>
  simp only
  split
  ·rename_i hk; subst hk; rw [qz3 hf]; rfl
  ·rfl
theorem q56 (k v : List UInt8) (m : Cont) : (mPut k v m).l.length ≤ m.l.length + 1 := by
 unfold mPut
 split <;> simp
theorem qwm (k : List UInt8) (m : Cont) : (mDel k m).l.length ≤ m.l.length := (qkw k m).length_le
def kvOk (x : KV) : Prop := 1 ≤ x.2.1.length ∧ x.2.1.length ≤ 40 ∧ x.2.2.length ≤ 900
theorem xiq {k v : List UInt8} {m : Cont} {x : KV} (h : x ∈ (mPut k v m).l) : x ∈ m.l ∨ (x.2.1 = k ∧ x.2.2 = v) := by
 unfold mPut at h
 split at h
 ·rename_i j hj
  simp only at h
  obtain ⟨i, hi⟩ := List.getElem?_of_mem h
  rw [List.getElem?_modify] at hi
  cases hg : m.l[i]? with
  | none => rw [hg] at hi; cases hi
  | some y =>
   rw [hg] at hi
   simp only [Option.map_eq_map, Option.map_some, Option.some.injEq] at hi
   split at hi
   ·subst hi; exact .inr ⟨rfl, rfl⟩
   ·subst hi; exact .inl (List.mem_of_getElem? hg)
 ·rcases List.mem_append.1 h with h | h
  ·exact .inl h
  ·simp at h; subst h; exact .inr ⟨rfl, rfl⟩
structure Cont.Good (m : Cont) : Prop where
 ok : m.Ok
 few : m.l.length ≤ 400
 small : ∀ x ∈ m.l, kvOk x
theorem qgq : ∀ (l : List OpS) {m : Cont}, m.Good → (∀ o ∈ l, kj o = true) → (jr m l).2 = true → (jr m l).1.Good
 | [], m, h, _, _ => h
 | o :: l, m, h, hp, hy => by
  rw [jr] at hy ⊢
  have ho := we.1 (hp o (List.mem_cons_self ..))
  have hp' := fun x hx => hp x (List.mem_cons_of_mem _ hx)
  split at hy
  ·rename_i hd
   rw [if_pos hd]
   exact qgq l ⟨qqz h.ok _, Nat.le_trans (qwm _ _) h.few, fun x hx => h.small x ((qkw _ _).subset hx)⟩ hp' hy
  ·rename_i hd
   rw [if_neg hd]
   split at hy
   ·cases hy
   ·rename_i h4
    rw [if_neg h4]
    refine qgq l ⟨qqy h.ok _ _, by omega, fun x hx => ?_⟩ hp' hy
    rcases xiq hx with hx | ⟨h1, h2⟩
    ·exact h.small x hx
    ·exact ⟨by rw [h1]; exact ho.1, by rw [h1]; exact ho.2.1, by rw [h2]; exact ho.2.2.1⟩
theorem qq0 (f r : List UInt8) (hr : r.length ≤ 2000) : (yr f r).length ≤ f.length + 70000 := by
 have := qqr _ r (Nat.le_refl _)
 unfold yr
 rw [qqs _ _ (fun q hq => (qbm _ r (Nat.le_refl _) q hq).2)]
 simp only; omega
structure Sto.Ok (n : Nat) (s : Sto) : Prop where
 good : s.m.Good
 file : s.file.length ≤ n * 70000
theorem q30 (n : Nat) : newS.Ok n := by
 refine ⟨⟨⟨List.nodup_nil, fun x hx => (by cases hx), List.nodup_nil⟩, ?_, fun x hx => (by cases hx)⟩, ?_⟩
 ·simp only [newS, qds, List.length_nil, Nat.zero_le]
 ·simp only [newS, List.length_nil, Nat.zero_le]
theorem Sto.Ok.mono {n m : Nat} {s : Sto} (h : s.Ok n) (hn : n ≤ m) : s.Ok m := ⟨h.good, Nat.le_trans h.file (Nat.mul_le_mul_right _ hn)⟩
theorem qkx (s : Sto) (l : List OpS) : ((xg s l).2 ≠ 0 ∧ (xg s l).1 = s) ∨ ((xg s l).2 = 0 ∧ (qr l).2 = 0 ∧ (jr s.m l).2 = true ∧ (xg s l).1 = ⟨yr s.file (qr l).1, s.synced, (jr s.m l).1⟩) := by
 unfold xg
 split
 ·exact .inl ⟨by assumption, rfl⟩
 ·split
  ·exact .inl ⟨by simp, rfl⟩
  ·rename_i h1 h2
   exact .inr ⟨rfl, by simpa using h1, by simpa using h2, rfl⟩
theorem qji {n : Nat} {s : Sto} (h : s.Ok n) (l : List OpS) : (xg s l).1.Ok (n + 1) := by
 rcases qkx s l with ⟨_, he⟩ | ⟨_, h1, h2, he⟩
 ·rw [he]; exact h.mono (Nat.le_succ _)
 ·rw [he]
  refine ⟨qgq l h.good (wh h1).2.1 h2, ?_⟩
  have := qq0 s.file _ (qap l)
  have := h.file
  simp only; omega
def vk (k : List UInt8) : Option (List UInt8) → List OpS → Option (List UInt8)
 | a, [] => a
 | a, o :: l => vk k (if o.key = k then (if o.del then none else some o.val) else a) l
theorem qf4 (k : List UInt8) : ∀ (l : List OpS) {m : Cont}, m.Ok → (jr m l).2 = true → mGet k (jr m l).1 = vk k (mGet k m) l
 | [], m, _, _ => rfl
 | o :: l, m, h, hy => by
  rw [jr] at hy ⊢
  rw [vk]
  split at hy
  ·rename_i hd
   rw [if_pos hd, qf4 k l (qqz h _) hy, q55 h]
   congr 1
   by_cases hk : k = o.key
   ·rw [if_pos hk, if_pos hk.symm, if_pos hd]
   ·rw [if_neg hk, if_neg (Ne.symm hk)]
  ·rename_i hd
   rw [if_neg hd]
   split at hy
   ·cases hy
   ·rename_i h4
    rw [if_neg h4, qf4 k l (qqy h _ _) hy, q54]
    congr 1
    by_cases hk : k = o.key
    ·rw [if_pos hk, if_pos hk.symm, if_neg hd]
    ·rw [if_neg hk, if_neg (Ne.symm hk)]
end Go.Proofs.YtkcdbcbpbolgkaaGreatDoor
namespace Go.Proofs.YtkcdbcbpbolgkaaGreatDoor
open Go.Abs
theorem qi5 (w : List UInt8) : qb0 (qd w) = w := by
 induction w with
 | nil => rfl
 | cons c w ih => simp_all [qb0, qd]
theorem xnj (w : List UInt8) : (∃ l, qd w = qd l) = True := eq_true ⟨w, rfl⟩
theorem xqn : (∃ l, ([] : List (List D)) = qd l) = True := eq_true ⟨[], rfl⟩
theorem qwo : qb0 [] = [] := rfl
attribute [go_sem] qi5 xnj xqn qwo
noncomputable section
set_option maxRecDepth 100000
set_option linter.defProp false
def d30 := cut Tryz.prog Tryz.f30 news
@[go_sem] def E30 := ql d30
def d24 := cut Tryz.prog Tryz.f24 news
@[go_sem] def E24 := ql d24
end
theorem xdc (m : Cont) (p : List UInt8) : (qdh m p).length ≤ m.l.length := by
 rw [qdh, (wi _).length_eq]
 simp only [preL, List.length_map]
 exact List.length_filter_le _ _
theorem qaz {α : Type} {f : α → Bool} {l : List α} {i : Nat} (h : (l.take i).all f = true) (hil : i < l.length) (hf : f l[i] = true) : (l.take (i + 1)).all f = true := by
 rw [List.take_succ_eq_append_getElem hil, List.all_append, h]; simp [hf]
theorem qq1 {α : Type} {f : α → Bool} {l : List α} {i : Nat} (hil : i < l.length) (hf : f l[i] = false) : l.all f = false := by
 rw [List.all_eq_false]; exact ⟨l[i], List.getElem_mem hil, by simp [hf]⟩
structure StepS where
 kind : Int
 ops : List OpS
 deriving DecidableEq, Inhabited
def zo (x : StepS) : List D := [.int .i64 x.kind, .sl 3 (x.ops.map qo)]
theorem qky (o : StepS) : D.noPtrL (zo o) = true := by simp only [zo, D.noPtrL, D.noPtr, qca, Bool.and_self]
theorem q31 (l : List StepS) : D.noPtrR (l.map zo) = true := xx qky l
attribute [go_sem] qky q31
noncomputable section
set_option maxRecDepth 100000
set_option linter.defProp false
end
def ops1 : List OpS := [⟨[97], false, [1]⟩, ⟨[98], false, [2]⟩]
def ops2 : List OpS := [⟨[97], true, []⟩]
def st1 : Sto := (xg newS ops1).1
def st2 : Sto := (xg st1 ops2).1
theorem c1 : (xg newS ops1).2 = 0 := by decide +kernel
theorem c2 : (xg st1 ops2).2 = 0 := by decide +kernel
theorem c3 : qdh st2.m [] = [([98], [2])] := by decide +kernel
end Go.Proofs.YtkcdbcbpbolgkaaGreatDoor
namespace Go.Proofs.YtkcdbcbpbolgkaaGreatDoor
open Go.Abs
theorem xnm (s : List UInt8) : (((s.length : Nat) : Int) == 0) = (s == []) := by cases s <;> simp <;> omega
noncomputable section
set_option maxRecDepth 100000
set_option linter.defProp false
def d189 := cut Tryz.prog Tryz.f189 news
@[go_sem] def E189 := ql d189
def F189 := fnC d189 follows Tryz.func189
def d191 := cut Tryz.prog Tryz.f191 news
@[go_sem] def E191 := ql d191
def F191 := fnC d191 follows Tryz.func191
def d185 := cut Tryz.prog Tryz.f185 news
@[go_sem] def E185 := ql d185
def F185 := fnC d185 follows Tryz.func185
def d186 := cut Tryz.prog Tryz.f186 news
@[go_sem] def E186 := ql d186
def F186 := fnC d186 follows Tryz.func186
def d269 := cut Tryz.prog Tryz.f269 news
@[go_sem] def E269 := ql d269
def F269 := fnC d269 follows Tryz.func269
def d183 := cut Tryz.prog Tryz.f183 news
@[go_sem] def E183 := ql d183
def F183 := fnC d183 follows Tryz.func183
def xqq := cut Tryz.prog Tryz.f190 news
@[go_sem] def xud := ql xqq
def q32 := fnC xqq follows Tryz.func190
def d223 := cut Tryz.prog Tryz.f223 news
@[go_sem] def E223 := ql d223
def F223 := fnC d223 follows Tryz.func223
end
theorem qf5 (a b : List UInt8) : qg Tryz.prog 190 [.d (.sl 1 (qd a)), .d (.sl 1 (qd b))] [] (.d (.bool (a == b))) [] := by
 refine q32.go ?_
 try (refine ev ?_; try exact True.intro)
def qnm (s : List UInt8) : Bool := decide ((s.length : Int) ≥ 1) && decide ((s.length : Int) ≤ 30)
theorem qkz (s : List UInt8) : qg Tryz.prog 183 [.d (.str s)] [] (.d (.bool (qnm s))) [] := by
 refine F183.go ?_
 try (refine ev1 @qnm.eq_1 ?_; try exact True.intro)
def nKey (s : List UInt8) : List UInt8 := s ++ [47, 110]
def sKey (s : List UInt8) (d : Nat) : List UInt8 := s ++ [47, UInt8.ofNat (48 + d)]
theorem qwp (s : List UInt8) (h : s.length ≤ 1000) : qg Tryz.prog 185 [.d (.str s)] [] (.d (.str (nKey s))) [] := by
 refine F185.go ?_
 try (refine ev1 @nKey.eq_1 ?_; try exact True.intro)
 omega
theorem qmb (s : List UInt8) (d : Nat) (h : s.length ≤ 1000) (hd : d < 4) : qg Tryz.prog 186 [.d (.str s), .d (.int .i64 d)] [] (.d (.str (sKey s d))) [] := by
 refine F186.go ?_
 have h4 : d = 0 ∨ d = 1 ∨ d = 2 ∨ d = 3 := by omega
 have e0 : (Utf8.encode (IntKind.i32.wrap (IntKind.i64.wrap 48))).data.toList = [48] := by decide
 have e1 : (Utf8.encode (IntKind.i32.wrap (IntKind.i64.wrap 49))).data.toList = [49] := by decide
 have e2 : (Utf8.encode (IntKind.i32.wrap (IntKind.i64.wrap 50))).data.toList = [50] := by decide
 have e3 : (Utf8.encode (IntKind.i32.wrap (IntKind.i64.wrap 51))).data.toList = [51] := by decide
 rcases h4 with rfl | rfl | rfl | rfl
 all_goals
  try (refine ev6 @sKey.eq_1 @e0 @e1 @e2 @e3 @List.append_assoc.{0} ?_; try exact True.intro)
  exact ⟨by omega, by omega, rfl⟩
def qaq (q : Qu) : List UInt8 := if q.acc = 0 ∧ q.cons = 0 then [] else wInt q.acc ++ wInt q.cons
theorem qk0 (q : Qu) (h1 : I64 q.acc) (h2 : I64 q.cons) : qg Tryz.prog 189 [.d (.agg (encQ q))] [] (.d (.sl 1 (qd (qaq q)))) [] := by
 have a1 := xt h1
 refine F189.go ?_
 try (refine ev1 @encQ.eq_1 ?_; try exact True.intro)
 refine xq _ (fun h => ?_) (fun h => ?_)
 ·have hb : qaq q = [] := by unfold qaq; rw [if_pos]; simpa using h
  try (refine ev2 @hb @qu ?_; try exact True.intro)
 ·have hb : qaq q = wInt q.acc ++ wInt q.cons := by unfold qaq; rw [if_neg]; simpa using h
  try (refine ev ?_; try exact True.intro)
  refine clA F147 (kg [] q.acc (by simp) h1) ?_
  try (refine ev ?_; try exact True.intro)
  refine clA F147 (kg ([] ++ wInt q.acc) q.cons (by rw [List.nil_append]; omega) h2) ?_
  try (refine ev1 @hb ?_; try exact True.intro)
theorem q57 {α : Type} {f : α → Bool} {l : List α} {i : Nat} (hi : (l.take i).find? f = none) (hil : i < l.length) (h : f l[i] = true) : l.find? f = some l[i] := by
 have e : l.find? f = (l.take i ++ l.drop i).find? f := by rw [List.take_append_drop]
 rw [e, List.find?_append, hi, List.drop_eq_getElem_cons hil]
 simp only [Option.none_or, List.find?_cons, h]
def qbe (q : Qu) (d : Int) : List UInt8 := match q.items.find? (fun p => p.seq.tmod 4 == d) with
 | some p => (qa9 p).1
 | none => []
def q58 (q : Qu) (d : Int) (i : { i : Nat // (q.items.take i).find? (fun p => p.seq.tmod 4 == d) = none }) : St :=
 ⟨[(1, true, .d (.int .i64 d)), (10, true, .d (.sl 9 (q.items.map qe))), (11, true, .d (.int .i64 q.items.length)), (12, true, .d (.int .i64 (i.val : Nat)))], [], [], 1⟩
structure Qu.W (q : Qu) : Prop where
 a : I64 q.acc
 c : I64 q.cons
 p : ∀ p ∈ q.items, p.W
set_option maxRecDepth 10000 in
theorem qk1 (q : Qu) (d : Int) (hq : q.Sm) (hw : q.W) : qg Tryz.prog 191 [.d (.agg (encQ q)), .d (.int .i64 d)] [] (.d (.sl 1 (qd (qbe q d)))) [] := by
 have hl := hq.1
 refine F191.go ?_
 try (refine ev1 @encQ.eq_1 ?_; try exact True.intro)
 refine qk (q58 q d) (fun i => q.items.length - i.val) ⟨0, rfl⟩ ?_ (fun i => ?_)
 ·try (refine ev2 @q58.eq_1 @Int.ofNat_zero ?_; try exact True.intro)
 obtain ⟨i, hi⟩ := i
 try (refine ev1 @q58.eq_1 ?_; try exact True.intro)
 refine xq _ (fun h => ?_) (fun h => ?_)
 ·have hil : i < q.items.length := by simpa using h
  have hen := q82 q.items[i] (hq.2 _ (List.getElem_mem hil)) (hw.p _ (List.getElem_mem hil))
  simp only [qe] at hen
  try (refine ev2 (qi qe q.items hil) @qe.eq_1 ?_; try exact True.intro)
  (repeat (with_reducible refine ob ?_))
  refine xq _ (fun h => ?_) (fun h => ?_)
  ·have hb : qbe q d = (qa9 q.items[i]).1 := by
    unfold qbe; rw [q57 hi hil h]
   try (refine ev ?_; try exact True.intro)
   (repeat (with_reducible refine ob ?_)); first | refine cl F255 (hen) ?_ | refine clF F255 (hen) (fun _ => by (refine ev3 @qe.eq_1 @encQ.eq_1 @qo.eq_1 ?_; try exact True.intro)) ?_
   try (refine ev1 @hb ?_; try exact True.intro)
  ·try (refine ev ?_; try exact True.intro)
   refine ⟨⟨i + 1, ?_⟩, ?_, by dsimp only; omega⟩
   ·rw [List.take_succ_eq_append_getElem hil, List.find?_append, hi]
    simp only [Option.none_or, List.find?_cons, h, List.find?_nil]
   ·try (refine ev2 @q58.eq_1 (qf (show i < 9223372036854775807 by omega)) ?_; try exact True.intro)
 ·have hil : q.items.length ≤ i := by simpa using h
  have hb : qbe q d = [] := by
   rw [List.take_of_length_le hil] at hi
   unfold qbe; rw [hi]
  try (refine ev2 @hb @qu ?_; try exact True.intro)
def chg (k : List UInt8) (old next : List UInt8) : List OpS := if old = next then [] else [⟨k, next == [], next⟩]
theorem qz4 (l : List OpS) (k old next : List UInt8) (hl : l.length ≤ 1000) : qg Tryz.prog 269 [.own 0 3 (l.map qo), .d (.str k), .d (.sl 1 (qd old)), .d (.sl 1 (qd next))] [] (.own 0 3 ((l ++ chg k old next).map qo)) [] := by
 refine F269.go ?_
 try (refine ev ?_; try exact True.intro)
 (repeat (with_reducible refine ob ?_)); first | refine cl q32 (qf5 old next) ?_ | refine clF q32 (qf5 old next) (fun _ => by (refine ev3 @qe.eq_1 @encQ.eq_1 @qo.eq_1 ?_; try exact True.intro)) ?_
 try (refine ev ?_; try exact True.intro)
 refine xq _ (fun h => ?_) (fun h => ?_)
 ·have hb : chg k old next = [] := by unfold chg; rw [if_pos (by simpa using h)]
  try (refine ev2 @hb @List.append_nil.{0} ?_; try exact True.intro)
 ·have hb : chg k old next = [⟨k, next == [], next⟩] := by unfold chg; rw [if_neg (by simpa using h)]
  try (refine ev6 @hb @List.map_append.{0,0} @List.map_cons.{0,0} @List.map_nil.{0,0} @qo.eq_1 @xnm ?_; try exact True.intro)
  omega
def vu (a b : Qu) (name : List UInt8) : Nat → List OpS
 | 0 => chg (nKey name) (qaq a) (qaq b)
 | d + 1 => vu a b name d ++ chg (sKey name d) (qbe a d) (qbe b d)
def vh (a b : Qu) (name : List UInt8) : List OpS × Int := if (!yc a || !yc b || !qnm name) = true then ([], 1) else (vu a b name 4, 0)
theorem xdf (k a b : List UInt8) : (chg k a b).length ≤ 1 := by unfold chg; split <;> simp
theorem qf6 (a b : Qu) (name : List UInt8) : ∀ d, (vu a b name d).length ≤ d + 1
 | 0 => xdf _ _ _
 | d + 1 => by
  have := qf6 a b name d
  have := xdf (sKey name d) (qbe a d) (qbe b d)
  rw [vu, List.length_append]; omega
def xir (a b : Qu) (name : List UInt8) (d : Nat) : St :=
 ⟨[(2, true, .d (.str name)), (3, true, .d (.ptr 0 0)), (4, true, .d (.ptr 1 0)), (8, true, .own 0 3 ((vu a b name d).map qo)), (30, true, .d (.int .i64 (d : Nat)))], [.row ((encQ a).map .d), .row ((encQ b).map .d)], [0], 1⟩
set_option maxRecDepth 10000 in
theorem q33 (a b : Qu) (name : List UInt8) (ha : a.Sm) (wa : a.W) (hb : b.Sm) (wb : b.W) (hn : name.length ≤ 1000) :
  qg Tryz.prog 223 [.d (.agg (encQ a)), .d (.agg (encQ b)), .d (.str name)] [] (.tup [.d (.sl 3 ((vh a b name).1.map qo)), .d (.int .i64 (vh a b name).2)]) [] := by
 refine F223.goT ?_
 try (refine ev1 @encQ.eq_1 ?_; try exact True.intro)
 (repeat (with_reducible refine ob ?_)); first | refine cl F188 (qcc a ha) ?_ | refine clF F188 (qcc a ha) (fun _ => by (refine ev3 @qe.eq_1 @encQ.eq_1 @qo.eq_1 ?_; try exact True.intro)) ?_
 try (refine ev ?_; try exact True.intro)
 (repeat (with_reducible refine ob ?_)); first | refine cl F188 (qcc b hb) ?_ | refine clF F188 (qcc b hb) (fun _ => by (refine ev3 @qe.eq_1 @encQ.eq_1 @qo.eq_1 ?_; try exact True.intro)) ?_
 try (refine ev ?_; try exact True.intro)
 (repeat (with_reducible refine ob ?_)); first | refine cl F183 (qkz name) ?_ | refine clF F183 (qkz name) (fun _ => by (refine ev3 @qe.eq_1 @encQ.eq_1 @qo.eq_1 ?_; try exact True.intro)) ?_
 try (refine ev ?_; try exact True.intro)
 (repeat (with_reducible refine ob ?_))
 refine xq _ (fun h => ?_) (fun h => ?_)
 ·have hx : vh a b name = ([], 1) := by unfold vh; rw [if_pos h]
  try (refine ev2 @hx @List.map_nil.{0,0} ?_; try exact True.intro)
 have hx : vh a b name = (vu a b name 4, 0) := by unfold vh; rw [if_neg]; simp [h]
 try (refine ev ?_; try exact True.intro)
 (repeat (with_reducible refine ob ?_)); first | refine cl F185 (qwp name hn) ?_ | refine clF F185 (qwp name hn) (fun _ => by (refine ev3 @qe.eq_1 @encQ.eq_1 @qo.eq_1 ?_; try exact True.intro)) ?_
 try (refine ev ?_; try exact True.intro)
 (repeat (with_reducible refine ob ?_)); first | refine cl F189 (qk0 a wa.a wa.c) ?_ | refine clF F189 (qk0 a wa.a wa.c) (fun _ => by (refine ev3 @qe.eq_1 @encQ.eq_1 @qo.eq_1 ?_; try exact True.intro)) ?_
 try (refine ev ?_; try exact True.intro)
 (repeat (with_reducible refine ob ?_)); first | refine cl F189 (qk0 b wb.a wb.c) ?_ | refine clF F189 (qk0 b wb.a wb.c) (fun _ => by (refine ev3 @qe.eq_1 @encQ.eq_1 @qo.eq_1 ?_; try exact True.intro)) ?_
 try (refine ev ?_; try exact True.intro)
 refine clA F269 (qz4 [] (nKey name) (qaq a) (qaq b) (by simp)) ?_
 try (refine ev ?_; try exact True.intro)
 refine qk (fun d : { d : Nat // d ≤ 4 } => xir a b name d.val) (fun d => 4 - d.val) ⟨0, Nat.zero_le _⟩ ?_ (fun d => ?_)
 ·try simp only [xir, Int.ofNat_zero, vu, encQ, go_sem, Nat.reduceAdd, Nat.reduceMul, Nat.reduceSub, Nat.reduceEqDiff, Nat.reduceLT, Nat.reduceLeDiff, Nat.reduceBEq, reduceIte, reduceCtorEq, Int.reduceAdd, Int.reduceLT, Int.reduceLE, Int.reduceGT, Int.reduceGE, Int.reduceEq, Int.reduceNe, Int.reduceBEq, Int.reduceBNe, Int.reduceToNat, Int.reduceNeg]
 obtain ⟨d, hd⟩ := d
 try (refine ev2 @xir.eq_1 @encQ.eq_1 ?_; try exact True.intro)
 refine xq _ (fun h => ?_) (fun h => ?_)
 ·have hl : d < 4 := by simp at h; omega
  have := qf6 a b name d
  try (refine ev ?_; try exact True.intro)
  (repeat (with_reducible refine ob ?_)); first | refine cl F186 (qmb name d hn hl) ?_ | refine clF F186 (qmb name d hn hl) (fun _ => by (refine ev3 @qe.eq_1 @encQ.eq_1 @qo.eq_1 ?_; try exact True.intro)) ?_
  try (refine ev ?_; try exact True.intro)
  (repeat (with_reducible refine ob ?_)); first | refine cl F191 (qk1 a d ha wa) ?_ | refine clF F191 (qk1 a d ha wa) (fun _ => by (refine ev3 @qe.eq_1 @encQ.eq_1 @qo.eq_1 ?_; try exact True.intro)) ?_
  try (refine ev ?_; try exact True.intro)
  (repeat (with_reducible refine ob ?_)); first | refine cl F191 (qk1 b d hb wb) ?_ | refine clF F191 (qk1 b d hb wb) (fun _ => by (refine ev3 @qe.eq_1 @encQ.eq_1 @qo.eq_1 ?_; try exact True.intro)) ?_
  try (refine ev ?_; try exact True.intro)
  refine clA F269 (qz4 (vu a b name d) (sKey name d) (qbe a d) (qbe b d) (by omega)) ?_
  try (refine ev ?_; try exact True.intro)
  refine ⟨⟨d + 1, hl⟩, ?_, by dsimp only; omega⟩
  try simp only [xir, encQ, vu, qf (show d < 9223372036854775807 by omega), go_sem, Nat.reduceAdd, Nat.reduceMul, Nat.reduceSub, Nat.reduceEqDiff, Nat.reduceLT, Nat.reduceLeDiff, Nat.reduceBEq, reduceIte, reduceCtorEq, Int.reduceAdd, Int.reduceLT, Int.reduceLE, Int.reduceGT, Int.reduceGE, Int.reduceEq, Int.reduceNe, Int.reduceBEq, Int.reduceBNe, Int.reduceToNat, Int.reduceNeg]
 ·have hl : d = 4 := by simp at h; omega
  subst hl
  try (refine ev1 @hx ?_; try exact True.intro)
end Go.Proofs.YtkcdbcbpbolgkaaGreatDoor
namespace Go.Proofs.YtkcdbcbpbolgkaaGreatDoor
open Go.Abs
theorem qk2 {α : Type} {f : α → Bool} {l : List α} {i : Nat} (h : (l.take i).all f = true) (hi : l.length ≤ i) : l.all f = true := by
 rwa [List.take_of_length_le hi] at h
noncomputable section
set_option maxRecDepth 100000
set_option linter.defProp false
def d201 := cut Tryz.prog Tryz.f201 news
@[go_sem] def E201 := ql d201
def d202 := cut Tryz.prog Tryz.f202 news
@[go_sem] def E202 := ql d202
def d264 := cut Tryz.prog Tryz.f264 news
@[go_sem] def E264 := ql d264
def d203 := cut Tryz.prog Tryz.f203 news
@[go_sem] def E203 := ql d203
def d114 := cut Tryz.prog Tryz.f114 news
@[go_sem] def E114 := ql d114
end
def qoa (p : Pk) : AObj := .row [.d (.int .i64 p.kind), .d (.int .i64 p.sess), .d (.int .i64 p.epoch), .d (.int .i64 p.from_), .d (.int .i64 p.to), .d (.int .i64 p.seq), .d (.int .i64 p.label), .d (.sl 3 (p.values.map xr)), .d (.sl 1 (p.clock.map encI))]
end Go.Proofs.YtkcdbcbpbolgkaaGreatDoor
namespace Go.Proofs.YtkcdbcbpbolgkaaGreatDoor
open Go.Abs
noncomputable section
set_option maxRecDepth 100000
set_option linter.defProp false
def d209 := cut Tryz.prog Tryz.f209 news
@[go_sem] def E209 := ql d209
def d210 := cut Tryz.prog Tryz.f210 news
@[go_sem] def E210 := ql d210
def d124 := cut Tryz.prog Tryz.f124 news
@[go_sem] def E124 := ql d124
def d111 := cut Tryz.prog Tryz.f111 news
@[go_sem] def E111 := ql d111
def d36 := cut Tryz.prog Tryz.f36 news
@[go_sem] def E36 := ql d36
def F36 := fnC d36 follows Tryz.func36
end
def qht (v : AV) : Bool := !decide ((v.s.length : Int) > 100)
def qoc (p : Pk) : Bool := p.values.all qht && (decide ((p.values.length : Int) ≤ 10) && decide ((p.clock.length : Int) ≤ 10))
def q6e (p : Pk) (i : { i : Nat // (p.values.take i).all qht = true }) : St := ⟨[(1, true, .d (.ptr 0 0)), (3, true, .d (.int .i64 (i.val : Nat)))], [qoa p], [], 1⟩
theorem xis (p : Pk) (hp : p.values.length ≤ maxLen) : qg Tryz.prog 36 [.d (.agg (qe p))] [] (.d (.bool (qoc p))) [] := by
 unfold maxLen at hp
 first | refine F36.go ?_ | refine F36.goT ?_
 (refine ev1 @qe.eq_1 ?_; try exact True.intro)
 refine qk (q6e p) (fun i => p.values.length - i.val) ⟨0, rfl⟩ ?_ (fun i => ?_)
 ·try (refine ev2 @q6e.eq_1 @qoa.eq_1 ?_; try exact True.intro)
 obtain ⟨i, hi⟩ := i
 try (refine ev2 @q6e.eq_1 @qoa.eq_1 ?_; try exact True.intro)
 refine qs _ rfl rfl (fun h => ?_) (fun h => ?_)
 ·have hil : i < p.values.length := by simpa using h
  (refine ev2 (qi xr p.values hil) @xr.eq_1 ?_; try exact True.intro)
  (repeat (with_reducible refine ob ?_))
  refine qs _ rfl rfl (fun h2 => ?_) (fun h2 => ?_)
  ·have hg : qht p.values[i] = false := by simp only [qht, h2]; rfl
   (refine ev2 @qoc.eq_1 (qq1 hil hg) ?_; try exact True.intro)
  ·have hg : qht p.values[i] = true := by simp only [qht, h2]; rfl
   try (refine ev ?_; try exact True.intro)
   refine ⟨⟨i + 1, qaz hi hil hg⟩, ?_, by dsimp only; omega⟩
   (refine ev3 @q6e.eq_1 @qoa.eq_1 (qf (show i < 9223372036854775807 by omega)) ?_; try exact True.intro)
 ·have hall : p.values.all qht = true := qk2 hi (by simpa using h)
  (refine ev2 @qoc.eq_1 @hall ?_; try exact True.intro)
end Go.Proofs.YtkcdbcbpbolgkaaGreatDoor
namespace Go.Proofs.YtkcdbcbpbolgkaaGreatDoor
open Go.Abs
structure Ue where
 sess : Int
 phase : Int
 moved : List Bool
 opened : List Bool
 deriving DecidableEq, Inhabited
def encB (b : Bool) : List D := [.bool b]
theorem qt2 (b : Bool) : D.noPtrL (encB b) = true := rfl
theorem qcy (l : List Bool) : D.noPtrR (l.map encB) = true := xx qt2 l
def qq (x : Ue) : List D := [.int .i64 x.sess, .int .i64 x.phase, .sl 1 (x.moved.map encB), .sl 1 (x.opened.map encB)]
theorem qjj (x : Ue) : D.noPtrL (qq x) = true := by simp only [qq, D.noPtrL, D.noPtr, qcy, Bool.and_self]
theorem qf7 (l : List Ue) : D.noPtrR (l.map qq) = true := xx qjj l
structure Mg where
 roles : Int
 ents : List Ue
 deriving DecidableEq, Inhabited
def qx (m : Mg) : List D := [.int .i64 m.roles, .sl 4 (m.ents.map qq)]
theorem q35 (m : Mg) : D.noPtrL (qx m) = true := by simp only [qx, D.noPtrL, D.noPtr, qf7, Bool.and_self]
attribute [go_sem] qt2 qcy qjj qf7 q35
def Ue.Sm (x : Ue) : Prop := x.moved.length ≤ 1000 ∧ x.opened.length ≤ 1000
def Mg.Sm (m : Mg) : Prop := m.ents.length ≤ 1000 ∧ ∀ x ∈ m.ents, x.Sm
noncomputable section
set_option maxRecDepth 100000
set_option linter.defProp false
def d266 := cut Tryz.prog Tryz.f266 news
@[go_sem] def E266 := ql d266
def F266 := fnC d266 follows Tryz.func266
def d211 := cut Tryz.prog Tryz.f211 news
@[go_sem] def E211 := ql d211
def F211 := fnC d211 follows Tryz.func211
def d134 := cut Tryz.prog Tryz.f134 news
@[go_sem] def E134 := ql d134
def F134 := fnC d134 follows Tryz.func134
def d69 := cut Tryz.prog Tryz.f69 news
@[go_sem] def E69 := ql d69
def F69 := fnC d69 follows Tryz.func69
end
def hasB (v : Bool) (l : List Bool) : Bool := l.any fun b => v == b
def q6f (l : List Bool) (v : Bool) (i : { i : Nat // (l.take i).any (fun b => v == b) = false }) : St :=
 ⟨[(0, true, .d (.sl 1 (l.map encB))), (1, true, .d (.bool v)), (7, true, .d (.int .i64 l.length)), (8, true, .d (.int .i64 (i.val : Nat)))], [], [], 1⟩
theorem qt3 (l : List Bool) (v : Bool) (hl : l.length ≤ 1000) : qg Tryz.prog 266 [.d (.sl 1 (l.map encB)), .d (.bool v)] [] (.d (.int .i64 (idx (fun b => v == b) l))) [] := by
 refine F266.go ?_
 try (refine ev ?_; try exact True.intro)
 refine qk (q6f l v) (fun i => l.length - i.val) ⟨0, rfl⟩ ?_ (fun i => ?_)
 ·try (refine ev1 @q6f.eq_1 ?_; try exact True.intro)
 obtain ⟨i, hi⟩ := i
 try (refine ev1 @q6f.eq_1 ?_; try exact True.intro)
 (repeat (with_reducible refine ob ?_)); refine xq _ (fun h => ?_) (fun h => ?_)
 ·have hil : i < l.length := by simpa using h
  (refine ev2 (qi encB l hil) @encB.eq_1 ?_; try exact True.intro)
  (repeat (with_reducible refine ob ?_))
  refine xq _ (fun h2 => ?_) (fun h2 => ?_)
  ·try (refine ev1 (qfa (f := fun b => v == b) hi hil h2) ?_; try exact True.intro)
  ·try (refine ev ?_; try exact True.intro)
   refine ⟨⟨i + 1, vq hi hil h2⟩, ?_, by dsimp only; omega⟩
   try (refine ev2 @q6f.eq_1 (qf (show i < 9223372036854775807 by omega)) ?_; try exact True.intro)
 ·have hil : l.length ≤ i := by simpa using h
  try (refine ev1 (qe9 hi hil) ?_; try exact True.intro)
theorem qa0 (l : List Bool) (v : Bool) (hl : l.length ≤ 1000) : qg Tryz.prog 211 [.d (.sl 1 (l.map encB)), .d (.bool v)] [] (.d (.bool (hasB v l))) [] := by
 refine F211.go ?_
 try (refine ev ?_; try exact True.intro)
 (repeat (with_reducible refine ob ?_)); first | refine cl F266 (qt3 l v hl) ?_ | refine clF F266 (qt3 l v hl) (fun _ => by (refine ev2 @qq.eq_1 @qx.eq_1 ?_; try exact True.intro)) ?_
 try (refine ev2 @qtu @hasB.eq_1 ?_; try exact True.intro)
def zp (x : Ue) : Int :=
 if !hasB false x.moved && !hasB false x.opened then 3 else if !hasB false x.moved then 2 else if hasB true x.opened then 0 else 1
theorem qbu (x : Ue) (hx : x.Sm) : qg Tryz.prog 134 [.d (.agg (qq x))] [] (.d (.int .i64 (zp x))) [] := by
 refine F134.go ?_
 try (refine ev1 @qq.eq_1 ?_; try exact True.intro)
 (repeat (with_reducible refine ob ?_)); first | refine cl F211 (qa0 x.moved false hx.1) ?_ | refine clF F211 (qa0 x.moved false hx.1) (fun _ => by (refine ev2 @qq.eq_1 @qx.eq_1 ?_; try exact True.intro)) ?_
 try (refine ev ?_; try exact True.intro)
 (repeat (with_reducible refine ob ?_)); first | refine cl F211 (qa0 x.opened false hx.2) ?_ | refine clF F211 (qa0 x.opened false hx.2) (fun _ => by (refine ev2 @qq.eq_1 @qx.eq_1 ?_; try exact True.intro)) ?_
 try (refine ev ?_; try exact True.intro)
 refine xq _ (fun h1 => ?_) (fun h1 => ?_)
 ·have e : zp x = 3 := by simp_all [zp]
  try (refine ev1 @e ?_; try exact True.intro)
 try (refine ev ?_; try exact True.intro)
 refine xq _ (fun h2 => ?_) (fun h2 => ?_)
 ·have e : zp x = 2 := by simp_all [zp]
  try (refine ev1 @e ?_; try exact True.intro)
 try (refine ev ?_; try exact True.intro)
 (repeat (with_reducible refine ob ?_)); first | refine cl F211 (qa0 x.opened true hx.2) ?_ | refine clF F211 (qa0 x.opened true hx.2) (fun _ => by (refine ev2 @qq.eq_1 @qx.eq_1 ?_; try exact True.intro)) ?_
 try (refine ev ?_; try exact True.intro)
 refine xq _ (fun h3 => ?_) (fun h3 => ?_)
 ·have e : zp x = 0 := by simp_all [zp]
  try (refine ev1 @e ?_; try exact True.intro)
 ·have e : zp x = 1 := by simp_all [zp]
  try (refine ev1 @e ?_; try exact True.intro)
theorem w01 : (IntKind.i64.wrap (0 - 1)).toNat = 0 := by decide
def qet (m : Mg) (i : Nat) : Bool :=
 decide ((m.ents.getD i default).sess < 1) || decide ((m.ents.getD i default).sess > 32) || (decide ((i : Int) > 0) && decide ((m.ents.getD i default).sess ≤ (m.ents.getD (i - 1) default).sess)) ||
 ((m.ents.getD i default).moved.length : Int) != m.roles || ((m.ents.getD i default).opened.length : Int) != m.roles || (m.ents.getD i default).phase == 0 || (m.ents.getD i default).phase != zp (m.ents.getD i default)
def zh (m : Mg) : Bool := qcb (fun i => !qet m i) m.ents.length && (decide (m.roles ≥ 1) && decide (m.roles ≤ 6))
theorem en0 (m : Mg) (h : 0 < m.ents.length) : (decide (m.ents[0].sess < 1) || decide (m.ents[0].sess > 32) || (m.ents[0].moved.length : Int) != m.roles || (m.ents[0].opened.length : Int) != m.roles || m.ents[0].phase == 0 || m.ents[0].phase != zp m.ents[0]) = qet m 0 := by
 simp only [qet, zc h, Int.ofNat_zero, decide_false, Bool.false_and, Bool.or_false, Int.natCast_zero, show ¬ ((0 : Int) > 0) by omega]
theorem enk (m : Mg) (k : Nat) (h : k + 1 < m.ents.length) (h' : k < m.ents.length) : (decide (m.ents[k+1].sess < 1) || decide (m.ents[k+1].sess > 32) || (decide ((k : Int) + 1 > 0) && decide (m.ents[k+1].sess ≤ m.ents[k].sess)) || (m.ents[k+1].moved.length : Int) != m.roles || (m.ents[k+1].opened.length : Int) != m.roles || m.ents[k+1].phase == 0 || m.ents[k+1].phase != zp m.ents[k+1]) = qet m (k + 1) := by
 simp only [qet, zc h, Nat.add_sub_cancel, zc h', Int.natCast_add, Int.cast_ofNat_Int]
def zw (m : Mg) : AObj := .row [.d (.int .i64 m.roles), .d (.sl 4 (m.ents.map qq))]
def qk4 (m : Mg) (i : { i : Nat // qcb (fun i => !qet m i) i = true }) : St :=
 ⟨[(1, true, .d (.ptr 0 0)), (6, true, .d (.sl 4 (m.ents.map qq))), (7, true, .d (.int .i64 m.ents.length)), (8, true, .d (.int .i64 (i.val : Nat)))], [zw m], [], 1⟩
set_option maxRecDepth 10000 in
theorem y6 (m : Mg) (hm : m.Sm) : qg Tryz.prog 69 [.d (.agg (qx m))] [] (.d (.bool (zh m))) [] := by
 have hl := hm.1
 refine F69.go ?_
 try (refine ev1 @qx.eq_1 ?_; try exact True.intro)
 refine qk (qk4 m) (fun i => m.ents.length - i.val) ⟨0, rfl⟩ ?_ (fun i => ?_)
 ·try (refine ev2 @qk4.eq_1 @zw.eq_1 ?_; try exact True.intro)
 obtain ⟨i, hi⟩ := i
 try (refine ev2 @qk4.eq_1 @zw.eq_1 ?_; try exact True.intro)
 (repeat (with_reducible refine ob ?_)); refine xq _ (fun h => ?_) (fun h => ?_)
 ·have hil : i < m.ents.length := by simpa using h
  have hx := hm.2 _ (List.getElem_mem hil)
  rcases Nat.eq_zero_or_pos i with h0 | h0
  ·subst h0
   (refine ev4 (qi qq m.ents hil) @qq.eq_1 @Int.toNat_zero @w01 ?_; try exact True.intro)
   (repeat (with_reducible refine ob ?_))
   (repeat (with_reducible refine ob ?_)); first | refine cl F134 (qbu m.ents[0] hx) ?_ | refine clF F134 (qbu m.ents[0] hx) (fun _ => by (refine ev2 @qq.eq_1 @qx.eq_1 ?_; try exact True.intro)) ?_
   try (refine ev ?_; try exact True.intro)
   refine ⟨fun h => by rw [h]; rfl, ?_⟩
   refine qs (qet m 0) rfl ?_ (fun h2 => ?_) (fun h2 => ?_)
   ·try (refine ev1 (en0 m hil) ?_; try exact True.intro)
   ·have hg : (!qet m 0) = false := by simp [h2]
    try (refine ev2 @zh.eq_1 (qfb (g := fun i => !qet m i) hil hg) ?_; try exact True.intro)
   ·try (refine ev ?_; try exact True.intro)
    refine ⟨⟨1, y5 hi (by simp [h2])⟩, ?_, by dsimp only; omega⟩
    try (refine ev3 @qk4.eq_1 @zw.eq_1 (show IntKind.i64.wrap 1 = 1 by decide) ?_; try exact True.intro)
  ·obtain ⟨k, rfl⟩ : ∃ k, i = k + 1 := ⟨i - 1, by omega⟩
   have hk : k < m.ents.length := by omega
   have hw : IntKind.i64.wrap (((k : Nat) : Int) + 1 - 1) = ((k : Nat) : Int) := by rw [wrap_i64 (by omega) (by omega)]; omega
   have hw2 : IntKind.i64.wrap (((k : Nat) : Int) + 1 + 1) = ((k : Nat) : Int) + 1 + 1 := by rw [wrap_i64 (by omega) (by omega)]
   (refine ev4 (qi qq m.ents hil) (qi qq m.ents hk) @hw @qq.eq_1 ?_; try exact True.intro)
   (repeat (with_reducible refine ob ?_))
   (repeat (with_reducible refine ob ?_)); first | refine cl F134 (qbu m.ents[k+1] hx) ?_ | refine clF F134 (qbu m.ents[k+1] hx) (fun _ => by (refine ev2 @qq.eq_1 @qx.eq_1 ?_; try exact True.intro)) ?_
   try (refine ev ?_; try exact True.intro)
   refine ⟨fun h => by rw [h]; rfl, ?_⟩
   refine qs (qet m (k + 1)) rfl ?_ (fun h2 => ?_) (fun h2 => ?_)
   ·try (refine ev1 (enk m k hil hk) ?_; try exact True.intro)
   ·have hg : (!qet m (k + 1)) = false := by simp [h2]
    try (refine ev2 @zh.eq_1 (qfb (g := fun i => !qet m i) hil hg) ?_; try exact True.intro)
   ·try (refine ev ?_; try exact True.intro)
    refine ⟨⟨k + 1 + 1, y5 hi (by simp [h2])⟩, ?_, by dsimp only; omega⟩
    try (refine ev3 @qk4.eq_1 @zw.eq_1 @hw2 ?_; try exact True.intro)
 ·have hil : m.ents.length ≤ i := by simpa using h
  have ha : qcb (fun i => !qet m i) m.ents.length = true := zd.2 fun j hj => zd.1 hi j (by omega)
  try (refine ev ?_; try exact True.intro)
  (repeat (with_reducible refine ob ?_))
  (refine ev2 @zh.eq_1 @ha ?_; try exact True.intro)
end Go.Proofs.YtkcdbcbpbolgkaaGreatDoor
namespace Go.Proofs.YtkcdbcbpbolgkaaGreatDoor
open Go.Abs
noncomputable section
set_option maxRecDepth 100000
set_option linter.defProp false
def d144 := cut Tryz.prog Tryz.f144 news
@[go_sem] def E144 := ql d144
def F144 := fnC d144 follows Tryz.func144
def d143 := cut Tryz.prog Tryz.f143 news
@[go_sem] def E143 := ql d143
def F143 := fnC d143 follows Tryz.func143
def d77 := cut Tryz.prog Tryz.f77 news
@[go_sem] def E77 := ql d77
def F77 := fnC d77 follows Tryz.func77
def d145 := cut Tryz.prog Tryz.f145 news
@[go_sem] def E145 := ql d145
def F145 := fnC d145 follows Tryz.func145
def d78 := cut Tryz.prog Tryz.f78 news
@[go_sem] def E78 := ql d78
def F78 := fnC d78 follows Tryz.func78
def d101 := cut Tryz.prog Tryz.f101 news
@[go_sem] def E101 := ql d101
def d40 := cut Tryz.prog Tryz.f40 news
@[go_sem] def E40 := ql d40
def d43 := cut Tryz.prog Tryz.f43 news
@[go_sem] def E43 := ql d43
def F43 := fnC d43 follows Tryz.func43
end
def sObj (s : Int) : AObj := .row [.d (.int .i64 s)]
attribute [go_sem] sObj
theorem xiu (x : Ue) (s : Int) : qg Tryz.prog 144 [.d (.agg (qq x)), .d (.ptr 0 0)] [sObj s] (.d (.bool (decide (x.sess ≥ s)))) [sObj s] := by
 refine F144.go ?_
 try (refine ev2 @qq.eq_1 @sObj.eq_1 ?_; try exact True.intro)
def xiv (l : List Ue) (k : FuncId) (s : Int) (f : Ue → Bool) (i : { i : Nat // (l.take i).any f = false }) : St :=
 ⟨[(0, true, .d (.sl 4 (l.map qq))), (1, true, .d (.func (.func k) [] [.ptr 0 0])), (6, true, .d (.sl 4 (l.map qq))), (7, true, .d (.int .i64 l.length)), (8, true, .d (.int .i64 (i.val : Nat)))],
  [sObj s], [], 1⟩
theorem q9b (l : List Ue) (s : Int) (hl : l.length ≤ 1000) : qg Tryz.prog 143 [.d (.sl 4 (l.map qq)), .d (.func (.func 144) [] [.ptr 0 0])] [sObj s]
  (.d (.int .i64 (idx (fun x => decide (x.sess ≥ s)) l))) [sObj s] := by
 refine F143.go ?_
 try (refine ev ?_; try exact True.intro)
 refine qk (xiv l 144 s (fun x => decide (x.sess ≥ s))) (fun i => l.length - i.val) ⟨0, rfl⟩ ?_ (fun i => ?_)
 ·try (refine ev2 @xiv.eq_1 @sObj.eq_1 ?_; try exact True.intro)
 obtain ⟨i, hi⟩ := i
 try (refine ev1 @xiv.eq_1 ?_; try exact True.intro)
 (repeat (with_reducible refine ob ?_)); refine xq _ (fun h => ?_) (fun h => ?_)
 ·have hil : i < l.length := by simpa using h
  (refine ev2 (qi qq l hil) @qq.eq_1 ?_; try exact True.intro)
  (repeat (with_reducible refine ob ?_)); refine clO [0] F144 (xiu l[i] s) ?_ (hfit := by first | exact ⟨qc, trivial⟩ | exact ⟨qc, qc, trivial⟩ | (refine ev2 @qq.eq_1 @qx.eq_1 ?_; try exact True.intro))
  try (refine ev1 @sObj.eq_1 ?_; try exact True.intro)
  refine xq _ (fun h2 => ?_) (fun h2 => ?_)
  ·try (refine ev1 (qfa (f := fun x => decide (x.sess ≥ s)) hi hil h2) ?_; try exact True.intro)
  ·try (refine ev ?_; try exact True.intro)
   refine ⟨⟨i + 1, vq hi hil h2⟩, ?_, by dsimp only; omega⟩
   try (refine ev3 @xiv.eq_1 @sObj.eq_1 (qf (show i < 9223372036854775807 by omega)) ?_; try exact True.intro)
 ·try (refine ev2 (qe9 hi (by simpa using h)) @sObj.eq_1 ?_; try exact True.intro)
def xi (m : Mg) (s : Int) : Nat × Bool :=
 if m.ents.any (fun x => decide (x.sess ≥ s)) then (m.ents.findIdx (fun x => decide (x.sess ≥ s)), (m.ents.getD (m.ents.findIdx (fun x => decide (x.sess ≥ s))) default).sess == s) else (m.ents.length, false)
theorem xnn {α : Type} (f : α → Bool) (l : List α) : decide (idx f l < 0) = !l.any f := by
 unfold idx
 cases l.any f <;> simp
theorem qq4 {α : Type} {f : α → Bool} {l : List α} (h : l.any f = true) : idx f l = (l.findIdx f : Int) ∧ l.findIdx f < l.length := by
 refine ⟨by simp [idx, h], ?_⟩
 rw [List.findIdx_lt_length]
 simpa using h
theorem qf8 (m : Mg) (s : Int) (hm : m.Sm) : qg Tryz.prog 77 [.d (.agg (qx m)), .d (.int .i64 s)] [] (.tup [.d (.int .i64 ((xi m s).1 : Nat)), .d (.bool (xi m s).2)]) [] := by
 refine F77.goT ?_
 try (refine ev1 @qx.eq_1 ?_; try exact True.intro)
 (repeat (with_reducible refine ob ?_)); refine clO [1] F143 (q9b m.ents s hm.1) ?_ (hfit := by first | exact ⟨qc, trivial⟩ | exact ⟨qc, qc, trivial⟩ | (refine ev2 @qq.eq_1 @qx.eq_1 ?_; try exact True.intro))
 try (refine ev2 @xnn @sObj.eq_1 ?_; try exact True.intro)
 (repeat (with_reducible refine ob ?_)); refine xq _ (fun h => ?_) (fun h => ?_)
 ·have hf : m.ents.any (fun x => decide (x.sess ≥ s)) = false := by simpa using h
  have hu : xi m s = (m.ents.length, false) := by simp [xi, hf]
  try (refine ev1 @hu ?_; try exact True.intro)
 ·have hf : m.ents.any (fun x => decide (x.sess ≥ s)) = true := by simpa using h
  obtain ⟨h1, h2⟩ := qq4 hf
  have hu : xi m s = (m.ents.findIdx (fun x => decide (x.sess ≥ s)), (m.ents.getD (m.ents.findIdx (fun x => decide (x.sess ≥ s))) default).sess == s) := by simp [xi, hf]
  rw [hu, zc h2]
  rw [h1]
  generalize m.ents.findIdx (fun x => decide (x.sess ≥ s)) = k at h2 ⊢
  try (refine ev2 (qi qq m.ents h2) @qq.eq_1 ?_; try exact True.intro)
  (repeat (with_reducible refine ob ?_))
  try (refine ev2 (qi qq m.ents h2) @qq.eq_1 ?_; try exact True.intro)
  first | omega | exact ⟨by omega, by omega⟩ | skip
theorem q6g (l m : List Bool) (hl : l.length ≤ 1000) :
  qg Tryz.prog 145 [.d (.sl 1 (l.map encB)), .d (.sl 1 (m.map encB))] [] (.d (.bool (decide (l = m)))) [] := by
 refine F145.go ?_
 try (refine ev ?_; try exact True.intro)
 refine xq _ (fun h => ?_) (fun h => ?_)
 ·have hne : decide (l = m) = false := by rw [decide_eq_false_iff_not]; rintro rfl; simp at h
  try (refine ev1 @hne ?_; try exact True.intro)
 ·have hlm : l.length = m.length := by simp at h; omega
  try (refine ev ?_; try exact True.intro)
  refine qk (Seq 1 encB l m) (fun i => l.length - i.val) ⟨0, rfl⟩ ?_ (fun i => ?_)
  ·try (refine ev1 @Seq.eq_1 ?_; try exact True.intro)
  ·obtain ⟨i, hi⟩ := i
   try (refine ev1 @Seq.eq_1 ?_; try exact True.intro)
   refine xq _ (fun h => ?_) (fun h => ?_)
   ·have hil : i < l.length := by simpa using h
    have him : i < m.length := by omega
    try (refine ev3 (qi encB l hil) (qi encB m him) @encB.eq_1 ?_; try exact True.intro)
    refine ⟨by omega, by omega, ?_⟩
    refine xq _ (fun h2 => ?_) (fun h2 => ?_)
    ·have hne : l[i] ≠ m[i] := by simpa using h2
     try (refine ev1 (qwe hil him hne) ?_; try exact True.intro)
    ·have he : l[i] = m[i] := by simpa using h2
     try (refine ev ?_; try exact True.intro)
     refine ⟨⟨i + 1, yk hi hil him he⟩, ?_, by dsimp only; omega⟩
     try (refine ev2 @Seq.eq_1 (qf (show i < 9223372036854775807 by omega)) ?_; try exact True.intro)
   ·have he : decide (l = m) = true := by
     have : l.length ≤ i := by simpa using h
     rw [List.take_of_length_le this, List.take_of_length_le (by omega)] at hi
     simp [hi]
    try (refine ev1 @he ?_; try exact True.intro)
theorem xlk (x y : Ue) : (x.sess == y.sess && x.phase == y.phase && decide (x.moved = y.moved) && decide (x.opened = y.opened)) = decide (x = y) := by
 obtain ⟨a1, a2, a3, a4⟩ := x
 obtain ⟨b1, b2, b3, b4⟩ := y
 rw [Bool.eq_iff_iff]
 simp [and_assoc]
theorem qmc (x y : Ue) (hx : x.Sm) : qg Tryz.prog 78 [.d (.agg (qq x)), .d (.agg (qq y))] [] (.d (.bool (decide (x = y)))) [] := by
 refine F78.go ?_
 try (refine ev1 @qq.eq_1 ?_; try exact True.intro)
 (repeat (with_reducible refine ob ?_)); first | refine cl F145 (q6g x.moved y.moved hx.1) ?_ | refine clF F145 (q6g x.moved y.moved hx.1) (fun _ => by (refine ev2 @qq.eq_1 @qx.eq_1 ?_; try exact True.intro)) ?_
 try (refine ev ?_; try exact True.intro)
 (repeat (with_reducible refine ob ?_))
 (repeat (with_reducible refine ob ?_)); first | refine cl F145 (q6g x.opened y.opened hx.2) ?_ | refine clF F145 (q6g x.opened y.opened hx.2) (fun _ => by (refine ev2 @qq.eq_1 @qx.eq_1 ?_; try exact True.intro)) ?_
 try (refine ev1 @xlk ?_; try exact True.intro)
def qq5 (n : Int) : Mg × Int := if decide (n < 1) || decide (n > 6) then (⟨0, []⟩, 2) else (⟨n, []⟩, 0)
theorem q6i (n : Int) : qg Tryz.prog 43 [.d (.int .i64 n)] [] (.tup [.d (.agg (qx (qq5 n).1)), .d (.int .i64 (qq5 n).2)]) [] := by
 refine F43.goT ?_
 try (refine ev ?_; try exact True.intro)
 (repeat (with_reducible refine ob ?_)); refine xq _ (fun h => ?_) (fun h => ?_)
 ·try (refine ev4 @qq5.eq_1 @h @qx.eq_1 @List.map_nil.{0,0} ?_; try exact True.intro)
 ·try (refine ev4 @qq5.eq_1 @h @qx.eq_1 @List.map_nil.{0,0} ?_; try exact True.intro)
end Go.Proofs.YtkcdbcbpbolgkaaGreatDoor
namespace Go.Proofs.YtkcdbcbpbolgkaaGreatDoor
open Go.Abs
noncomputable section
set_option maxRecDepth 100000
set_option linter.defProp false
def xqs := cut Tryz.prog Tryz.f224 news [7]
@[go_sem] def xuf := ql xqs
def xno := fnC xqs follows Tryz.func224
def xqt := cut Tryz.prog Tryz.f225 news [7]
@[go_sem] def xug := ql xqt
def xnp := fnC xqt follows Tryz.func225
def d225 := cut Tryz.prog Tryz.f225 news
@[go_sem] def E225 := ql d225
def F225 := fnC d225 follows Tryz.func225
end
theorem qz6 (l : List Ue) (hl : l.length ≤ 1000) : qg Tryz.prog 224 [.d (.sl 4 (l.map qq))] [] (.uni 0 4 (l.map qq)) [] := by
 refine xno.go ?_
 try (refine ev ?_; try exact True.intro)
 refine ql4 rfl rfl (fun b hb => ?_)
 try (refine ev ?_; try exact True.intro)
 (repeat (with_reducible refine ob ?_)); refine xq _ (fun h => ?_) (fun h => ?_)
 ·try (refine ev1 (hb h) ?_; try exact True.intro)
 ·try (refine ev ?_; try exact True.intro)
  omega
theorem qt4 (l : List Bool) (hl : l.length ≤ 1000) : qg Tryz.prog 225 [.d (.sl 1 (l.map encB))] [] (.uni 0 1 (l.map encB)) [] := by
 refine xnp.go ?_
 try (refine ev ?_; try exact True.intro)
 refine ql4 rfl rfl (fun b hb => ?_)
 try (refine ev ?_; try exact True.intro)
 (repeat (with_reducible refine ob ?_)); refine xq _ (fun h => ?_) (fun h => ?_)
 ·try (refine ev1 (hb h) ?_; try exact True.intro)
 ·try (refine ev ?_; try exact True.intro)
  omega
theorem yx (l : List Bool) (hl : l.length ≤ 1000) : qg Tryz.prog 225 [.d (.sl 1 (l.map encB))] [] (.d (.sl 1 (l.map encB))) [] := by
 refine F225.go ?_
 try (refine ev ?_; try exact True.intro)
 refine ql4 rfl rfl (fun b hb => ?_)
 try (refine ev ?_; try exact True.intro)
 (repeat (with_reducible refine ob ?_)); refine xq _ (fun h => ?_) (fun h => ?_)
 ·try (refine ev1 (hb h) ?_; try exact True.intro)
 ·try (refine ev ?_; try exact True.intro)
  omega
end Go.Proofs.YtkcdbcbpbolgkaaGreatDoor
namespace Go.Proofs.YtkcdbcbpbolgkaaGreatDoor
open Go.Abs
noncomputable section
set_option maxRecDepth 100000
set_option linter.defProp false
def xqu := cut Tryz.prog Tryz.f141 news [] [2, 7] true
@[go_sem] def xuh := ql xqu
def xqv := fnC xqu follows Tryz.func141
end
theorem q9c (b es : Nat) (rows : List (List D)) : qeh b (.uni 0 es rows) = .uni b es rows := by simp [qeh, wq, renT, ASlot.toks]
theorem q9d (b es : Nat) (rows : List (List D)) : qeh b (.own 0 es rows) = .own b es rows := by simp [qeh, wq, renT, ASlot.toks]
attribute [go_sem] q9c q9d
def jn (l : List Ue) : List ASlot := (l.map qq).flatten.map ASlot.d
theorem qz7 (l : List Ue) : List.map ASlot.d (l.map qq).flatten = jn l := rfl
theorem zb (x : Ue) (l : List Ue) : jn (x :: l) = .d (.int .i64 x.sess) :: .d (.int .i64 x.phase) :: .d (.sl 1 (x.moved.map encB)) :: .d (.sl 1 (x.opened.map encB)) :: jn l := rfl
theorem qeu : ∀ l : List Ue, (jn l).length = l.length * 4
 | [] => rfl
 | x :: l => by rw [zb]; simp only [List.length_cons, qeu l]; omega
theorem qhu : ∀ (l : List Ue) (i j : Nat) (_ : i < l.length) (_ : j < 4), (jn l)[i * 4 + j]? = some (.d ((qq l[i]).getD j .nilsl))
 | x :: l, 0, j, _, hj => by
  rw [zb]
  have : j = 0 ∨ j = 1 ∨ j = 2 ∨ j = 3 := by omega
  rcases this with rfl | rfl | rfl | rfl <;> rfl
 | x :: l, i + 1, j, hi, hj => by
  rw [zb, show (i + 1) * 4 + j = (i * 4 + j) + 1 + 1 + 1 + 1 by omega]
  simp only [List.getElem?_cons_succ]
  exact qhu l i j (by simpa using hi) hj
theorem qt5 (l : List Ue) (i j : Nat) (hi : i < l.length) (hj : j < 4) : (jn l).getD (i * 4 + j) .bad = .d ((qq l[i]).getD j .nilsl) := by
 rw [List.getD_eq_getElem?_getD, qhu l i j hi hj]; rfl
theorem qz8 (l : List Ue) (i j : Nat) (hi : i < l.length) (hj : j < 4) : (jn l).set (i * 4 + j) (.d ((qq l[i]).getD j .nilsl)) = jn l := by
 refine List.ext_getElem? fun k => ?_
 rw [List.getElem?_set]
 split
 ·rename_i h; subst h
  rw [qhu l i j hi hj]
  have := (List.getElem?_eq_some_iff.1 (qhu l i j hi hj)).1
  simp [this]
 ·rfl
theorem qoo {l : List Ue} {i : Nat} (hi : i < l.length) : (jn l).getD (i * 4 + 2) .bad = .d (.sl 1 (l[i].moved.map encB)) := qt5 l i 2 hi (by decide)
theorem qop {l : List Ue} {i : Nat} (hi : i < l.length) : (jn l).getD (i * 4 + 3) .bad = .d (.sl 1 (l[i].opened.map encB)) := qt5 l i 3 hi (by decide)
theorem qgr {l : List Ue} {i : Nat} (hi : i < l.length) : (jn l).set (i * 4 + 2) (.d (.sl 1 (l[i].moved.map encB))) = jn l := qz8 l i 2 hi (by decide)
theorem qgs {l : List Ue} {i : Nat} (hi : i < l.length) : (jn l).set (i * 4 + 3) (.d (.sl 1 (l[i].opened.map encB))) = jn l := qz8 l i 3 hi (by decide)
theorem qq6 (keep : Nat → Bool) : ∀ l : List Ue, csW keep (jn l) (jn l)
 | [] => by simp only [jn, List.map_nil, List.flatten_nil, csW]
 | x :: l => by
  rw [zb]
  have := qq6 keep l
  try (refine ev1 @this ?_; try exact True.intro)
theorem qgt : ∀ l : List Ue, qbl (jn l) (jn l) = []
 | [] => rfl
 | x :: l => by
  rw [zb]
  have := qgt l
  try (refine ev1 @this ?_; try exact True.intro)
theorem qmd : ∀ l : List Ue, (jn l).flatMap ASlot.toks = []
 | [] => rfl
 | x :: l => by
  rw [zb]
  have := qmd l
  try (refine ev2 @List.flatMap_cons.{0,0} @this ?_; try exact True.intro)
attribute [go_sem] qq6 qgt qmd qeu
def Scop (m : Mg) (i : { i : Nat // i ≤ m.ents.length }) : St :=
 ⟨[(1, true, .d (.ptr 0 0)), (2, true, .d (.ptr 1 0)), (11, true, .d (.int .i64 m.ents.length)), (12, true, .d (.int .i64 (i.val : Nat)))],
  [.row [.d (.int .i64 m.roles), .d (.ref 2 0 4 m.ents.length)], .row [.d (.int .i64 0), .d .nilsl], .row (jn m.ents)], [], 1⟩
set_option maxRecDepth 10000 in
theorem xdg (m : Mg) (hm : m.Sm) : qg Tryz.prog 141 [.d (.agg (qx m))] [] (.d (.agg [.int .i64 m.roles, .ref 2 0 4 m.ents.length])) [.none, .none, .row (jn m.ents)] := by
 have hl := hm.1
 refine xqv.go ?_
 try (refine ev1 @qx.eq_1 ?_; try exact True.intro)
 refine clA xno (qz6 m.ents hm.1) ?_
 try (refine ev ?_; try exact True.intro)
 try (refine ev ?_; try exact True.intro)
 (repeat (with_reducible refine ob ?_))
 refine qqh (.cell 0 1) _ 4 (m.ents.map qq) ?_
 refine pu ?_
 try (refine ev ?_; try exact True.intro)
 refine qk (Scop m) (fun i => m.ents.length - i.val) ⟨0, Nat.zero_le _⟩ ?_ (fun i => ?_)
 ·try (refine ev2 @Scop.eq_1 @qz7 ?_; try exact True.intro)
 obtain ⟨i, hi⟩ := i
 try (refine ev1 @Scop.eq_1 ?_; try exact True.intro)
 (repeat (with_reducible refine ob ?_)); refine xq _ (fun h => ?_) (fun h => ?_)
 ·have hil : i < m.ents.length := by simpa using h
  have hx := hm.2 _ (List.getElem_mem hil)
  try (refine ev ?_; try exact True.intro)
  (repeat (with_reducible refine ob ?_))
  rw [qoo hil]
  (repeat (with_reducible refine ob ?_)); first | refine cl F225 (yx m.ents[i].moved hx.1) ?_ | refine clF F225 (yx m.ents[i].moved hx.1) (fun _ => by (refine ev2 @qq.eq_1 @qx.eq_1 ?_; try exact True.intro)) ?_
  try (refine ev ?_; try exact True.intro)
  (repeat (with_reducible refine ob ?_))
  rw [qop hil]
  (repeat (with_reducible refine ob ?_)); first | refine cl F225 (yx m.ents[i].opened hx.2) ?_ | refine clF F225 (yx m.ents[i].opened hx.2) (fun _ => by (refine ev2 @qq.eq_1 @qx.eq_1 ?_; try exact True.intro)) ?_
  try (refine ev2 (qgr hil) (qgs hil) ?_; try exact True.intro)
  (repeat (with_reducible refine ob ?_))
  try (refine ev2 (qgr hil) (qgs hil) ?_; try exact True.intro)
  (repeat (with_reducible refine ob ?_))
  try (refine ev2 (qgr hil) (qgs hil) ?_; try exact True.intro)
  refine pu ?_
  try (refine ev ?_; try exact True.intro)
  refine ⟨⟨i + 1, hil⟩, ?_, by dsimp only; omega⟩
  try (refine ev2 @Scop.eq_1 (qf (show i < 9223372036854775807 by omega)) ?_; try exact True.intro)
 ·have hil : i = m.ents.length := by
   have : m.ents.length ≤ i := by simpa using h
   omega
  subst hil
  try (refine ev ?_; try exact True.intro)
  refine pu ?_
  try (refine ev ?_; try exact True.intro)
  trace_state
theorem q36 {keep : Nat → Bool} {s : ASlot} (hs : qdf keep s s) : ∀ (l : List ASlot) (i : Nat), csW keep l l → csW keep (l.set i s) (l.set i s)
 | [], _, h => h
 | _ :: _, 0, h => ⟨hs, h.2⟩
 | _ :: l, i + 1, h => ⟨h.1, q36 hs l i h.2⟩
theorem qjk {s : ASlot} (hs : wd s s = []) : ∀ (l : List ASlot) (i : Nat), qbl l l = [] → qbl (l.set i s) (l.set i s) = []
 | [], _, h => h
 | x :: l, 0, h => by
  rw [List.set_cons_zero, qc7]
  rw [qc7, List.append_eq_nil_iff] at h
  rw [hs, h.2]; rfl
 | x :: l, i + 1, h => by
  rw [List.set_cons_succ, qc7]
  rw [qc7, List.append_eq_nil_iff] at h
  rw [h.1, qjk hs l i h.2]; rfl
theorem qwr {s : ASlot} (hs : s.toks = []) : ∀ (l : List ASlot) (i : Nat), l.flatMap ASlot.toks = [] → (l.set i s).flatMap ASlot.toks = []
 | [], _, h => h
 | x :: l, 0, h => by
  rw [List.set_cons_zero, List.flatMap_cons]
  rw [List.flatMap_cons, List.append_eq_nil_iff] at h
  rw [hs, h.2]; rfl
 | x :: l, i + 1, h => by
  rw [List.set_cons_succ, List.flatMap_cons]
  rw [List.flatMap_cons, List.append_eq_nil_iff] at h
  rw [h.1, qwr hs l i h.2]; rfl
noncomputable section
set_option maxRecDepth 100000
set_option linter.defProp false
def xqw := cut Tryz.prog Tryz.f141 news [] [2, 7] true
@[go_sem] def xui := ql xqw
def xqx := fnC xqw follows Tryz.func141
end
def refA (l : List ASlot) (k a b : Nat) (x : Ue) : List ASlot := (l.set (k * 4 + 2) (.d (.ref a 0 1 x.moved.length))).set (k * 4 + 3) (.d (.ref b 0 1 x.opened.length))
theorem xiw (l : List ASlot) (k a b : Nat) (x : Ue) : (refA l k a b x).length = l.length := by simp [refA]
theorem xnq {l : List Ue} {k a b i : Nat} {x : Ue} (hik : i ≠ k) (hi : i < l.length) : (refA (jn l) k a b x).getD (i * 4 + 2) .bad = .d (.sl 1 (l[i].moved.map encB)) := by
 rw [← qoo hi, List.getD_eq_getElem?_getD, List.getD_eq_getElem?_getD, refA, List.getElem?_set_ne (by omega), List.getElem?_set_ne (by omega)]
theorem xnr {l : List Ue} {k a b i : Nat} {x : Ue} (hik : i ≠ k) (hi : i < l.length) : (refA (jn l) k a b x).getD (i * 4 + 3) .bad = .d (.sl 1 (l[i].opened.map encB)) := by
 rw [← qop hi, List.getD_eq_getElem?_getD, List.getD_eq_getElem?_getD, refA, List.getElem?_set_ne (by omega), List.getElem?_set_ne (by omega)]
theorem q37 {l : List Ue} {k a b i : Nat} {x : Ue} (hik : i ≠ k) (hi : i < l.length) : (refA (jn l) k a b x).set (i * 4 + 2) (.d (.sl 1 (l[i].moved.map encB))) = refA (jn l) k a b x := by
 rw [refA, List.set_comm _ _ (show k * 4 + 3 ≠ i * 4 + 2 by omega), List.set_comm _ _ (show k * 4 + 2 ≠ i * 4 + 2 by omega), qgr hi]
theorem q38 {l : List Ue} {k a b i : Nat} {x : Ue} (hik : i ≠ k) (hi : i < l.length) : (refA (jn l) k a b x).set (i * 4 + 3) (.d (.sl 1 (l[i].opened.map encB))) = refA (jn l) k a b x := by
 rw [refA, List.set_comm _ _ (show k * 4 + 3 ≠ i * 4 + 3 by omega), List.set_comm _ _ (show k * 4 + 2 ≠ i * 4 + 3 by omega), qgs hi]
theorem qoq {keep : Nat → Bool} {l : List Ue} {k a b : Nat} {x : Ue} (ha : keep a = true) (hb : keep b = true) : csW keep (refA (jn l) k a b x) (refA (jn l) k a b x) :=
 q36 (by try (refine ev2 @ha @hb ?_; try exact True.intro)) _ _ (q36 (by try (refine ev2 @ha @hb ?_; try exact True.intro)) _ _ (qq6 keep l))
theorem qz9 {l : List Ue} {k a b : Nat} {x : Ue} : qbl (refA (jn l) k a b x) (refA (jn l) k a b x) = [] := qjk rfl _ _ (qjk rfl _ _ (qgt l))
theorem xdh {l : List Ue} {k a b : Nat} {x : Ue} : (refA (jn l) k a b x).flatMap ASlot.toks = [] := qwr rfl _ _ (qwr rfl _ _ (qmd l))
theorem xix (l : List Bool) : List.map ASlot.d (l.map encB).flatten = l.map fun b => .d (.bool b) := by
 induction l with
 | nil => rfl
 | cons b l ih => simp only [List.map_cons, List.flatten_cons, encB, List.cons_append, List.nil_append, ih]
theorem q6j (keep : Nat → Bool) : ∀ l : List Bool, csW keep (l.map fun b => .d (.bool b)) (l.map fun b => .d (.bool b))
 | [] => trivial
 | x :: l => by
  have := q6j keep l
  try (refine ev2 @List.map_cons.{0,0} @this ?_; try exact True.intro)
theorem qnp : ∀ l : List Bool, qbl (l.map fun b => .d (.bool b)) (l.map fun b => .d (.bool b)) = []
 | [] => rfl
 | x :: l => by
  have := qnp l
  try (refine ev2 @List.map_cons.{0,0} @this ?_; try exact True.intro)
theorem q0a : ∀ l : List Bool, ((l.map fun b => .d (.bool b)).flatMap ASlot.toks : List Nat) = []
 | [] => rfl
 | x :: l => by
  have := q0a l
  try (refine ev3 @List.map_cons.{0,0} @List.flatMap_cons.{0,0} @this ?_; try exact True.intro)
attribute [go_sem] xiw qoq qz9 xdh xix q6j qnp q0a
theorem xiy (l : List ASlot) (k a b : Nat) (x : Ue) : (l.set (k * 4 + 2) (.d (.ref a 0 1 x.moved.length))).set (k * 4 + 3) (.d (.ref b 0 1 x.opened.length)) = refA l k a b x := rfl
theorem xuj {l : List ASlot} {a b : Nat} {u v x y : ASlot} (h : a ≠ b) : (((l.set a u).set b v).set a x).set b y = (l.set a x).set b y := by
 rw [List.set_comm _ _ (Ne.symm h), List.set_set, List.set_set]
def q0b (m : Mg) (k : Nat) (x : Ue) (i : { i : Nat // i ≤ m.ents.length }) : St :=
 ⟨[(1, true, .d (.ptr 0 0)), (2, true, .d (.ptr 1 0)), (11, true, .d (.int .i64 m.ents.length)), (12, true, .d (.int .i64 (i.val : Nat)))],
  if i.val ≤ k then [.row [.d (.int .i64 m.roles), .d (.ref 2 0 4 m.ents.length)], .row [.d (.int .i64 0), .d .nilsl], .row (jn m.ents)]
  else [.row [.d (.int .i64 m.roles), .d (.ref 2 0 4 m.ents.length)], .row [.d (.int .i64 0), .d .nilsl], .row (refA (jn m.ents) k 3 4 x), .row (x.moved.map fun b => .d (.bool b)), .row (x.opened.map fun b => .d (.bool b))], [], 1⟩
set_option maxRecDepth 10000 in
theorem q39 (m : Mg) (hm : m.Sm) (k : Nat) (hk : k < m.ents.length) : qg Tryz.prog 141 [.d (.agg (qx m))] [] (.d (.agg [.int .i64 m.roles, .ref 2 0 4 m.ents.length]))
  [.none, .none, .row (refA (jn m.ents) k 3 4 m.ents[k]), .row (m.ents[k].moved.map fun b => .d (.bool b)), .row (m.ents[k].opened.map fun b => .d (.bool b))] := by
 have hl := hm.1
 refine xqx.go ?_
 try (refine ev1 @qx.eq_1 ?_; try exact True.intro)
 refine clA xno (qz6 m.ents hm.1) ?_
 try (refine ev ?_; try exact True.intro)
 (repeat (with_reducible refine ob ?_))
 refine qqh (.cell 0 1) _ 4 (m.ents.map qq) ?_
 refine pu ?_
 try (refine ev ?_; try exact True.intro)
 refine qk (q0b m k m.ents[k]) (fun i => m.ents.length - i.val) ⟨0, Nat.zero_le _⟩ ?_ (fun i => ?_)
 ·try (refine ev3 @q0b.eq_1 @qz7 @Nat.zero_le ?_; try exact True.intro)
 obtain ⟨i, hi⟩ := i
 rcases Nat.lt_trichotomy i k with hik | hik | hik
 ·have hle : i ≤ k := by omega
  have hle1 : i + 1 ≤ k := by omega
  try (refine ev2 @q0b.eq_1 @hle ?_; try exact True.intro)
  (repeat (with_reducible refine ob ?_)); refine xq _ (fun h => ?_) (fun h => ?_)
  ·have hil : i < m.ents.length := by simpa using h
   have hx := hm.2 _ (List.getElem_mem hil)
   try (refine ev ?_; try exact True.intro)
   (repeat (with_reducible refine ob ?_))
   rw [qoo hil]
   (repeat (with_reducible refine ob ?_)); first | refine cl F225 (yx m.ents[i].moved hx.1) ?_ | refine clF F225 (yx m.ents[i].moved hx.1) (fun _ => by (refine ev2 @qq.eq_1 @qx.eq_1 ?_; try exact True.intro)) ?_
   try (refine ev ?_; try exact True.intro)
   (repeat (with_reducible refine ob ?_))
   rw [qop hil]
   (repeat (with_reducible refine ob ?_)); first | refine cl F225 (yx m.ents[i].opened hx.2) ?_ | refine clF F225 (yx m.ents[i].opened hx.2) (fun _ => by (refine ev2 @qq.eq_1 @qx.eq_1 ?_; try exact True.intro)) ?_
   try (refine ev2 (qgr hil) (qgs hil) ?_; try exact True.intro)
   (repeat (with_reducible refine ob ?_))
   try (refine ev2 (qgr hil) (qgs hil) ?_; try exact True.intro)
   (repeat (with_reducible refine ob ?_))
   try (refine ev2 (qgr hil) (qgs hil) ?_; try exact True.intro)
   refine pu ?_
   try (refine ev ?_; try exact True.intro)
   refine ⟨⟨i + 1, hil⟩, ?_, by dsimp only; omega⟩
   try (refine ev3 @q0b.eq_1 @hle1 (qf (show i < 9223372036854775807 by omega)) ?_; try exact True.intro)
  ·exfalso; simp at h; omega
 ·subst hik
  have hni : ¬ (i + 1 ≤ i) := by omega
  try (refine ev2 @q0b.eq_1 @Nat.le_refl ?_; try exact True.intro)
  (repeat (with_reducible refine ob ?_)); refine xq _ (fun h => ?_) (fun h => ?_)
  ·have hil : i < m.ents.length := hk
   have hx := hm.2 _ (List.getElem_mem hil)
   try (refine ev ?_; try exact True.intro)
   (repeat (with_reducible refine ob ?_))
   rw [qoo hil]
   refine clA xnp (qt4 m.ents[i].moved hx.1) ?_
   try (refine ev ?_; try exact True.intro)
   (repeat (with_reducible refine ob ?_))
   rw [qop hil]
   refine clA xnp (qt4 m.ents[i].opened hx.2) ?_
   try (refine ev ?_; try exact True.intro)
   (repeat (with_reducible refine ob ?_))
   try (refine ev ?_; try exact True.intro)
   (repeat (with_reducible refine ob ?_))
   try (refine ev2 @List.length_set.{0} @qeu ?_; try exact True.intro)
   (repeat (with_reducible refine ob ?_))
   have hf : (jn m.ents).length = m.ents.length * 4 := qeu _
   refine qqh (.cell 2 (i * 4 + 2)) 240 1 (m.ents[i].moved.map encB) ?_ (hp := by simp only [St.slotAt, qh, List.getElem?_cons_succ, List.getElem?_cons_zero, AObj.cells, List.getD_eq_getElem?_getD]; rw [List.getElem?_set_ne (by omega), List.getElem?_set_self (by rw [hf]; omega)]; rfl)
   try (refine ev2 @List.set_comm.{0} @List.length_set.{0} ?_; try exact True.intro)
   refine qqh (.cell 2 (i * 4 + 3)) 320 1 (m.ents[i].opened.map encB) ?_ (hp := by simp only [St.slotAt, qh, List.getElem?_cons_succ, List.getElem?_cons_zero, AObj.cells, List.getD_eq_getElem?_getD]; rw [List.getElem?_set_ne (by omega), List.getElem?_set_self (by rw [List.length_set, hf]; omega)]; rfl)
   try simp only [xuj (show i * 4 + 2 ≠ i * 4 + 3 by omega), xiy, go_sem, Nat.reduceAdd, Nat.reduceMul, Nat.reduceSub, Nat.reduceEqDiff, Nat.reduceLT, Nat.reduceLeDiff, Nat.reduceBEq, reduceIte, reduceCtorEq, Int.reduceAdd, Int.reduceLT, Int.reduceLE, Int.reduceGT, Int.reduceGE, Int.reduceEq, Int.reduceNe, Int.reduceBEq, Int.reduceBNe, Int.reduceToNat, Int.reduceNeg]
   refine pu ?_
   try (refine ev ?_; try exact True.intro)
   refine ⟨⟨i + 1, hil⟩, ?_, by dsimp only; omega⟩
   try (refine ev3 @q0b.eq_1 @hni (qf (show i < 9223372036854775807 by omega)) ?_; try exact True.intro)
   exact qoq rfl rfl
  ·exfalso; simp at h; omega
 ·have hle : ¬ i ≤ k := by omega
  have hle1 : ¬ i + 1 ≤ k := by omega
  try (refine ev2 @q0b.eq_1 @hle ?_; try exact True.intro)
  (repeat (with_reducible refine ob ?_)); refine xq _ (fun h => ?_) (fun h => ?_)
  ·have hil : i < m.ents.length := by simpa using h
   have hx := hm.2 _ (List.getElem_mem hil)
   have hik' : i ≠ k := by omega
   try (refine ev ?_; try exact True.intro)
   (repeat (with_reducible refine ob ?_))
   rw [xnq hik' hil]
   (repeat (with_reducible refine ob ?_)); first | refine cl F225 (yx m.ents[i].moved hx.1) ?_ | refine clF F225 (yx m.ents[i].moved hx.1) (fun _ => by (refine ev2 @qq.eq_1 @qx.eq_1 ?_; try exact True.intro)) ?_
   try (refine ev ?_; try exact True.intro)
   (repeat (with_reducible refine ob ?_))
   rw [xnr hik' hil]
   (repeat (with_reducible refine ob ?_)); first | refine cl F225 (yx m.ents[i].opened hx.2) ?_ | refine clF F225 (yx m.ents[i].opened hx.2) (fun _ => by (refine ev2 @qq.eq_1 @qx.eq_1 ?_; try exact True.intro)) ?_
   try simp only [q37 hik' hil, q38 hik' hil, go_sem, Nat.reduceAdd, Nat.reduceMul, Nat.reduceSub, Nat.reduceEqDiff, Nat.reduceLT, Nat.reduceLeDiff, Nat.reduceBEq, reduceIte, reduceCtorEq, Int.reduceAdd, Int.reduceLT, Int.reduceLE, Int.reduceGT, Int.reduceGE, Int.reduceEq, Int.reduceNe, Int.reduceBEq, Int.reduceBNe, Int.reduceToNat, Int.reduceNeg]
   (repeat (with_reducible refine ob ?_))
   try simp only [q37 hik' hil, q38 hik' hil, go_sem, Nat.reduceAdd, Nat.reduceMul, Nat.reduceSub, Nat.reduceEqDiff, Nat.reduceLT, Nat.reduceLeDiff, Nat.reduceBEq, reduceIte, reduceCtorEq, Int.reduceAdd, Int.reduceLT, Int.reduceLE, Int.reduceGT, Int.reduceGE, Int.reduceEq, Int.reduceNe, Int.reduceBEq, Int.reduceBNe, Int.reduceToNat, Int.reduceNeg]
   (repeat (with_reducible refine ob ?_))
   try simp only [q37 hik' hil, q38 hik' hil, go_sem, Nat.reduceAdd, Nat.reduceMul, Nat.reduceSub, Nat.reduceEqDiff, Nat.reduceLT, Nat.reduceLeDiff, Nat.reduceBEq, reduceIte, reduceCtorEq, Int.reduceAdd, Int.reduceLT, Int.reduceLE, Int.reduceGT, Int.reduceGE, Int.reduceEq, Int.reduceNe, Int.reduceBEq, Int.reduceBNe, Int.reduceToNat, Int.reduceNeg]
   refine pu ?_
   try (refine ev ?_; try exact True.intro)
   refine ⟨⟨i + 1, hil⟩, ?_, by dsimp only; omega⟩
   try (refine ev3 @q0b.eq_1 @hle1 (qf (show i < 9223372036854775807 by omega)) ?_; try exact True.intro)
   exact qoq rfl rfl
  ·have hil : i = m.ents.length := by
    have : m.ents.length ≤ i := by simpa using h
    omega
   subst hil
   try (refine ev ?_; try exact True.intro)
   refine pu ?_
   try (refine ev ?_; try exact True.intro)
   exact qoq rfl rfl
end Go.Proofs.YtkcdbcbpbolgkaaGreatDoor
namespace Go.Proofs.YtkcdbcbpbolgkaaGreatDoor
open Go.Abs
noncomputable section
set_option maxRecDepth 100000
set_option linter.defProp false
def d229 := cut Tryz.prog Tryz.f229 news
@[go_sem] def E229 := ql d229
def d230 := cut Tryz.prog Tryz.f230 news
@[go_sem] def E230 := ql d230
def d149 := cut Tryz.prog Tryz.f149 news
@[go_sem] def E149 := ql d149
def d81 := cut Tryz.prog Tryz.f81 news
@[go_sem] def E81 := ql d81
def d82 := cut Tryz.prog Tryz.f82 news
@[go_sem] def E82 := ql d82
def d99 := cut Tryz.prog Tryz.f99 news
@[go_sem] def E99 := ql d99
def d34 := cut Tryz.prog Tryz.f34 news
@[go_sem] def E34 := ql d34
def d23 := cut Tryz.prog Tryz.f23 news
@[go_sem] def E23 := ql d23
def d94 := cut Tryz.prog Tryz.f94 news
@[go_sem] def E94 := ql d94
end
def idB (b : Bool) : Bool := b
theorem qme (l : List Bool) : hasB false l = !l.all idB := by
 induction l with
 | nil => rfl
 | cons b l ih => cases b <;> simp_all [hasB, idB]
theorem q0d (l : List Bool) : hasB true l = l.any idB := by
 induction l with
 | nil => rfl
 | cons b l ih => cases b <;> simp_all [hasB, idB]
end Go.Proofs.YtkcdbcbpbolgkaaGreatDoor
namespace Go.Proofs.YtkcdbcbpbolgkaaGreatDoor
open Go.Abs
noncomputable section
set_option maxRecDepth 100000
set_option linter.defProp false
def d18 := cut Tryz.prog Tryz.f18 news
@[go_sem] def E18 := ql d18
def F18 := fnC d18 follows Tryz.func18
def d200 := cut Tryz.prog Tryz.f200 news
@[go_sem] def E200 := ql d200
def d26 := cut Tryz.prog Tryz.f26 news
@[go_sem] def E26 := ql d26
def d35 := cut Tryz.prog Tryz.f35 news
@[go_sem] def E35 := ql d35
end
def qgu (s r label : Int) : Pk := ⟨3, s, 0, r, 0, 0, label, [], []⟩
def qjl (s label : Int) (marks : List Bool) (r : Nat) : List Pk := if marks.getD r true then [] else [qgu s r label]
def qmf (s label : Int) (marks : List Bool) (n : Nat) : List Pk := (List.range n).flatMap (qjl s label marks)
def za (x : Ue) : List Bool := if x.phase != 1 then x.opened else x.moved
def yt (x : Ue) : Int := if x.phase != 1 then 2 else 1
def qq7 (x : Ue) : List Pk := qmf x.sess (yt x) (za x) (za x).length
def ws (m : Mg) (n : Nat) : List Pk := (List.range n).flatMap fun i => qq7 (m.ents.getD i default)
def xj (m : Mg) : List Pk := if zh m then ws m m.ents.length else []
theorem q0e (m : Mg) : ws m 0 = [] := rfl
theorem xdi (s label : Int) (marks : List Bool) : qmf s label marks 0 = [] := rfl
theorem qed (s label : Int) (marks : List Bool) (n : Nat) : qmf s label marks (n + 1) = qmf s label marks n ++ qjl s label marks n := by simp [qmf, List.range_succ]
theorem qd1 (m : Mg) (n : Nat) : ws m (n + 1) = ws m n ++ qq7 (m.ents.getD n default) := by simp [ws, List.range_succ]
theorem qhv (s label : Int) (marks : List Bool) : ∀ n, (qmf s label marks n).length ≤ n
 | 0 => by simp [qmf]
 | n + 1 => by
  rw [qed, List.length_append]
  have := qhv s label marks n
  have : (qjl s label marks n).length ≤ 1 := by unfold qjl; split <;> simp
  omega
theorem qq8 (x : Ue) (hx : x.Sm) : (za x).length ≤ 1000 := by unfold za; split; exact hx.2; exact hx.1
theorem xdj (x : Ue) (hx : x.Sm) : (qq7 x).length ≤ 1000 := Nat.le_trans (qhv _ _ _ _) (qq8 x hx)
theorem qfe (m : Mg) (hm : m.Sm) : ∀ n, n ≤ m.ents.length → (ws m n).length ≤ n * 1000
 | 0, _ => by simp [ws]
 | n + 1, h => by
  have h1 : n < m.ents.length := h
  rw [qd1, List.length_append, zc h1]
  have := qfe m hm n (by omega)
  have := xdj _ (hm.2 _ (List.getElem_mem h1))
  omega
def qg9 (x : Ue) : AObj := .row [.d (.int .i64 x.sess), .d (.int .i64 x.phase), .d (.sl 1 (x.moved.map encB)), .d (.sl 1 (x.opened.map encB))]
def xdk (m : Mg) (i : { i : Nat // i ≤ m.ents.length }) : St :=
 ⟨[(2, true, .d .nilsl), (3, true, .own 0 9 ((ws m i.val).map qe)), (14, true, .d (.sl 4 (m.ents.map qq))), (15, true, .d (.int .i64 m.ents.length)), (16, true, .d (.int .i64 (i.val : Nat)))], [zw m], [0], 1⟩
def qsz (m : Mg) (i : Nat) (x : Ue) (r : { r : Nat // r ≤ (za x).length }) : St :=
 ⟨[(2, true, .d .nilsl), (3, true, .own 0 9 ((ws m i ++ qmf x.sess (yt x) (za x) r.val).map qe)), (5, true, .d (.ptr 1 0)), (7, true, .d (.int .i64 (yt x))), (14, true, .d (.sl 4 (m.ents.map qq))), (15, true, .d (.int .i64 m.ents.length)), (16, true, .d (.int .i64 (i : Nat))),
  (27, true, .d (.sl 1 ((za x).map encB))), (28, true, .d (.int .i64 (za x).length)), (29, true, .d (.int .i64 (r.val : Nat)))], [zw m, qg9 x], [0], 1⟩
theorem xln (m : Mg) (hm : m.Sm) (i : Nat) (hi : i < m.ents.length) (x : Ue) (hx : x.Sm) (Q : SExit → St → Prop) (st : St) (h0 : Weak 0 st (qsz m i x ⟨0, Nat.zero_le _⟩))
  (hQ : ∀ b, Q .normal ⟨(30, true, .d (.bool b)) :: (qsz m i x ⟨(za x).length, Nat.le_refl _⟩).fr, [zw m, qg9 x], [0], 2⟩) : AWp Tryz.prog 0 (.block 2 (.loop (.seq (.region (d18.reg 11) 0 []) (.seq (.cond (.t 30) .skip (.exit 2)) (.seq (.block 3 (.seq (.region (d18.reg 12) 0 []) (.seq (.region (d18.reg 13) 0 []) (.cond (.t 35) (.region (d18.reg 14) 0 []) .skip)))) (.region (d18.reg 15) 0 [])))))) Q st := by
 have hml := qq8 x hx
 have hol := qfe m hm i (by omega)
 have hl := hm.1
 try (refine ev ?_; try exact True.intro)
 refine qk (qsz m i x) (fun r => (za x).length - r.val) ⟨0, Nat.zero_le _⟩ h0 (fun r => ?_)
 obtain ⟨r, hr⟩ := r
 try (refine ev3 @qsz.eq_1 @zw.eq_1 @qg9.eq_1 ?_; try exact True.intro)
 (repeat (with_reducible refine ob ?_)); refine xq _ (fun h => ?_) (fun h => ?_)
 ·have hil : r < (za x).length := by simpa using h
  (refine ev2 (qi encB (za x) hil) @encB.eq_1 ?_; try exact True.intro)
  (repeat (with_reducible refine ob ?_))
  refine xq _ (fun h2 => ?_) (fun h2 => ?_)
  ·have hb : (za x)[r] = false := by simpa using h2
   have ha : qjl x.sess (yt x) (za x) r = [qgu x.sess r (yt x)] := by simp [qjl, hil, hb]
   have hlt := qhv x.sess (yt x) (za x) r
   try (refine ev ?_; try exact True.intro)
   (repeat (with_reducible refine ob ?_))
   refine ⟨⟨r + 1, hil⟩, ?_, by dsimp only; omega⟩
   try simp only [qsz, zw, qg9, qed, ha, ← List.append_assoc, List.map_append, List.map_cons, List.map_nil, qgu, qe, qf (show r < 9223372036854775807 by omega), go_sem, Nat.reduceAdd, Nat.reduceMul, Nat.reduceSub, Nat.reduceEqDiff, Nat.reduceLT, Nat.reduceLeDiff, Nat.reduceBEq, reduceIte, reduceCtorEq, Int.reduceAdd, Int.reduceLT, Int.reduceLE, Int.reduceGT, Int.reduceGE, Int.reduceEq, Int.reduceNe, Int.reduceBEq, Int.reduceBNe, Int.reduceToNat, Int.reduceNeg]
  ·have hb : (za x)[r] = true := by simpa using h2
   have ha : qjl x.sess (yt x) (za x) r = [] := by simp [qjl, hil, hb]
   try (refine ev ?_; try exact True.intro)
   refine ⟨⟨r + 1, hil⟩, ?_, by dsimp only; omega⟩
   try (refine ev7 @qsz.eq_1 @zw.eq_1 @qg9.eq_1 @qed @ha @List.append_nil.{0} (qf (show r < 9223372036854775807 by omega)) ?_; try exact True.intro)
 ·have hil : r = (za x).length := by
   have : (za x).length ≤ r := by simpa using h
   omega
  subst hil
  try (refine ev ?_; try exact True.intro)
  exact hQ _
set_option maxRecDepth 10000 in
theorem qev (m : Mg) (hm : m.Sm) : qg Tryz.prog 18 [.d (.agg (qx m))] [] (.d (.sl 9 ((xj m).map qe))) [] := by
 have hl := hm.1
 refine F18.go ?_
 try (refine ev1 @qx.eq_1 ?_; try exact True.intro)
 (repeat (with_reducible refine ob ?_)); first | refine cl F69 (y6 m hm) ?_ | refine clF F69 (y6 m hm) (fun _ => by (refine ev3 @qq.eq_1 @qx.eq_1 @qe.eq_1 ?_; try exact True.intro)) ?_
 try (refine ev ?_; try exact True.intro)
 refine xq _ (fun hv => ?_) (fun hv => ?_)
 ·have hu : xj m = [] := by simp at hv; simp [xj, hv]
  try (refine ev2 @hu @List.map_nil.{0,0} ?_; try exact True.intro)
 have hu : xj m = ws m m.ents.length := by simp at hv; simp [xj, hv]
 rw [hu]
 try (refine ev ?_; try exact True.intro)
 refine qk (xdk m) (fun i => m.ents.length - i.val) ⟨0, Nat.zero_le _⟩ ?_ (fun i => ?_)
 ·try (refine ev4 @xdk.eq_1 @zw.eq_1 @q0e @List.map_nil.{0,0} ?_; try exact True.intro)
 obtain ⟨i, hi⟩ := i
 try (refine ev2 @xdk.eq_1 @zw.eq_1 ?_; try exact True.intro)
 (repeat (with_reducible refine ob ?_)); refine xq _ (fun h => ?_) (fun h => ?_)
 ·have hil : i < m.ents.length := by simpa using h
  have hx := hm.2 _ (List.getElem_mem hil)
  (refine ev2 (qi qq m.ents hil) @qq.eq_1 ?_; try exact True.intro)
  (repeat (with_reducible refine ob ?_))
  refine xq _ (fun h2 => ?_) (fun h2 => ?_)
  ·have e1 : za m.ents[i] = m.ents[i].opened := by simp only [za, h2, if_true]
   have e2 : yt m.ents[i] = 2 := by simp only [yt, h2, if_true]
   try (refine ev ?_; try exact True.intro)
   refine xln m hm i hil m.ents[i] hx _ _ ?_ (fun b => ?_)
   ·try (refine ev7 @qsz.eq_1 @zw.eq_1 @qg9.eq_1 @e1 @e2 @xdi @List.append_nil.{0} ?_; try exact True.intro)
   ·try (refine ev3 @qsz.eq_1 @zw.eq_1 @qg9.eq_1 ?_; try exact True.intro)
    refine ⟨⟨i + 1, hil⟩, ?_, by dsimp only; omega⟩
    try (refine ev6 @xdk.eq_1 @zw.eq_1 @qd1 (zc hil) @qq7.eq_1 (qf (show i < 9223372036854775807 by omega)) ?_; try exact True.intro)
  ·have e1 : za m.ents[i] = m.ents[i].moved := by simp only [za, h2]; rfl
   have e2 : yt m.ents[i] = 1 := by simp only [yt, h2]; rfl
   try (refine ev ?_; try exact True.intro)
   refine xln m hm i hil m.ents[i] hx _ _ ?_ (fun b => ?_)
   ·try (refine ev7 @qsz.eq_1 @zw.eq_1 @qg9.eq_1 @e1 @e2 @xdi @List.append_nil.{0} ?_; try exact True.intro)
   ·try (refine ev3 @qsz.eq_1 @zw.eq_1 @qg9.eq_1 ?_; try exact True.intro)
    refine ⟨⟨i + 1, hil⟩, ?_, by dsimp only; omega⟩
    try (refine ev6 @xdk.eq_1 @zw.eq_1 @qd1 (zc hil) @qq7.eq_1 (qf (show i < 9223372036854775807 by omega)) ?_; try exact True.intro)
 ·have hil : i = m.ents.length := by
   have : m.ents.length ≤ i := by simpa using h
   omega
  subst hil
  try (refine ev ?_; try exact True.intro)
end Go.Proofs.YtkcdbcbpbolgkaaGreatDoor
namespace Go.Proofs.YtkcdbcbpbolgkaaGreatDoor
open Go.Abs
def Sorted (l : List En) : Prop := l.Pairwise fun a b => cmpB a.1 b.1 < 0
theorem Sorted.le {l : List En} (h : Sorted l) : l.Pairwise fun a b => cmpB a.1 b.1 ≤ 0 := h.imp fun hab => Int.le_of_lt hab
theorem xdm (k : List UInt8) : pre [] k = true := by simp [pre]
def eSet (x : En) : List En → List En
 | [] => [x]
 | y :: l => if Op.bytesLess y.1 x.1 = true then y :: eSet x l else if y.1 = x.1 then x :: l else x :: y :: l
def eDel (k : List UInt8) (l : List En) : List En := l.filter fun e => !(e.1 == k)
def eOp (l : List En) (o : OpS) : List En := if o.del then eDel o.key l else eSet (o.key, o.val) l
def qa4 : List En → List OpS → List En × Bool
 | l, [] => (l, true)
 | l, o :: r => if (eOp l o).length > 400 then ([], false) else qa4 (eOp l o) r
def jm (m : Cont) : List En := qdh m []
theorem qk5 {m : Cont} : (jm m).length = m.l.length := by
 have h1 : preL [] m.l = m.l.map enOf := by
  unfold preL
  congr 1
  exact List.filter_eq_self.2 fun x _ => xdm _
 rw [jm, qdh, (wi _).length_eq, h1, List.length_map]
end Go.Proofs.YtkcdbcbpbolgkaaGreatDoor
namespace Go.Proofs.YtkcdbcbpbolgkaaGreatDoor
open Go.Abs
noncomputable section
set_option maxRecDepth 100000
set_option linter.defProp false
def d150 := cut Tryz.prog Tryz.f150 news
@[go_sem] def E150 := ql d150
def d165 := cut Tryz.prog Tryz.f165 news
@[go_sem] def E165 := ql d165
def d163 := cut Tryz.prog Tryz.f163 news
@[go_sem] def E163 := ql d163
def d164 := cut Tryz.prog Tryz.f164 news
@[go_sem] def E164 := ql d164
def d162 := cut Tryz.prog Tryz.f162 news
@[go_sem] def E162 := ql d162
def d89 := cut Tryz.prog Tryz.f89 news
@[go_sem] def E89 := ql d89
end
end Go.Proofs.YtkcdbcbpbolgkaaGreatDoor
namespace Go.Proofs.YtkcdbcbpbolgkaaGreatDoor
open Go.Abs
structure Rd where
 b : List UInt8
 pos : Nat
 failed : Bool
 deriving DecidableEq, Inhabited
structure Rd.Ok (r : Rd) : Prop where
 len : r.b.length ≤ 1000000000
 pos : r.pos ≤ r.b.length
noncomputable section
set_option maxRecDepth 100000
set_option linter.defProp false
def d177 := cut Tryz.prog Tryz.f177 news
@[go_sem] def E177 := ql d177
def d288 := cut Tryz.prog Tryz.f288 news
@[go_sem] def E288 := ql d288
def d247 := cut Tryz.prog Tryz.f247 news
@[go_sem] def E247 := ql d247
def d180 := cut Tryz.prog Tryz.f180 news
@[go_sem] def E180 := ql d180
end
noncomputable section
set_option maxRecDepth 100000
set_option linter.defProp false
def d244 := cut Tryz.prog Tryz.f244 news
@[go_sem] def E244 := ql d244
end
theorem q4c (u d i : Nat) (hu : u < 2 ^ i) : u ||| d * 2 ^ i = u + d * 2 ^ i := by
 have := Nat.shiftLeft_add_eq_or_of_lt hu d
 rw [Nat.shiftLeft_eq] at this
 rw [Nat.or_comm, ← this, Nat.add_comm]
end Go.Proofs.YtkcdbcbpbolgkaaGreatDoor
namespace Go.Proofs.YtkcdbcbpbolgkaaGreatDoor
open Go.Abs
attribute [go_sem] exists_eq' List.getD_nil
noncomputable section
set_option maxRecDepth 100000
set_option linter.defProp false
def d246 := cut Tryz.prog Tryz.f246 news
@[go_sem] def E246 := ql d246
def d295 := cut Tryz.prog Tryz.f295 news
@[go_sem] def E295 := ql d295
def d292 := cut Tryz.prog Tryz.f292 news
@[go_sem] def E292 := ql d292
def d245 := cut Tryz.prog Tryz.f245 news
@[go_sem] def E245 := ql d245
def d294 := cut Tryz.prog Tryz.f294 news
@[go_sem] def E294 := ql d294
def d243 := cut Tryz.prog Tryz.f243 news
@[go_sem] def E243 := ql d243
def d291 := cut Tryz.prog Tryz.f291 news
@[go_sem] def E291 := ql d291
def d293 := cut Tryz.prog Tryz.f293 news
@[go_sem] def E293 := ql d293
def d178 := cut Tryz.prog Tryz.f178 news
@[go_sem] def E178 := ql d178
def d179 := cut Tryz.prog Tryz.f179 news
@[go_sem] def E179 := ql d179
def d250 := cut Tryz.prog Tryz.f250 news
@[go_sem] def E250 := ql d250
def d251 := cut Tryz.prog Tryz.f251 news
@[go_sem] def E251 := ql d251
def d249 := cut Tryz.prog Tryz.f249 news
@[go_sem] def E249 := ql d249
end
end Go.Proofs.YtkcdbcbpbolgkaaGreatDoor
namespace Go.Proofs.YtkcdbcbpbolgkaaGreatDoor
open Go.Abs
noncomputable section
set_option maxRecDepth 100000
set_option linter.defProp false
def d182 := cut Tryz.prog Tryz.f182 news
@[go_sem] def E182 := ql d182
end
end Go.Proofs.YtkcdbcbpbolgkaaGreatDoor
namespace Go.Proofs.YtkcdbcbpbolgkaaGreatDoor
open Go.Abs
end Go.Proofs.YtkcdbcbpbolgkaaGreatDoor
namespace Go.Proofs.YtkcdbcbpbolgkaaGreatDoor
open Go.Abs
noncomputable section
set_option maxRecDepth 100000
set_option linter.defProp false
def d96 := cut Tryz.prog Tryz.f96 news
@[go_sem] def E96 := ql d96
end
end Go.Proofs.YtkcdbcbpbolgkaaGreatDoor
namespace Go.Proofs.YtkcdbcbpbolgkaaGreatDoor
open Go.Abs
noncomputable section
set_option maxRecDepth 100000
set_option linter.defProp false
def d309 := cut Tryz.prog Tryz.f309 news
@[go_sem] def E309 := ql d309
def d257 := cut Tryz.prog Tryz.f257 news
@[go_sem] def E257 := ql d257
def d259 := cut Tryz.prog Tryz.f259 news
@[go_sem] def E259 := ql d259
def d260 := cut Tryz.prog Tryz.f260 news
@[go_sem] def E260 := ql d260
def d258 := cut Tryz.prog Tryz.f258 news
@[go_sem] def E258 := ql d258
def d98 := cut Tryz.prog Tryz.f98 news
@[go_sem] def E98 := ql d98
end
noncomputable section
set_option maxRecDepth 100000
set_option linter.defProp false
def d194 := cut Tryz.prog Tryz.f194 news
@[go_sem] def E194 := ql d194
end
end Go.Proofs.YtkcdbcbpbolgkaaGreatDoor
