/- Texts Wk, Wl, Wm, Wn, Cg, Ch, Ga, Gb, Gc, Gd, Ge, Gg, Za, Yd, Ya, Yb, Yc, Ye, Yf, Yg. -/
import Derived.Test.YtkcdbcbpbolgkaaGreatDoorMbn
import Derived.Calls
import Derived.Orders
import Derived.Tactics
import Derived.Laws.AppendOwn
import Derived.Laws.Slices
import Derived.Laws.Closers25
import Derived.Laws.StructEq
import Derived.Laws.BytesString
import Derived.Laws.CopyRow
import Derived.MapKept
import Derived.Maps.RangeRun
import Derived.TacticsIn
import Derived.OrdersIn
import Derived.RangeFuncRecord
import Derived.RangeFuncLeaves
import Derived.IntWalk
import Derived.ProofKit
import Derived.OpenShut
import Derived.Carry
import Derived.Test.YtkcdbcbpbolgkaaGreatDoorProg
import Derived.KernelRfl
import Derived.OwnWalkIn
import Derived.TacticsInMore
import Derived.LoopIn
import Derived.WalkKit
import Derived.Lib.Strings
import Derived.Lib.Slices
import Derived.Lib.Walk
import Derived.Lib.Bytealg
import Derived.Shelf.SlSortCmp.WholeK
import Derived.Shelf.SlSortCmp.NoneTotal

namespace Go.Proofs.YtkcdbcbpbolgkaaGreatDoor
open Go.Abs Go.Shelf Go.RowKit Go.Lib Go.Sort
set_option linter.unusedSimpArgs false
set_option linter.unusedVariables false
theorem xb1 (x : RowE) : (encR x).length = 2 := rfl
theorem xb2 (x : RowE) : ∀ v ∈ encR x, v.oneCell' = true := by
 intro v hv
 simp [encR] at hv
 rcases hv with rfl | rfl
 ·rfl
 ·exact x.2.2
set_option maxHeartbeats 1000000 in
theorem xfr (l : List En) (hn : (l.map (·.1)).Nodup) (hl : l.length ≤ 1000000) :
  qg Tryz.prog 172 [.d (.ref 0 0 2 l.length), .d (.func (.func 173) [] [])] [.row ((qdo l).map .d)] (.tup []) [.row ((qdo (qc8 l)).map .d)] := by
 intro g w vs hd hlen hv ho
 match vs, hlen with
 | [v0, v1], _ =>
 have h1 := kz (zg (hv 1 v1 _ rfl rfl))
 have hf1 : v1 = .func (.func 173) #[] #[] := by
  cases h1 with
  | func _ vf vc _ _ hf hc =>
   have e1 : vf = [] := List.eq_nil_of_length_eq_zero (by simpa using hf)
   have e2 : vc = [] := List.eq_nil_of_length_eq_zero (by simpa using hc)
   subst e1; subst e2; rfl
 subst hf1
 have h0 := kz (zg (hv 0 v0 _ rfl rfl))
 generalize hln : l.length = n at h0
 have none_ : ∀ (p : Option Addr) (cap : Nat), n = 0 → v0 = .slice p 0 cap → Calls Tryz.prog 172 [v0, .func (.func 173) #[] #[]].toArray w fun e w' =>
   ∃ v g' live', e = .returned v ∧ G g w g' w' ∧ Dom g' w' ∧ (∀ t ∈ (ASlot.tup []).toks, t ∈ live') ∧ RS g' w' live' v (.tup []) ∧ ObjsOk g' w' live' [.row ((qdo (qc8 l)).map .d)] := by
  intro p cap h0 hv0
  have hl0 : l = [] := List.eq_nil_of_length_eq_zero (by omega)
  subst hl0; subst hv0
  have hcon := AnyF.slices_SortFunc_none xh1 p cap (.func (.func 173) #[] #[]) w
  change Calls Tryz.prog 172 _ _ _ at hcon
  refine hcon.mono ?_
  rintro e w' ⟨rfl, rfl⟩
  have hs0 : qc8 [] = [] := by simp [qc8]
  rw [hs0]
  exact ⟨_, g, [], rfl, .refl _ _, hd, by simp [ASlot.toks], ⟨[], rfl, rfl, fun i u s hu => by simp at hu⟩, ho⟩
 cases h0 with
 | refnil a => exact none_ a 0 rfl rfl
 | ref b _ _ _ _ cap hg hcap hmx hsz =>
 by_cases hn0 : n = 0
 ·subst hn0; exact none_ _ cap rfl rfl
 obtain ⟨b', hb', c, et, hh, hcs, hcc⟩ := (ho.objs 0 _ rfl (by simp)).resolve_right (fun h => by
  have := h.1
  simp at this
  have := congrArg List.length this
  simp [qf4] at this; omega)
 have : b' = b := ho.inj b' b 0 hb' hg
 subst this
 rw [List.length_map, qf4] at hcs
 have hcell : ∀ (i : Nat) (e : En), l[i]? = some e → c[2 * i]? = some (.string ⟨e.1.toArray⟩) ∧ ∃ v, c[2 * i + 1]? = some v ∧ v.oneCell' = true ∧ RV g w v (.sl 1 (qa e.2)) := by
  intro i e he
  obtain ⟨k1, k2⟩ := qpz l i e he
  obtain ⟨u, u1, _, u3⟩ := hcc (2 * i) (.d (.str e.1)) (by rw [List.getElem?_map, k1]; rfl)
  obtain ⟨v, v1, v2, v3⟩ := hcc (2 * i + 1) (.d (.sl 1 (qa e.2))) (by rw [List.getElem?_map, k2]; rfl)
  have hu := qax (show RV g w u (.str e.1) from u3)
  subst hu
  exact ⟨u1, v, v1, v2, v3⟩
 let mkR : Nat → RowE := fun i => match l[i]?, c[2 * i + 1]? with
  | some e, some v => if h : v.oneCell' = true then (e.1, ⟨v, h⟩) else default
  | _, _ => default
 let P : List (RowE × En) := (List.range n).map fun i => (mkR i, l.getD i ([], []))
 have hPR : ∀ z ∈ P, z.1.1 = z.2.1 ∧ RV g w z.1.2.1 (.sl 1 (qa z.2.2)) := by
  intro z hz
  obtain ⟨i, hi, rfl⟩ := List.mem_map.1 hz
  have hil : i < l.length := by rw [hln]; exact List.mem_range.1 hi
  have he := List.getElem?_eq_getElem hil
  obtain ⟨_, v, v1, v2, v3⟩ := hcell i _ he
  have : mkR i = (l[i].1, ⟨v, v2⟩) := by simp only [mkR, he, v1, dif_pos v2]
  have e2 : l.getD i ([], []) = l[i] := by simp [List.getD, he]
  simp only [this, e2]
  exact ⟨trivial, v3⟩
 have hPs : P.map (·.2) = l := by
  apply List.ext_getElem?
  intro i
  simp only [P, List.map_map, List.getElem?_map]
  rcases Nat.lt_or_ge i n with h | h
  ·rw [List.getElem?_range h]
   have he := List.getElem?_eq_getElem (show i < l.length by omega)
   simp [he, List.getD]
  ·rw [List.getElem?_eq_none (by simpa using h), List.getElem?_eq_none (by omega)]; rfl
 obtain ⟨d, hdd⟩ : ∃ d : Array RowE, d = (P.map (·.1)).toArray := ⟨_, rfl⟩
 have hds : d.size = n := by rw [hdd]; simp [P]
 have hdi : ∀ i, i < n → d[i]! = mkR i := fun i hi => by rw [hdd]; simp [P, hi]
 have hblk : b' < w.heap.size := (Array.getElem?_eq_some_iff.1 hh).1
 have hfl : ∀ t, t < n * 2 → (flatK encR 2 d)[t]! = c.getD t default := by
  intro t ht
  rw [get_flatK encR 2 d t (by rw [hds]; exact ht), hdi _ (by omega)]
  have hil : t / 2 < l.length := by omega
  have he := List.getElem?_eq_getElem hil
  obtain ⟨k1, v, v1, v2, v3⟩ := hcell (t / 2) _ he
  have hm : mkR (t / 2) = (l[t / 2].1, ⟨v, v2⟩) := by simp only [mkR, he, v1, dif_pos v2]
  rw [hm]
  rcases Nat.mod_two_eq_zero_or_one t with hp | hp
  ·have e1 : 2 * (t / 2) = t := by omega
   rw [e1] at k1
   rw [hp, Array.getD_eq_getD_getElem?, k1]
   rfl
  ·have e1 : 2 * (t / 2) + 1 = t := by omega
   rw [e1] at v1
   rw [hp, Array.getD_eq_getD_getElem?, v1]
   rfl
 have hH : HoldsK encR 2 w b' 0 d := by
  intro j hj
  rw [size_flatK, hds] at hj
  refine ⟨?_, by simp [World.frozen?, hh]⟩
  rw [hfl j hj]
  have hjc : j < c.size := by omega
  simp [World.cell?, hh, hjc]
 have eg : ∀ args w, (callFunc 173 args).run Tryz.prog w = .ok (.enter 173 args) w := enters_of Tryz.func173 (by kernel_rfl) rfl
 have hcon := AnyQ.slices_SortFunc xh1 2 Tryz.isAgg195 Tryz.sizeOf195 encR xb1 xb2 cmpR xkt 173 #[] b' 0 cap d w eg (fun _ _ _ _ x y => xb0 x y _) hH hblk (by omega)
 change Calls Tryz.prog 172 _ _ _ at hcon
 rw [hds] at hcon
 refine hcon.mono ?_
 rintro e w' ⟨rfl, d', m, os, hperm, hsort, hw'⟩
 obtain ⟨hps, _, hpl⟩ := hperm
 rw [hds] at hps
 have hp2 : d'.toList.Perm (P.map (·.1)) := by
  have e1 : d'.extract 0 n = d' := by rw [← hps]; simp
  have e2 : d.extract 0 n = d := by rw [← hds]; simp
  rw [e1, e2] at hpl
  rw [hdd] at hpl
  simpa using hpl
 obtain ⟨Q, q1, q2⟩ := q62 (fun z : RowE × En => z.1) hp2 rfl
 have hQl : Q.length = n := by rw [q1.length_eq]; simp [P]
 have hesl : (Q.map (·.2)).Perm l := by
  have := q1.map (fun z : RowE × En => z.2)
  rwa [hPs] at this
 have hQ : ∀ (i : Nat) (z : RowE × En), Q[i]? = some z → d'[i]! = z.1 ∧ z.1.1 = z.2.1 ∧ RV g w z.1.2.1 (.sl 1 (qa z.2.2)) := by
  intro i z hz
  have h1 := congrArg (fun l => l[i]?) q2
  simp only [List.getElem?_map, hz, Option.map_some, Array.getElem?_toList] at h1
  have hi : i < d'.size := by rw [hps, ← hQl]; exact (List.getElem?_eq_some_iff.1 hz).1
  refine ⟨?_, hPR z (q1.mem_iff.1 (List.mem_of_getElem? hz))⟩
  rw [getElem!_pos d' i hi]
  rw [Array.getElem?_eq_getElem hi] at h1
  simpa using h1.symm
 have hsorted : (Q.map (·.2)).Pairwise fun a b => cmpB a.1 b.1 ≤ 0 := by
  rw [List.pairwise_iff_getElem]
  intro i j hi hj hij
  simp only [List.length_map] at hi hj
  have zi := hQ i _ (List.getElem?_eq_getElem hi)
  have zj := hQ j _ (List.getElem?_eq_getElem hj)
  have hs := hsort i j (Nat.zero_le _) hij (by omega)
  rw [zi.1, zj.1] at hs
  have hs2 : ¬ cmpB Q[j].1.1 Q[i].1.1 < 0 := of_decide_eq_false hs
  rw [zi.2.1, zj.2.1] at hs2
  simp only [List.getElem_map]
  exact qcd.1 hs2
 have hes : Q.map (·.2) = qc8 l := by
  have hn2 : ((Q.map (·.2)).map (·.1)).Nodup := (hesl.map (fun x : En => x.1)).nodup_iff.2 hn
  exact qf5 (hesl.trans (jt l).symm) hn2 hsorted (qb2 l)
 have hwh : w'.heap = (w.heap.modify b' (onCells (putCells (fun v : Value => v) 0 (flatK encR 2 d')))) ++ os := by subst hw'; rfl
 have hother : ∀ k, k ≠ b' → k < w.heap.size → w'.heap[k]? = w.heap[k]? := by
  intro k hk hkl
  rw [hwh, Array.getElem?_append, if_pos (by simpa using hkl), Array.getElem?_modify, if_neg (Ne.symm hk)]
 have hself : w'.heap[b']? = some (.cells (putCells (fun v : Value => v) 0 (flatK encR 2 d') c) et (0, 0)) := by
  rw [hwh, Array.getElem?_append, if_pos (by simpa using hblk), Array.getElem?_modify, if_pos rfl, hh]
  rfl
 have hsize : w.heap.size ≤ w'.heap.size := by
  subst hw'
  simp [sortWorldK, grow, putRowK, putRow, mapBlock, Sort.ahead]
 have htop : w'.os = w.os ∧ w'.tape = w.tape ∧ w'.output = w.output := by subst hw'; exact ⟨rfl, rfl, rfl⟩
 have hne : ∀ k r, g k = r → (∀ i, r ≠ .obj i) → k ≠ b' := fun k r h hr he => by rw [he, hg] at h; exact hr 0 h.symm
 have hG : G g w g w' := by
  refine ⟨htop.1, htop.2.1, htop.2.2, hsize, fun k hk hgk => ⟨hother k (hne k _ hgk (by simp)) hk, hgk⟩, fun k r hk hgk => ⟨hother k (hne k _ hgk (by simp)) hk, hgk⟩,
   fun k r t hk hgk => ⟨r, some t, hgk, Nat.le_refl _, fun i u _ hu => by rw [jb (hother k (hne k _ hgk (by simp)) hk)]; exact hu⟩, fun k id hk hgk => ⟨hgk, ?_⟩⟩
  by_cases hkb : k = b'
  ·subst hkb
   rw [jr hh, jr hself]
   simp [putCells]
  ·exact Nat.le_of_eq (zc (hother k hkb hk)).symm
 refine ⟨_, g, [], rfl, hG, hd.of hG fun k hk => hd.1 k (by omega), by simp [ASlot.toks], ⟨[], rfl, rfl, fun i u s hu => by simp at hu⟩, ⟨fun oid o hid hno => ?_, ho.inj, fun b oid hb => ?_⟩⟩
 ·match oid, hid with
  | 0, hid =>
   simp at hid
   subst hid
   have hle := (jt l).length_eq
   refine .inl ⟨b', hg, _, et, hself, by simp [putCells, qf4, hle]; omega, fun i s hi => ?_⟩
   rw [List.getElem?_map, Option.map_eq_some_iff] at hi
   obtain ⟨x, hx, rfl⟩ := hi
   have hil : i < n * 2 := by
    have := (List.getElem?_eq_some_iff.1 hx).1
    rw [qf4, hle, hln] at this
    exact this
   have hQi : i / 2 < Q.length := by omega
   obtain ⟨z1, z2, z3⟩ := hQ (i / 2) _ (List.getElem?_eq_getElem hQi)
   have hz : (qc8 l)[i / 2]? = some Q[i / 2].2 := by rw [← hes, List.getElem?_map, List.getElem?_eq_getElem hQi]; rfl
   obtain ⟨k1, k2⟩ := qpz _ _ _ hz
   have hcv : (putCells (fun v : Value => v) 0 (flatK encR 2 d') c)[i]? = some ((encR Q[i / 2].1)[i % 2]!) := by
    have hic : i < c.size := by omega
    simp only [putCells, Array.getElem?_mapIdx, Array.getElem?_eq_getElem hic, Option.map_some, size_flatK, hps, Nat.zero_le, true_and, Nat.zero_add, hil, if_true, Nat.sub_zero]
    rw [get_flatK encR 2 d' i (by rw [hps]; exact hil), z1]
   rcases Nat.mod_two_eq_zero_or_one i with hp | hp
   ·have e1 : 2 * (i / 2) = i := by omega
    rw [e1] at k1
    rw [k1] at hx; cases hx
    rw [hp] at hcv
    have hcs : (encR Q[i / 2].1)[0]! = .string ⟨Q[i / 2].2.1.toArray⟩ := by rw [← z2]; rfl
    rw [hcs] at hcv
    exact ⟨_, hcv, rfl, .str _⟩
   ·have e1 : 2 * (i / 2) + 1 = i := by omega
    rw [e1] at k2
    rw [k2] at hx; cases hx
    rw [hp] at hcv
    exact ⟨_, hcv, Q[i / 2].1.2.2, z3.mono (hG.rowsKept hd) (fun b id hb => hG.obj b id (hd.lt_obj hb) hb)⟩
  | i + 1, hid => simp at hid
 ·obtain ⟨o, h1, h2⟩ := ho.ids b oid hb
  match oid, h1 with
  | 0, h1 => exact ⟨_, rfl, by simp⟩
  | i + 1, h1 => simp at h1
end Go.Proofs.YtkcdbcbpbolgkaaGreatDoor
namespace Go.Proofs.YtkcdbcbpbolgkaaGreatDoor
open Go.Abs
set_option linter.unusedSimpArgs false
set_option linter.unusedVariables false
attribute [go_sem] yc
def pre (p k : List UInt8) : Bool := decide (p.length ≤ k.length) && k.take p.length == p
noncomputable section
set_option maxRecDepth 100000
set_option linter.defProp false
def d236 := cut Tryz.prog Tryz.f236 news
@[go_sem] def E236 := qm d236
def F236 := fnC d236 follows Tryz.func236
def d171 := cut Tryz.prog Tryz.f171 news
@[go_sem] def E171 := qm d171
def F171 := fnC d171 follows Tryz.func171
end
theorem qea (k p : List UInt8) : qg Tryz.prog 236 [.d (.str k), .d (.str p)] [] (.d (.bool (pre p k))) [] := by
 refine F236.go ?_
 by_cases h : p.length ≤ k.length
 ·have hd : decide ((k.length : Int) ≥ (p.length : Int)) = true := by simpa using h
  have hd2 : decide (p.length ≤ k.length) = true := by simpa using h
  try (refine ev3 @pre.eq_1 @hd @hd2 ?_; try exact True.intro)
  (repeat (with_reducible refine ob ?_))
  try (refine ev2 @hd @Nat.sub_zero ?_; try exact True.intro)
 ·have hd : decide ((k.length : Int) ≥ (p.length : Int)) = false := by simpa using h
  have hd2 : decide (p.length ≤ k.length) = false := by simpa using h
  try (refine ev3 @pre.eq_1 @hd @hd2 ?_; try exact True.intro)
  (repeat (with_reducible refine ob ?_))
  try (refine ev1 @hd ?_; try exact True.intro)
theorem qko (k p : List UInt8) : qg Tryz.prog 171 [.d (.str k), .d (.str p)] [] (.d (.bool (pre p k))) [] := by
 refine F171.go ?_
 try (refine ev ?_; try exact True.intro)
 (repeat (with_reducible refine ob ?_)); first | refine cl F236 (qea k p) ?_ | refine clF F236 (qea k p) (fun _ => by (refine ev2 @qh.eq_1 @qs.eq_1 ?_; try exact True.intro)) ?_
 try (refine ev ?_; try exact True.intro)
noncomputable section
set_option maxRecDepth 100000
set_option linter.defProp false
def d92u := cut Tryz.prog Tryz.f92 news [29] [10] true
@[go_sem] def E92u := qm d92u
def F92u := fnC d92u follows Tryz.func92
def d172 := cut Tryz.prog Tryz.f172 news
@[go_sem] def E172 := qm d172
def F172 := fnC d172 follows Tryz.func172
end
theorem qyl {α β : Type} {f : α → β} : ∀ {l : List α}, (l.map f).Nodup → ∀ {x y : α}, x ∈ l → y ∈ l → f x = f y → x = y
 | [], _, x, y, hx, _, _ => by cases hx
 | a :: l, hn, x, y, hx, hy, h => by
  simp only [List.map_cons, List.nodup_cons, List.mem_map, not_exists, not_and] at hn
  rcases List.mem_cons.1 hx with rfl | hx'
  ·rcases List.mem_cons.1 hy with rfl | hy'
   ·rfl
   ·exact absurd h.symm (hn.1 y hy')
  ·rcases List.mem_cons.1 hy with rfl | hy'
   ·exact absurd h (hn.1 x hx')
   ·exact qyl hn.2 hx' hy' h
theorem qac {α β : Type} (f : α → β) : ∀ {l : List α}, (l.map f).Nodup → l.Nodup
 | [], _ => List.nodup_nil
 | a :: l, hn => by
  simp only [List.map_cons, List.nodup_cons, List.mem_map, not_exists, not_and] at hn ⊢
  exact ⟨fun h => hn.1 a h rfl, qac f hn.2⟩
theorem q0k {α : Type} (f : α → Nat) : ∀ {l : List α}, (l.map f).Nodup → ∀ {x : α}, x ∈ l → (l.find? fun y => f y == f x) = some x
 | [], _, x, hx => by cases hx
 | a :: l, hn, x, hx => by
  rw [List.find?_cons]
  by_cases h : f a = f x
  ·have := qyl hn (List.mem_cons_self ..) hx h
   subst this
   simp
  ·rw [beq_false_of_ne h]
   rcases List.mem_cons.1 hx with rfl | hx'
   ·exact absurd rfl h
   ·exact q0k f (by simp only [List.map_cons, List.nodup_cons] at hn; exact hn.2) hx'
theorem q63 {α : Type} [DecidableEq α] : ∀ {a b : List α}, a.Nodup → (∀ x ∈ a, x ∈ b) → a.length ≤ b.length
 | [], _, _, _ => Nat.zero_le _
 | x :: a, b, h, hs => by
  have hx := hs x (List.mem_cons_self ..)
  have h' := List.nodup_cons.1 h
  have := q63 (a := a) (b := b.erase x) h'.2 fun y hy => (List.mem_erase_of_ne (by rintro rfl; exact h'.1 hy)).2 (hs y (List.mem_cons_of_mem _ hy))
  rw [List.length_erase_of_mem hx] at this
  have := List.length_pos_of_mem hx
  simp only [List.length_cons]; omega
theorem q3l (l : List En) : (l.map qs).flatten = qdo l := rfl
theorem qym (l : List En) : (qdo l).all D.isCell = true := by induction l <;> simp_all [qdo, qs, D.isCell]
attribute [go_sem] q3l qve qym
structure Cont.Ok (m : Cont) : Prop where
 num : (m.l.map (·.1)).Nodup
 lt : ∀ x ∈ m.l, x.1 < m.c
 key : (m.l.map (·.2.1)).Nodup
def enOf (x : KV) : En := (x.2.1, x.2.2)
def preL (p : List UInt8) (l : List KV) : List En := (l.filter fun x => pre p x.2.1).map enOf
def yi (m : Cont) (p : List UInt8) : List En := qc8 (preL p m.l)
theorem qvf {p : List UInt8} {l : List KV} (h : (l.map (·.2.1)).Nodup) : ((preL p l).map (·.1)).Nodup := by
 unfold preL
 rw [List.map_map]
 exact List.Nodup.sublist (List.Sublist.map _ List.filter_sublist) h
theorem q64 {a b : List En} (h : a.Perm b) (hn : (a.map (·.1)).Nodup) : qc8 a = qc8 b := by
 have h1 := jt a
 have h2 := jt b
 refine qf5 (h1.trans (h.trans h2.symm)) ((h1.map (fun x : En => x.1)).nodup_iff.2 hn) (qb2 a) (qb2 b)
def q65 (s : Sto) (p : List UInt8) (i : { i : List KV // (i.map (·.1)).Nodup ∧ ∀ x ∈ i, x ∈ s.m.l }) : St :=
 ⟨[(1, true, .d (.str p)), (5, true, .uni 0 2 ((preL p i.val).map qs)), (14, true, .d (.ptr 2 0))], [stoO s 1, mapO s.m, .iter (.d (.map 1)) s.m.c (i.val.map (·.1)) s.m.c], [0], 1⟩
set_option maxRecDepth 10000 in
theorem q66 (s : Sto) (p : List UInt8) (hm : s.m.Ok) (hl : s.m.l.length ≤ 1000) (hv : ∀ x ∈ s.m.l, x.2.2.length ≤ 1000000) :
  qg Tryz.prog 92 [.d (.ptr 0 0), .d (.str p)] [stoO s 1, mapO s.m] (.d (.sl 2 ((yi s.m p).map qs))) [stoO s 1, mapO s.m] := by
 refine F92u.go ?_
 try (refine ev2 @stoO.eq_1 @mapO.eq_1 ?_; try exact True.intro)
 (repeat (with_reducible refine ob ?_)); refine no_ ?_
 try (refine ev ?_; try exact True.intro)
 refine qk (q65 s p) (fun i => s.m.l.length - i.val.length) ⟨[], by simp, by simp⟩ ?_ (fun i => ?_)
 ·try (refine ev6 @q65.eq_1 @stoO.eq_1 @mapO.eq_1 @preL.eq_1 @List.filter_nil.{0} @List.map_nil.{0,0} ?_; try exact True.intro)
 obtain ⟨i, hi1, hi2⟩ := i
 try (refine ev3 @q65.eq_1 @stoO.eq_1 @mapO.eq_1 ?_; try exact True.intro)
 have hleft : qdy (s.m.l.map qcx) (i.map (·.1)) = (s.m.l.filter fun x => !(i.map (·.1)).contains x.1).map qcx := by
  unfold qdy
  rw [List.filter_map]; rfl
 have hone : ∀ x ∈ s.m.l, ∀ y ∈ s.m.l, x.1 = y.1 → x = y := fun x hx y hy h => qyl hm.num hx hy h
 refine xam (last := s.m.c) ⟨rfl, rfl, by intro e he; obtain ⟨x, hx, rfl⟩ := List.mem_map.1 he; exact hm.lt x hx, Nat.le_refl _⟩ (fun hl0 => ?_) (fun e he => ?_)
 ·
  rw [hleft, List.map_eq_nil_iff, List.filter_eq_nil_iff] at hl0
  have hall : ∀ x ∈ s.m.l, x ∈ i := by
   intro x hx
   have := hl0 x hx
   simp only [List.contains_eq_mem, decide_eq_true_eq, Bool.not_eq_true, Bool.not_eq_false', Bool.not_not] at this
   simp at this
   obtain ⟨a, b, hab⟩ := this
   have := hone x hx _ (hi2 _ hab) rfl
   rw [this]; exact hab
  have hperm : i.Perm s.m.l := by
   refine (List.perm_ext_iff_of_nodup (qac _ hi1) (qac _ hm.num)).2 fun x => ⟨hi2 x, hall x⟩
  have hpp : (preL p i).Perm (preL p s.m.l) := (hperm.filter _).map _
  have hpn : ((preL p i).map (·.1)).Nodup := by
   refine (hpp.map (fun x : En => x.1)).nodup_iff.2 ?_
   exact qvf hm.key
  have hsame : qc8 (preL p i) = yi s.m p := q64 hpp hpn
  have hlen : (preL p i).length ≤ 1000 := by
   have h1 := hpp.length_eq
   have h2 : (preL p s.m.l).length ≤ s.m.l.length := by simp only [preL, List.length_map]; exact List.length_filter_le _ _
   omega
  try (refine ev1 @qmg.eq_1 ?_; try exact True.intro)
  (repeat (with_reducible refine ob ?_)); refine no_ ?_
  try (refine ev ?_; try exact True.intro)
  refine qkk (.fr 5) 0 2 ((preL p i).map qs) ?_
  refine pu ?_
  try (refine ev ?_; try exact True.intro)
  refine clO [3] F172 (xfr (preL p i) hpn (by omega)) ?_
  try (refine ev ?_; try exact True.intro)
  have hsl : (preL p i).length = (qc8 (preL p i)).length := (jt _).length_eq.symm
  rw [hsl]
  refine qfb 3 2 ((qc8 (preL p i)).map qs) ?_ (hc := ?_) (hcc := ?_) (hes := ?_) (hok := D.okWR_noPtr (qcq _))
  ·refine pu ?_
   try (refine ev1 @hsame ?_; try exact True.intro)
  ·try (refine ev ?_; try exact True.intro)
  ·try (refine ev ?_; try exact True.intro)
  ·intro r hr
   obtain ⟨x, _, rfl⟩ := List.mem_map.1 hr
   rfl
 ·rw [hleft] at he
  obtain ⟨x, hx, rfl⟩ := List.mem_map.1 he
  rw [List.mem_filter] at hx
  obtain ⟨hx1, hx2⟩ := hx
  have hx3 : x.1 ∉ i.map (·.1) := by simpa using hx2
  have hnext : ((i ++ [x]).map (·.1)).Nodup ∧ ∀ y ∈ i ++ [x], y ∈ s.m.l := by
   refine ⟨by rw [List.map_append]; exact List.nodup_append.2 ⟨hi1, by simp, fun a ha b hb h => by simp at hb; subst hb; subst h; exact hx3 ha⟩, fun y hy => ?_⟩
   rcases List.mem_append.1 hy with h | h
   ·exact hi2 y h
   ·simp at h; subst h; exact hx1
  have hil : i.length < s.m.l.length := by
   have := q63 (qac _ hnext.1) hnext.2
   simp at this; omega
  have hpl : (preL p i).length ≤ i.length := by simp only [preL, List.length_map]; exact List.length_filter_le _ _
  try (refine ev1 @entV.eq_1 ?_; try exact True.intro)
  (repeat (with_reducible refine ob ?_)); refine qde ?_
  try (refine ev ?_; try exact True.intro)
  refine q5y (e := qcx x) (mid := 1) (since := s.m.c) (seen := i.map (·.1) ++ [x.1]) (clock := s.m.c) (es := s.m.l.map qcx) ⟨rfl, rfl, by simp [qcx], ?_⟩ ?_
  ·rw [List.find?_map]
   have h1 : s.m.l.find? ((fun e : Nat × D × D => e.1 == (qcx x).1) ∘ qcx) = some x := q0k (fun y : KV => y.1) hm.num hx1
   rw [h1]; rfl
  try (refine ev1 @qcx.eq_1 ?_; try exact True.intro)
  (repeat (with_reducible refine ob ?_)); first | refine cl F171 (qko x.2.1 p) ?_ | refine clF F171 (qko x.2.1 p) (fun _ => by (refine ev2 @qh.eq_1 @qs.eq_1 ?_; try exact True.intro)) ?_
  try (refine ev ?_; try exact True.intro)
  (repeat (with_reducible refine ob ?_)); refine xk _ (fun h => ?_) (fun h => ?_)
  ·try (refine ev ?_; try exact True.intro)
   (repeat (with_reducible refine ob ?_)); first | refine cl F127 (wo x.2.2 (by have := hv x hx1; omega)) ?_ | refine clF F127 (wo x.2.2 (by have := hv x hx1; omega)) (fun _ => by (refine ev2 @qh.eq_1 @qs.eq_1 ?_; try exact True.intro)) ?_
   try (refine ev ?_; try exact True.intro)
   refine ⟨by omega, ?_⟩
   have hpx : preL p (i ++ [x]) = preL p i ++ [enOf x] := by simp [preL, h]
   refine ⟨⟨i ++ [x], hnext⟩, ?_, by simp only [List.length_append, List.length_singleton]; omega⟩
   try (refine ev7 @q65.eq_1 @stoO.eq_1 @mapO.eq_1 @hpx @List.map_append.{0,0} @qs.eq_1 @enOf.eq_1 ?_; try exact True.intro)
  ·have hpx : preL p (i ++ [x]) = preL p i := by simp [preL, h]
   try (refine ev ?_; try exact True.intro)
   refine ⟨⟨i ++ [x], hnext⟩, ?_, by simp only [List.length_append, List.length_singleton]; omega⟩
   try (refine ev7 @q65.eq_1 @stoO.eq_1 @mapO.eq_1 @hpx @List.map_append.{0,0} @qs.eq_1 @enOf.eq_1 ?_; try exact True.intro)
end Go.Proofs.YtkcdbcbpbolgkaaGreatDoor
namespace Go.Proofs.YtkcdbcbpbolgkaaGreatDoor
open Go.Abs
set_option linter.unusedSimpArgs false
set_option linter.unusedVariables false
theorem qad {k : List UInt8} {x : KV} : zb k x = true ↔ k = x.2.1 := by simp [zb]
theorem qnb {k v : List UInt8} : ∀ {l : List KV} {j : Nat}, l.findIdx? (zb k) = some j → ∀ k', (l.modify j fun e => (e.1, k, v)).find? (zb k') = if k' = k then some ((l[j]?.getD (0, [], [])).1, k, v) else l.find? (zb k')
 | [], j, h, k' => by simp at h
 | a :: l, j, h, k' => by
  rw [List.findIdx?_cons] at h
  by_cases ha : zb k a = true
  ·rw [if_pos ha] at h
   cases h
   simp only [List.modify_zero_cons, List.find?_cons, List.getElem?_cons_zero, Option.getD_some]
   by_cases hk : k' = k
   ·subst hk
    have : zb k' (a.1, k', v) = true := qad.2 rfl
    rw [this, if_pos rfl]
   ·have h1 : zb k' (a.1, k, v) = false := by simpa [zb] using hk
    have h2 : zb k' a = false := by rw [qad] at ha; simp [zb, ← ha, hk]
    rw [h1, h2, if_neg hk]
  ·rw [if_neg (by simpa using ha)] at h
   obtain ⟨i, hi, rfl⟩ := Option.map_eq_some_iff.1 h
   simp only [List.modify_succ_cons, List.find?_cons, List.getElem?_cons_succ]
   have ih := qnb (v := v) hi k'
   by_cases hk : k' = k
   ·subst hk
    have : zb k' a = false := by simpa using ha
    rw [this]
    exact ih
   ·cases h2 : zb k' a with
    | true => rw [if_neg hk]
    | false => rw [ih]
theorem qvg {k : List UInt8} {l : List KV} (h : l.findIdx? (zb k) = none) : l.find? (zb k) = none := by
 rw [List.findIdx?_eq_none_iff] at h
 exact List.find?_eq_none.2 fun x hx => by rw [h x hx]; simp
theorem q0l (k v : List UInt8) (m : Cont) (k' : List UInt8) : mGet k' (mPut k v m) = if k' = k then some v else mGet k' m := by
 unfold mGet mPut
 cases h : m.l.findIdx? (zb k) with
 | some j =>
  simp only [qnb h k']
  split <;> rfl
 | none =>
  simp only [List.find?_append]
  by_cases hk : k' = k
  ·subst hk
   rw [qvg h, if_pos rfl]
   simp [zb]
  ·rw [if_neg hk]
   have : [(m.c, k, v)].find? (zb k') = none := by simp [zb, hk]
   rw [this, Option.or_none]
theorem qp0 {k v : List UInt8} : ∀ {l : List KV} {j : Nat}, l.findIdx? (zb k) = some j → (l.modify j fun e => (e.1, k, v)).map (·.2.1) = l.map (·.2.1) ∧ (l.modify j fun e => (e.1, k, v)).map (·.1) = l.map (·.1)
 | [], j, h => by simp at h
 | a :: l, j, h => by
  rw [List.findIdx?_cons] at h
  by_cases ha : zb k a = true
  ·rw [if_pos ha] at h
   cases h
   rw [qad] at ha
   simp only [List.modify_zero_cons, List.map_cons, ha, and_self]
  ·rw [if_neg (by simpa using ha)] at h
   obtain ⟨i, hi, rfl⟩ := Option.map_eq_some_iff.1 h
   obtain ⟨h1, h2⟩ := qp0 (v := v) hi
   simp only [List.modify_succ_cons, List.map_cons, h1, h2, and_self]
theorem qp1 {α : Type} {l : List α} {x : α} (h : l.Nodup) (hx : x ∉ l) : (l ++ [x]).Nodup :=
 List.nodup_append.2 ⟨h, by simp, fun a ha b hb e => by simp at hb; subst hb; subst e; exact hx ha⟩
theorem qnc {m : Cont} (h : m.Ok) (k v : List UInt8) : (mPut k v m).Ok := by
 unfold mPut
 cases hf : m.l.findIdx? (zb k) with
 | some j =>
  obtain ⟨h1, h2⟩ := qp0 (v := v) hf
  refine ⟨by simpa only [h2] using h.num, fun x hx => ?_, by simpa only [h1] using h.key⟩
  have : x.1 ∈ (m.l.modify j fun e => (e.1, k, v)).map (·.1) := List.mem_map_of_mem hx
  rw [h2] at this
  obtain ⟨y, hy, he⟩ := List.mem_map.1 this
  rw [← he]; exact h.lt y hy
 | none =>
  rw [List.findIdx?_eq_none_iff] at hf
  refine ⟨?_, fun x hx => ?_, ?_⟩
  ·rw [List.map_append]
   refine qp1 h.num fun hm => ?_
   obtain ⟨y, hy, he⟩ := List.mem_map.1 hm
   have := h.lt y hy
   simp only at he
   omega
  ·simp only
   rcases List.mem_append.1 hx with hx | hx
   ·have := h.lt x hx; omega
   ·simp at hx; subst hx; simp
  ·rw [List.map_append]
   refine qp1 h.key fun hm => ?_
   obtain ⟨y, hy, he⟩ := List.mem_map.1 hm
   have := hf y hy
   simp [zb, he] at this
theorem qig (k : List UInt8) (m : Cont) : (mDel k m).l.Sublist m.l := by
 unfold mDel
 split
 ·exact List.eraseIdx_sublist ..
 ·exact List.Sublist.refl _
theorem qnd {m : Cont} (h : m.Ok) (k : List UInt8) : (mDel k m).Ok :=
 ⟨List.Nodup.sublist ((qig k m).map _) h.num, fun x hx => by rw [xd1]; exact h.lt x ((qig k m).subset hx), List.Nodup.sublist ((qig k m).map _) h.key⟩
theorem qp2 {k : List UInt8} : ∀ {l : List KV} {j : Nat}, l.findIdx? (zb k) = some j → (l.map (·.2.1)).Nodup → ∀ k', (l.eraseIdx j).find? (zb k') = if k' = k then none else l.find? (zb k')
 | [], j, h, _, k' => by simp at h
 | a :: l, j, h, hn, k' => by
  rw [List.findIdx?_cons] at h
  simp only [List.map_cons, List.nodup_cons] at hn
  by_cases ha : zb k a = true
  ·rw [if_pos ha] at h
   cases h
   rw [qad] at ha
   simp only [List.eraseIdx_cons_zero, List.find?_cons]
   by_cases hk : k' = k
   ·subst hk
    rw [if_pos rfl]
    refine List.find?_eq_none.2 fun x hx hk => ?_
    rw [qad] at hk
    exact hn.1 (List.mem_map.2 ⟨x, hx, by rw [← ha, ← hk]⟩)
   ·rw [if_neg hk]
    have h2 : zb k' a = false := by simp [zb, ← ha, hk]
    rw [h2]
  ·rw [if_neg (by simpa using ha)] at h
   obtain ⟨i, hi, rfl⟩ := Option.map_eq_some_iff.1 h
   simp only [List.eraseIdx_cons_succ, List.find?_cons]
   have ih := qp2 hi hn.2 k'
   by_cases hk : k' = k
   ·subst hk
    have : zb k' a = false := by simpa using ha
    rw [this, if_pos rfl]
    rw [if_pos rfl] at ih
    exact ih
   ·cases h2 : zb k' a with
    | true => rw [if_neg hk]
    | false => rw [ih]
theorem q0m {m : Cont} (h : m.Ok) (k k' : List UInt8) : mGet k' (mDel k m) = if k' = k then none else mGet k' m := by
 unfold mGet mDel
 cases hf : m.l.findIdx? (zb k) with
 | some j =>
  simp only [qp2 hf h.key k']
  split <;> rfl
 | none =>
  simp only
  split
  ·rename_i hk; subst hk; rw [qvg hf]; rfl
  ·rfl
theorem q0n (k : List UInt8) (m : Cont) : (mDel k m).l.length ≤ m.l.length := (qig k m).length_le
def kvOk (x : KV) : Prop := 1 ≤ x.2.1.length ∧ x.2.1.length ≤ 40 ∧ x.2.2.length ≤ 900
theorem xb4 {k v : List UInt8} {m : Cont} {x : KV} (h : x ∈ (mPut k v m).l) : x ∈ m.l ∨ (x.2.1 = k ∧ x.2.2 = v) := by
 unfold mPut at h
 split at h
 ·rename_i j hj
  simp only at h
  obtain ⟨i, hi⟩ := List.getElem?_of_mem h
  rw [List.getElem?_modify] at hi
  cases hg : m.l[i]? with
  | none => rw [hg] at hi; cases hi
  | some y =>
   rw [hg] at hi
   simp only [Option.map_eq_map, Option.map_some, Option.some.injEq] at hi
   split at hi
   ·subst hi; exact .inr ⟨rfl, rfl⟩
   ·subst hi; exact .inl (List.mem_of_getElem? hg)
 ·rcases List.mem_append.1 h with h | h
  ·exact .inl h
  ·simp at h; subst h; exact .inr ⟨rfl, rfl⟩
structure Cont.Good (m : Cont) : Prop where
 ok : m.Ok
 few : m.l.length ≤ 400
 small : ∀ x ∈ m.l, kvOk x
theorem qeb : ∀ (l : List OpS) {m : Cont}, m.Good → (∀ o ∈ l, jo o = true) → (jp m l).2 = true → (jp m l).1.Good
 | [], m, h, _, _ => h
 | o :: l, m, h, hp, hy => by
  rw [jp] at hy ⊢
  have ho := js.1 (hp o (List.mem_cons_self ..))
  have hp' := fun x hx => hp x (List.mem_cons_of_mem _ hx)
  split at hy
  ·rename_i hd
   rw [if_pos hd]
   exact qeb l ⟨qnd h.ok _, Nat.le_trans (q0n _ _) h.few, fun x hx => h.small x ((qig _ _).subset hx)⟩ hp' hy
  ·rename_i hd
   rw [if_neg hd]
   split at hy
   ·cases hy
   ·rename_i h4
    rw [if_neg h4]
    refine qeb l ⟨qnc h.ok _ _, by omega, fun x hx => ?_⟩ hp' hy
    rcases xb4 hx with hx | ⟨h1, h2⟩
    ·exact h.small x hx
    ·exact ⟨by rw [h1]; exact ho.1, by rw [h1]; exact ho.2.1, by rw [h2]; exact ho.2.2.1⟩
theorem qne (f r : List UInt8) (hr : r.length ≤ 2000) : (vm f r).length ≤ f.length + 70000 := by
 have := qm8 _ r (Nat.le_refl _)
 unfold vm
 rw [qm9 _ _ (fun q hq => (ko _ r (Nat.le_refl _) q hq).2)]
 simp only; omega
structure Sto.Ok (n : Nat) (s : Sto) : Prop where
 good : s.m.Good
 file : s.file.length ≤ n * 70000
theorem qyn (n : Nat) : newS.Ok n := by
 refine ⟨⟨⟨List.nodup_nil, fun x hx => (by cases hx), List.nodup_nil⟩, ?_, fun x hx => (by cases hx)⟩, ?_⟩
 ·simp only [newS, qet, List.length_nil, Nat.zero_le]
 ·simp only [newS, List.length_nil, Nat.zero_le]
theorem Sto.Ok.mono {n m : Nat} {s : Sto} (h : s.Ok n) (hn : n ≤ m) : s.Ok m := ⟨h.good, Nat.le_trans h.file (Nat.mul_le_mul_right _ hn)⟩
theorem qec (s : Sto) (l : List OpS) : ((xh s l).2 ≠ 0 ∧ (xh s l).1 = s) ∨ ((xh s l).2 = 0 ∧ (qo l).2 = 0 ∧ (jp s.m l).2 = true ∧ (xh s l).1 = ⟨vm s.file (qo l).1, s.synced, (jp s.m l).1⟩) := by
 unfold xh
 split
 ·exact .inl ⟨by assumption, rfl⟩
 ·split
  ·exact .inl ⟨by simp, rfl⟩
  ·rename_i h1 h2
   exact .inr ⟨rfl, by simpa using h1, by simpa using h2, rfl⟩
theorem qnf {n : Nat} {s : Sto} (h : s.Ok n) (l : List OpS) : (xh s l).1.Ok (n + 1) := by
 rcases qec s l with ⟨_, he⟩ | ⟨_, h1, h2, he⟩
 ·rw [he]; exact h.mono (Nat.le_succ _)
 ·rw [he]
  refine ⟨qeb l h.good (ku h1).2.1 h2, ?_⟩
  have := qne s.file _ (vn l)
  have := h.file
  simp only; omega
theorem q3m {s : Sto} {l : List OpS} (hl : l.length ≤ 100000) (hf : s.file.length ≤ 100000000) (h : (xh s l).2 = 0) :
  qg Tryz.prog 29 [.d (.ptr 0 0), .d (.sl 3 (l.map qh))] [stoO s 1, mapO s.m] (.d (.int .i64 0)) [stoO (xh s l).1 2, mapO s.m, mapO (xh s l).1.m] := by
 have := qvd s l hl hf
 rw [qid, if_pos h, h] at this
 exact this
theorem q67 {s : Sto} {l : List OpS} (hl : l.length ≤ 100000) (hf : s.file.length ≤ 100000000) (h : (xh s l).2 ≠ 0) :
  qg Tryz.prog 29 [.d (.ptr 0 0), .d (.sl 3 (l.map qh))] [stoO s 1, mapO s.m] (.d (.int .i64 (xh s l).2)) [stoO s 1, mapO s.m, .none] := by
 have := qvd s l hl hf
 rw [qid, if_neg h] at this
 exact this
end Go.Proofs.YtkcdbcbpbolgkaaGreatDoor
namespace Go.Proofs.YtkcdbcbpbolgkaaGreatDoor
open Go.Abs
set_option linter.unusedSimpArgs false
set_option linter.unusedVariables false
theorem qih {α β : Type} (f : α → β) (l : List α) {i : Nat} (h : i < l.length) : (l.take (i + 1)).map f = (l.take i).map f ++ [f l[i]] := by
 rw [List.take_succ_eq_append_getElem h, List.map_append]; rfl
theorem qgm (w : List UInt8) : qag (qa w) = w := by
 induction w with
 | nil => rfl
 | cons c w ih => simp_all [qag, qa]
theorem xfs (w : List UInt8) : (∃ l, qa w = qa l) = True := eq_true ⟨w, rfl⟩
theorem xh3 : (∃ l, ([] : List (List D)) = qa l) = True := eq_true ⟨[], rfl⟩
theorem qr9 : qag [] = [] := rfl
attribute [go_sem] qgm xfs xh3 qr9
noncomputable section
set_option maxRecDepth 100000
set_option linter.defProp false
def d30 := cut Tryz.prog Tryz.f30 news
@[go_sem] def E30 := qm d30
def F30 := fnC d30 follows Tryz.func30
def d24 := cut Tryz.prog Tryz.f24 news
@[go_sem] def E24 := qm d24
def F24 := fnC d24 follows Tryz.func24
end
def SfTo (l : List OpS) (i : { i : Nat // i ≤ l.length }) : St :=
 ⟨[(0, true, .d (.sl 3 (l.map qh))), (3, true, .own 0 3 ((l.take i.val).map qh)), (4, true, .d (.int .i64 (i.val : Nat)))], [], [0], 1⟩
theorem xjw (l : List OpS) (hl : l.length ≤ 100000) (hv : ∀ o ∈ l, o.val.length ≤ 1000000) : qg Tryz.prog 30 [.d (.sl 3 (l.map qh))] [] (.d (.sl 3 (l.map qh))) [] := by
 refine F30.go ?_
 try (refine ev ?_; try exact True.intro)
 refine qk (SfTo l) (fun i => l.length - i.val) ⟨0, Nat.zero_le _⟩ ?_ (fun i => ?_)
 ·try (refine ev2 @SfTo.eq_1 @List.take_zero.{0} ?_; try exact True.intro)
 obtain ⟨i, hi⟩ := i
 try (refine ev1 @SfTo.eq_1 ?_; try exact True.intro)
 (repeat (with_reducible refine ob ?_)); refine xk _ (fun h => ?_) (fun h => ?_)
 ·have hil : i < l.length := by simpa using h
  have hx := hv _ (List.getElem_mem hil)
  try (refine ev2 (qi qh l hil) @qh.eq_1 ?_; try exact True.intro)
  (repeat (with_reducible refine ob ?_))
  refine ⟨⟨i + 1, hil⟩, ?_, by dsimp only; omega⟩
  try (refine ev4 @SfTo.eq_1 (qih qh l hil) @qh.eq_1 (qd (show i < 9223372036854775807 by omega)) ?_; try exact True.intro)
 ·have hil : i = l.length := by
   have : l.length ≤ i := by simpa using h
   omega
  subst hil
  try (refine ev1 @List.take_length.{0} ?_; try exact True.intro)
theorem qng (m : Cont) (p : List UInt8) : (yi m p).length ≤ m.l.length := by
 rw [yi, (jt _).length_eq]
 simp only [preL, List.length_map]
 exact List.length_filter_le _ _
def vSum (l : List OpS) : Nat := (l.map fun o => o.val.length).sum
def sFew (l : List OpS) : Bool := l.all (fun o => decide (o.key.length ≤ 100) && decide (o.val.length ≤ 1000)) && decide (l.length ≤ 30) && decide (vSum l ≤ 3000)
theorem q68 (a b : Int) : IntKind.i64.wrap (IntKind.i64.wrap a + b) = IntKind.i64.wrap (a + b) := by
 simp only [IntKind.wrap, IntKind.bits, IntKind.signed, if_true]
 simp
 omega
theorem q69 (l : List OpS) {i : Nat} (h : i < l.length) : vSum (l.take (i + 1)) = vSum (l.take i) + l[i].val.length := by
 unfold vSum
 rw [List.take_succ_eq_append_getElem h, List.map_append, List.sum_append]; simp
theorem wj {α : Type} {f : α → Bool} {l : List α} {i : Nat} (h : (l.take i).all f = true) (hil : i < l.length) (hf : f l[i] = true) : (l.take (i + 1)).all f = true := by
 rw [List.take_succ_eq_append_getElem hil, List.all_append, h]; simp [hf]
theorem qnh {α : Type} {f : α → Bool} {l : List α} {i : Nat} (hil : i < l.length) (hf : f l[i] = false) : l.all f = false := by
 rw [List.all_eq_false]; exact ⟨l[i], List.getElem_mem hil, by simp [hf]⟩
theorem xft (l : List OpS) : (l.all fun o => decide (o.key.length ≤ 100) && decide (o.val.length ≤ 1000)) = true → vSum l ≤ 1000 * l.length := by
 induction l with
 | nil => intro _; simp [vSum]
 | cons o l ih =>
  intro h
  simp only [List.all_cons, Bool.and_eq_true, decide_eq_true_eq] at h
  have := ih (by simpa using h.2)
  simp only [vSum, List.map_cons, List.sum_cons, List.length_cons] at this ⊢
  omega
def Sfew (l : List OpS) (i : { i : Nat // i ≤ l.length ∧ (l.take i).all (fun o => decide (o.key.length ≤ 100) && decide (o.val.length ≤ 1000)) = true }) : St :=
 ⟨[(0, true, .d (.sl 3 (l.map qh))), (3, true, .d (.int .i64 (IntKind.i64.wrap (vSum (l.take i.val) : Nat)))), (4, true, .d (.int .i64 (i.val : Nat)))], [], [], 1⟩
theorem xd3 (l : List OpS) (hl : l.length ≤ maxLen) : qg Tryz.prog 24 [.d (.sl 3 (l.map qh))] [] (.d (.bool (sFew l))) [] := by
 have hl : l.length ≤ 9223372036854775807 := hl
 refine F24.go ?_
 try (refine ev ?_; try exact True.intro)
 refine qk (Sfew l) (fun i => l.length - i.val) ⟨0, Nat.zero_le _, rfl⟩ ?_ (fun i => ?_)
 ·have w0 : IntKind.i64.wrap 0 = 0 := rfl
  try (refine ev6 @Sfew.eq_1 @List.take_zero.{0} @vSum.eq_1 @List.sum_nil.{0} @Int.ofNat_zero @w0 ?_; try exact True.intro)
 obtain ⟨i, hi, ha⟩ := i
 try (refine ev1 @Sfew.eq_1 ?_; try exact True.intro)
 (repeat (with_reducible refine ob ?_)); refine xk _ (fun h => ?_) (fun h => ?_)
 ·have hil : i < l.length := by simpa using h
  try (refine ev2 (qi qh l hil) @qh.eq_1 ?_; try exact True.intro)
  refine ⟨by omega, fun h => ⟨h, h, by omega⟩, fun h => by rw [h]; rfl, ?_⟩
  have hd1 : decide ((l[i].key.length : Int) > 100) = !decide (l[i].key.length ≤ 100) := by rw [← decide_not]; exact decide_eq_decide.2 (by omega)
  have hd2 : decide ((l[i].val.length : Int) > 1000) = !decide (l[i].val.length ≤ 1000) := by rw [← decide_not]; exact decide_eq_decide.2 (by omega)
  have hd : (decide ((l[i].key.length : Int) > 100) || decide ((l[i].val.length : Int) > 1000)) = !(decide (l[i].key.length ≤ 100) && decide (l[i].val.length ≤ 1000)) := by rw [hd1, hd2, Bool.not_and]
  refine xk _ (fun h => ?_) (fun h => ?_)
  ·rw [hd, Bool.not_eq_true'] at h
   have : sFew l = false := by rw [sFew, qnh hil h]; rfl
   try (refine ev1 @this ?_; try exact True.intro)
  ·rw [hd, Bool.not_eq_false'] at h
   try (refine ev2 (qi qh l hil) @qh.eq_1 ?_; try exact True.intro)
   (repeat (with_reducible refine ob ?_))
   refine ⟨⟨i + 1, hil, wj ha hil h⟩, ?_, by dsimp only; omega⟩
   try (refine ev4 @Sfew.eq_1 (q69 l hil) @q68 (qd (show i < 9223372036854775807 by omega)) ?_; try exact True.intro)
 ·have hil : i = l.length := by
   have : l.length ≤ i := by simpa using h
   omega
  subst hil
  rw [List.take_length] at ha
  have hv := xft l ha
  try (refine ev3 @List.take_length.{0} @sFew.eq_1 @ha ?_; try exact True.intro)
  by_cases h30 : l.length ≤ 30
  ·rw [wrap_i64 (by omega) (by omega)]
   have e1 : decide ((l.length : Int) ≤ 30) = true := by simp; omega
   have e2 : decide (((vSum l : Nat) : Int) ≤ 3000) = decide (vSum l ≤ 3000) := decide_eq_decide.2 (by omega)
   simp only [e1, e2, h30, decide_true, Bool.true_and]
  ·have : decide ((l.length : Int) ≤ 30) = false := by simp; omega
   rw [this]
   simp [h30]
structure StepS where
 kind : Int
 ops : List OpS
 deriving DecidableEq, Inhabited
def xn (x : StepS) : List D := [.int .i64 x.kind, .sl 3 (x.ops.map qh)]
theorem qii (o : StepS) : D.noPtrL (xn o) = true := by simp only [xn, D.noPtrL, D.noPtr, qar, Bool.and_self]
theorem qyo (l : List StepS) : D.noPtrR (l.map xn) = true := xp qii l
attribute [go_sem] qii qyo
theorem xb5 {l : List OpS} (h : sFew l = true) : l.length ≤ 30 ∧ ∀ o ∈ l, o.key.length ≤ 100 ∧ o.val.length ≤ 1000 := by
 unfold sFew at h
 simp only [Bool.and_eq_true, List.all_eq_true, decide_eq_true_eq] at h
 exact ⟨h.1.2, fun o ho => h.1.1 o ho⟩
noncomputable section
set_option maxRecDepth 100000
set_option linter.defProp false
end
def ops1 : List OpS := [⟨[97], false, [1]⟩, ⟨[98], false, [2]⟩]
def ops2 : List OpS := [⟨[97], true, []⟩]
def st1 : Sto := (xh newS ops1).1
def st2 : Sto := (xh st1 ops2).1
theorem c1 : (xh newS ops1).2 = 0 := by decide +kernel
theorem c2 : (xh st1 ops2).2 = 0 := by decide +kernel
theorem c3 : yi st2.m [] = [([98], [2])] := by decide +kernel
theorem q7a : qg Tryz.prog 28 [] [] (.d (.ptr 1 0)) [mapO newS.m, stoO newS 0] := xhy
end Go.Proofs.YtkcdbcbpbolgkaaGreatDoor
namespace Go.Proofs.YtkcdbcbpbolgkaaGreatDoor
open Go.Abs
set_option linter.unusedSimpArgs false
theorem qij {α : Type} {f : α → Bool} {l : List α} {i : Nat} (h : (l.take i).all f = true) (hi : l.length ≤ i) : l.all f = true := by
 rwa [List.take_of_length_le hi] at h
noncomputable section
set_option maxRecDepth 100000
set_option linter.defProp false
def d201 := cut Tryz.prog Tryz.f201 news
@[go_sem] def E201 := qm d201
def d202 := cut Tryz.prog Tryz.f202 news
@[go_sem] def E202 := qm d202
def d264 := cut Tryz.prog Tryz.f264 news
@[go_sem] def E264 := qm d264
def d203 := cut Tryz.prog Tryz.f203 news
@[go_sem] def E203 := qm d203
def d114 := cut Tryz.prog Tryz.f114 news
@[go_sem] def E114 := qm d114
end
end Go.Proofs.YtkcdbcbpbolgkaaGreatDoor
namespace Go.Proofs.YtkcdbcbpbolgkaaGreatDoor
open Go.Abs
set_option linter.unusedSimpArgs false
noncomputable section
set_option maxRecDepth 100000
set_option linter.defProp false
def d209 := cut Tryz.prog Tryz.f209 news
@[go_sem] def E209 := qm d209
def d210 := cut Tryz.prog Tryz.f210 news
@[go_sem] def E210 := qm d210
def d124 := cut Tryz.prog Tryz.f124 news
@[go_sem] def E124 := qm d124
def d111 := cut Tryz.prog Tryz.f111 news
@[go_sem] def E111 := qm d111
def d36 := cut Tryz.prog Tryz.f36 news
@[go_sem] def E36 := qm d36
end
theorem qbh {α : Type} [DecidableEq α] {l m : List α} {i : Nat} (h : l.take i = m.take i) (hi : l.length ≤ i) (hlm : l.length = m.length) : decide (l = m) = true := by
 rw [List.take_of_length_le hi, List.take_of_length_le (by omega)] at h
 simp [h]
end Go.Proofs.YtkcdbcbpbolgkaaGreatDoor
namespace Go.Proofs.YtkcdbcbpbolgkaaGreatDoor
open Go.Abs
set_option linter.unusedSimpArgs false
structure Ue where
 sess : Int
 phase : Int
 moved : List Bool
 opened : List Bool
 deriving DecidableEq, Inhabited
def encB (b : Bool) : List D := [.bool b]
theorem qp3 (b : Bool) : D.noPtrL (encB b) = true := rfl
theorem wk (l : List Bool) : D.noPtrR (l.map encB) = true := xp qp3 l
def qf (x : Ue) : List D := [.int .i64 x.sess, .int .i64 x.phase, .sl 1 (x.moved.map encB), .sl 1 (x.opened.map encB)]
theorem qg4 (x : Ue) : D.noPtrL (qf x) = true := by simp only [qf, D.noPtrL, D.noPtr, wk, Bool.and_self]
theorem qdq (l : List Ue) : D.noPtrR (l.map qf) = true := xp qg4 l
structure Mg where
 roles : Int
 ents : List Ue
 deriving DecidableEq, Inhabited
def qj (m : Mg) : List D := [.int .i64 m.roles, .sl 4 (m.ents.map qf)]
theorem qys (m : Mg) : D.noPtrL (qj m) = true := by simp only [qj, D.noPtrL, D.noPtr, qdq, Bool.and_self]
attribute [go_sem] qp3 wk qg4 qdq qys
def Ue.Sm (x : Ue) : Prop := x.moved.length ≤ 1000 ∧ x.opened.length ≤ 1000
def Mg.Sm (m : Mg) : Prop := m.ents.length ≤ 1000 ∧ ∀ x ∈ m.ents, x.Sm
noncomputable section
set_option maxRecDepth 100000
set_option linter.defProp false
def d266 := cut Tryz.prog Tryz.f266 news
@[go_sem] def E266 := qm d266
def F266 := fnC d266 follows Tryz.func266
def d211 := cut Tryz.prog Tryz.f211 news
@[go_sem] def E211 := qm d211
def F211 := fnC d211 follows Tryz.func211
def d134 := cut Tryz.prog Tryz.f134 news
@[go_sem] def E134 := qm d134
def F134 := fnC d134 follows Tryz.func134
def d69 := cut Tryz.prog Tryz.f69 news
@[go_sem] def E69 := qm d69
def F69 := fnC d69 follows Tryz.func69
end
def hasB (v : Bool) (l : List Bool) : Bool := l.any fun b => v == b
def q0u (l : List Bool) (v : Bool) (i : { i : Nat // (l.take i).any (fun b => v == b) = false }) : St :=
 ⟨[(0, true, .d (.sl 1 (l.map encB))), (1, true, .d (.bool v)), (7, true, .d (.int .i64 l.length)), (8, true, .d (.int .i64 (i.val : Nat)))], [], [], 1⟩
theorem qp4 (l : List Bool) (v : Bool) (hl : l.length ≤ 1000) : qg Tryz.prog 266 [.d (.sl 1 (l.map encB)), .d (.bool v)] [] (.d (.int .i64 (idx (fun b => v == b) l))) [] := by
 refine F266.go ?_
 try (refine ev ?_; try exact True.intro)
 refine qk (q0u l v) (fun i => l.length - i.val) ⟨0, rfl⟩ ?_ (fun i => ?_)
 ·try (refine ev1 @q0u.eq_1 ?_; try exact True.intro)
 obtain ⟨i, hi⟩ := i
 try (refine ev1 @q0u.eq_1 ?_; try exact True.intro)
 (repeat (with_reducible refine ob ?_)); refine xk _ (fun h => ?_) (fun h => ?_)
 ·have hil : i < l.length := by simpa using h
  (refine ev2 (qi encB l hil) @encB.eq_1 ?_; try exact True.intro)
  (repeat (with_reducible refine ob ?_))
  refine xk _ (fun h2 => ?_) (fun h2 => ?_)
  ·try (refine ev1 (qc6 (f := fun b => v == b) hi hil h2) ?_; try exact True.intro)
  ·try (refine ev ?_; try exact True.intro)
   refine ⟨⟨i + 1, jy hi hil h2⟩, ?_, by dsimp only; omega⟩
   try (refine ev2 @q0u.eq_1 (qd (show i < 9223372036854775807 by omega)) ?_; try exact True.intro)
 ·have hil : l.length ≤ i := by simpa using h
  try (refine ev1 (qc5 hi hil) ?_; try exact True.intro)
theorem yr (l : List Bool) (v : Bool) (hl : l.length ≤ 1000) : qg Tryz.prog 211 [.d (.sl 1 (l.map encB)), .d (.bool v)] [] (.d (.bool (hasB v l))) [] := by
 refine F211.go ?_
 try (refine ev ?_; try exact True.intro)
 (repeat (with_reducible refine ob ?_)); first | refine cl F266 (qp4 l v hl) ?_ | refine clF F266 (qp4 l v hl) (fun _ => by (refine ev2 @qf.eq_1 @qj.eq_1 ?_; try exact True.intro)) ?_
 try (refine ev2 @qpt @hasB.eq_1 ?_; try exact True.intro)
def xz (x : Ue) : Int :=
 if !hasB false x.moved && !hasB false x.opened then 3 else if !hasB false x.moved then 2 else if hasB true x.opened then 0 else 1
theorem qae (x : Ue) (hx : x.Sm) : qg Tryz.prog 134 [.d (.agg (qf x))] [] (.d (.int .i64 (xz x))) [] := by
 refine F134.go ?_
 try (refine ev1 @qf.eq_1 ?_; try exact True.intro)
 (repeat (with_reducible refine ob ?_)); first | refine cl F211 (yr x.moved false hx.1) ?_ | refine clF F211 (yr x.moved false hx.1) (fun _ => by (refine ev2 @qf.eq_1 @qj.eq_1 ?_; try exact True.intro)) ?_
 try (refine ev ?_; try exact True.intro)
 (repeat (with_reducible refine ob ?_)); first | refine cl F211 (yr x.opened false hx.2) ?_ | refine clF F211 (yr x.opened false hx.2) (fun _ => by (refine ev2 @qf.eq_1 @qj.eq_1 ?_; try exact True.intro)) ?_
 try (refine ev ?_; try exact True.intro)
 refine xk _ (fun h1 => ?_) (fun h1 => ?_)
 ·have e : xz x = 3 := by simp_all [xz]
  try (refine ev1 @e ?_; try exact True.intro)
 try (refine ev ?_; try exact True.intro)
 refine xk _ (fun h2 => ?_) (fun h2 => ?_)
 ·have e : xz x = 2 := by simp_all [xz]
  try (refine ev1 @e ?_; try exact True.intro)
 try (refine ev ?_; try exact True.intro)
 (repeat (with_reducible refine ob ?_)); first | refine cl F211 (yr x.opened true hx.2) ?_ | refine clF F211 (yr x.opened true hx.2) (fun _ => by (refine ev2 @qf.eq_1 @qj.eq_1 ?_; try exact True.intro)) ?_
 try (refine ev ?_; try exact True.intro)
 refine xk _ (fun h3 => ?_) (fun h3 => ?_)
 ·have e : xz x = 0 := by simp_all [xz]
  try (refine ev1 @e ?_; try exact True.intro)
 ·have e : xz x = 1 := by simp_all [xz]
  try (refine ev1 @e ?_; try exact True.intro)
theorem w01 : (IntKind.i64.wrap (0 - 1)).toNat = 0 := by decide
def qcr (m : Mg) (i : Nat) : Bool :=
 decide ((m.ents.getD i default).sess < 1) || decide ((m.ents.getD i default).sess > 32) || (decide ((i : Int) > 0) && decide ((m.ents.getD i default).sess ≤ (m.ents.getD (i - 1) default).sess)) ||
 ((m.ents.getD i default).moved.length : Int) != m.roles || ((m.ents.getD i default).opened.length : Int) != m.roles || (m.ents.getD i default).phase == 0 || (m.ents.getD i default).phase != xz (m.ents.getD i default)
def x9 (m : Mg) : Bool := qbq (fun i => !qcr m i) m.ents.length && (decide (m.roles ≥ 1) && decide (m.roles ≤ 6))
theorem en0 (m : Mg) (h : 0 < m.ents.length) : (decide (m.ents[0].sess < 1) || decide (m.ents[0].sess > 32) || (m.ents[0].moved.length : Int) != m.roles || (m.ents[0].opened.length : Int) != m.roles || m.ents[0].phase == 0 || m.ents[0].phase != xz m.ents[0]) = qcr m 0 := by
 simp only [qcr, ja h, Int.ofNat_zero, decide_false, Bool.false_and, Bool.or_false, Int.natCast_zero, show ¬ ((0 : Int) > 0) by omega]
theorem enk (m : Mg) (k : Nat) (h : k + 1 < m.ents.length) (h' : k < m.ents.length) : (decide (m.ents[k+1].sess < 1) || decide (m.ents[k+1].sess > 32) || (decide ((k : Int) + 1 > 0) && decide (m.ents[k+1].sess ≤ m.ents[k].sess)) || (m.ents[k+1].moved.length : Int) != m.roles || (m.ents[k+1].opened.length : Int) != m.roles || m.ents[k+1].phase == 0 || m.ents[k+1].phase != xz m.ents[k+1]) = qcr m (k + 1) := by
 simp only [qcr, ja h, Nat.add_sub_cancel, ja h', Int.natCast_add, Int.cast_ofNat_Int]
def xr (m : Mg) : AObj := .row [.d (.int .i64 m.roles), .d (.sl 4 (m.ents.map qf))]
def qil (m : Mg) (i : { i : Nat // qbq (fun i => !qcr m i) i = true }) : St :=
 ⟨[(1, true, .d (.ptr 0 0)), (6, true, .d (.sl 4 (m.ents.map qf))), (7, true, .d (.int .i64 m.ents.length)), (8, true, .d (.int .i64 (i.val : Nat)))], [xr m], [], 1⟩
set_option maxRecDepth 10000 in
theorem vz (m : Mg) (hm : m.Sm) : qg Tryz.prog 69 [.d (.agg (qj m))] [] (.d (.bool (x9 m))) [] := by
 have hl := hm.1
 refine F69.go ?_
 try (refine ev1 @qj.eq_1 ?_; try exact True.intro)
 refine qk (qil m) (fun i => m.ents.length - i.val) ⟨0, rfl⟩ ?_ (fun i => ?_)
 ·try (refine ev2 @qil.eq_1 @xr.eq_1 ?_; try exact True.intro)
 obtain ⟨i, hi⟩ := i
 try (refine ev2 @qil.eq_1 @xr.eq_1 ?_; try exact True.intro)
 (repeat (with_reducible refine ob ?_)); refine xk _ (fun h => ?_) (fun h => ?_)
 ·have hil : i < m.ents.length := by simpa using h
  have hx := hm.2 _ (List.getElem_mem hil)
  rcases Nat.eq_zero_or_pos i with h0 | h0
  ·subst h0
   (refine ev4 (qi qf m.ents hil) @qf.eq_1 @Int.toNat_zero @w01 ?_; try exact True.intro)
   (repeat (with_reducible refine ob ?_))
   (repeat (with_reducible refine ob ?_)); first | refine cl F134 (qae m.ents[0] hx) ?_ | refine clF F134 (qae m.ents[0] hx) (fun _ => by (refine ev2 @qf.eq_1 @qj.eq_1 ?_; try exact True.intro)) ?_
   try (refine ev ?_; try exact True.intro)
   refine ⟨fun h => by rw [h]; rfl, ?_⟩
   refine qp (qcr m 0) rfl ?_ (fun h2 => ?_) (fun h2 => ?_)
   ·try (refine ev1 (en0 m hil) ?_; try exact True.intro)
   ·have hg : (!qcr m 0) = false := by simp [h2]
    try (refine ev2 @x9.eq_1 (qd7 (g := fun i => !qcr m i) hil hg) ?_; try exact True.intro)
   ·try (refine ev ?_; try exact True.intro)
    refine ⟨⟨1, yq hi (by simp [h2])⟩, ?_, by dsimp only; omega⟩
    try (refine ev3 @qil.eq_1 @xr.eq_1 (show IntKind.i64.wrap 1 = 1 by decide) ?_; try exact True.intro)
  ·obtain ⟨k, rfl⟩ : ∃ k, i = k + 1 := ⟨i - 1, by omega⟩
   have hk : k < m.ents.length := by omega
   have hw : IntKind.i64.wrap (((k : Nat) : Int) + 1 - 1) = ((k : Nat) : Int) := by rw [wrap_i64 (by omega) (by omega)]; omega
   have hw2 : IntKind.i64.wrap (((k : Nat) : Int) + 1 + 1) = ((k : Nat) : Int) + 1 + 1 := by rw [wrap_i64 (by omega) (by omega)]
   (refine ev4 (qi qf m.ents hil) (qi qf m.ents hk) @hw @qf.eq_1 ?_; try exact True.intro)
   (repeat (with_reducible refine ob ?_))
   (repeat (with_reducible refine ob ?_)); first | refine cl F134 (qae m.ents[k+1] hx) ?_ | refine clF F134 (qae m.ents[k+1] hx) (fun _ => by (refine ev2 @qf.eq_1 @qj.eq_1 ?_; try exact True.intro)) ?_
   try (refine ev ?_; try exact True.intro)
   refine ⟨fun h => by rw [h]; rfl, ?_⟩
   refine qp (qcr m (k + 1)) rfl ?_ (fun h2 => ?_) (fun h2 => ?_)
   ·try (refine ev1 (enk m k hil hk) ?_; try exact True.intro)
   ·have hg : (!qcr m (k + 1)) = false := by simp [h2]
    try (refine ev2 @x9.eq_1 (qd7 (g := fun i => !qcr m i) hil hg) ?_; try exact True.intro)
   ·try (refine ev ?_; try exact True.intro)
    refine ⟨⟨k + 1 + 1, yq hi (by simp [h2])⟩, ?_, by dsimp only; omega⟩
    try (refine ev3 @qil.eq_1 @xr.eq_1 @hw2 ?_; try exact True.intro)
 ·have hil : m.ents.length ≤ i := by simpa using h
  have ha : qbq (fun i => !qcr m i) m.ents.length = true := zo.2 fun j hj => zo.1 hi j (by omega)
  try (refine ev ?_; try exact True.intro)
  (repeat (with_reducible refine ob ?_))
  (refine ev2 @x9.eq_1 @ha ?_; try exact True.intro)
end Go.Proofs.YtkcdbcbpbolgkaaGreatDoor
namespace Go.Proofs.YtkcdbcbpbolgkaaGreatDoor
open Go.Abs
set_option linter.unusedSimpArgs false
noncomputable section
set_option maxRecDepth 100000
set_option linter.defProp false
def d144 := cut Tryz.prog Tryz.f144 news
@[go_sem] def E144 := qm d144
def F144 := fnC d144 follows Tryz.func144
def d143 := cut Tryz.prog Tryz.f143 news
@[go_sem] def E143 := qm d143
def F143 := fnC d143 follows Tryz.func143
def d77 := cut Tryz.prog Tryz.f77 news
@[go_sem] def E77 := qm d77
def F77 := fnC d77 follows Tryz.func77
def d145 := cut Tryz.prog Tryz.f145 news
@[go_sem] def E145 := qm d145
def F145 := fnC d145 follows Tryz.func145
def d78 := cut Tryz.prog Tryz.f78 news
@[go_sem] def E78 := qm d78
def F78 := fnC d78 follows Tryz.func78
def d101 := cut Tryz.prog Tryz.f101 news
@[go_sem] def E101 := qm d101
def d40 := cut Tryz.prog Tryz.f40 news
@[go_sem] def E40 := qm d40
def d43 := cut Tryz.prog Tryz.f43 news
@[go_sem] def E43 := qm d43
def F43 := fnC d43 follows Tryz.func43
end
def sObj (s : Int) : AObj := .row [.d (.int .i64 s)]
attribute [go_sem] sObj
theorem xb7 (x : Ue) (s : Int) : qg Tryz.prog 144 [.d (.agg (qf x)), .d (.ptr 0 0)] [sObj s] (.d (.bool (decide (x.sess ≥ s)))) [sObj s] := by
 refine F144.go ?_
 try (refine ev2 @qf.eq_1 @sObj.eq_1 ?_; try exact True.intro)
def xb8 (l : List Ue) (k : FuncId) (s : Int) (f : Ue → Bool) (i : { i : Nat // (l.take i).any f = false }) : St :=
 ⟨[(0, true, .d (.sl 4 (l.map qf))), (1, true, .d (.func (.func k) [] [.ptr 0 0])), (6, true, .d (.sl 4 (l.map qf))), (7, true, .d (.int .i64 l.length)), (8, true, .d (.int .i64 (i.val : Nat)))],
  [sObj s], [], 1⟩
theorem q3o (l : List Ue) (s : Int) (hl : l.length ≤ 1000) : qg Tryz.prog 143 [.d (.sl 4 (l.map qf)), .d (.func (.func 144) [] [.ptr 0 0])] [sObj s]
  (.d (.int .i64 (idx (fun x => decide (x.sess ≥ s)) l))) [sObj s] := by
 refine F143.go ?_
 try (refine ev ?_; try exact True.intro)
 refine qk (xb8 l 144 s (fun x => decide (x.sess ≥ s))) (fun i => l.length - i.val) ⟨0, rfl⟩ ?_ (fun i => ?_)
 ·try (refine ev2 @xb8.eq_1 @sObj.eq_1 ?_; try exact True.intro)
 obtain ⟨i, hi⟩ := i
 try (refine ev1 @xb8.eq_1 ?_; try exact True.intro)
 (repeat (with_reducible refine ob ?_)); refine xk _ (fun h => ?_) (fun h => ?_)
 ·have hil : i < l.length := by simpa using h
  (refine ev2 (qi qf l hil) @qf.eq_1 ?_; try exact True.intro)
  (repeat (with_reducible refine ob ?_)); refine clO [0] F144 (xb7 l[i] s) ?_ (hfit := by first | exact ⟨qc, trivial⟩ | exact ⟨qc, qc, trivial⟩ | (refine ev2 @qf.eq_1 @qj.eq_1 ?_; try exact True.intro))
  try (refine ev1 @sObj.eq_1 ?_; try exact True.intro)
  refine xk _ (fun h2 => ?_) (fun h2 => ?_)
  ·try (refine ev1 (qc6 (f := fun x => decide (x.sess ≥ s)) hi hil h2) ?_; try exact True.intro)
  ·try (refine ev ?_; try exact True.intro)
   refine ⟨⟨i + 1, jy hi hil h2⟩, ?_, by dsimp only; omega⟩
   try (refine ev3 @xb8.eq_1 @sObj.eq_1 (qd (show i < 9223372036854775807 by omega)) ?_; try exact True.intro)
 ·try (refine ev2 (qc5 hi (by simpa using h)) @sObj.eq_1 ?_; try exact True.intro)
def qy (m : Mg) (s : Int) : Nat × Bool :=
 if m.ents.any (fun x => decide (x.sess ≥ s)) then (m.ents.findIdx (fun x => decide (x.sess ≥ s)), (m.ents.getD (m.ents.findIdx (fun x => decide (x.sess ≥ s))) default).sess == s) else (m.ents.length, false)
theorem xfu {α : Type} (f : α → Bool) (l : List α) : decide (idx f l < 0) = !l.any f := by
 unfold idx
 cases l.any f <;> simp
theorem qjl {α : Type} {f : α → Bool} {l : List α} (h : l.any f = true) : idx f l = (l.findIdx f : Int) ∧ l.findIdx f < l.length := by
 refine ⟨by simp [idx, h], ?_⟩
 rw [List.findIdx_lt_length]
 simpa using h
theorem qdr (m : Mg) (s : Int) (hm : m.Sm) : qg Tryz.prog 77 [.d (.agg (qj m)), .d (.int .i64 s)] [] (.tup [.d (.int .i64 ((qy m s).1 : Nat)), .d (.bool (qy m s).2)]) [] := by
 refine F77.goT ?_
 try (refine ev1 @qj.eq_1 ?_; try exact True.intro)
 (repeat (with_reducible refine ob ?_)); refine clO [1] F143 (q3o m.ents s hm.1) ?_ (hfit := by first | exact ⟨qc, trivial⟩ | exact ⟨qc, qc, trivial⟩ | (refine ev2 @qf.eq_1 @qj.eq_1 ?_; try exact True.intro))
 try (refine ev2 @xfu @sObj.eq_1 ?_; try exact True.intro)
 (repeat (with_reducible refine ob ?_)); refine xk _ (fun h => ?_) (fun h => ?_)
 ·have hf : m.ents.any (fun x => decide (x.sess ≥ s)) = false := by simpa using h
  have hu : qy m s = (m.ents.length, false) := by simp [qy, hf]
  try (refine ev1 @hu ?_; try exact True.intro)
 ·have hf : m.ents.any (fun x => decide (x.sess ≥ s)) = true := by simpa using h
  obtain ⟨h1, h2⟩ := qjl hf
  have hu : qy m s = (m.ents.findIdx (fun x => decide (x.sess ≥ s)), (m.ents.getD (m.ents.findIdx (fun x => decide (x.sess ≥ s))) default).sess == s) := by simp [qy, hf]
  rw [hu, ja h2]
  rw [h1]
  generalize m.ents.findIdx (fun x => decide (x.sess ≥ s)) = k at h2 ⊢
  try (refine ev2 (qi qf m.ents h2) @qf.eq_1 ?_; try exact True.intro)
  (repeat (with_reducible refine ob ?_))
  try (refine ev2 (qi qf m.ents h2) @qf.eq_1 ?_; try exact True.intro)
  first | omega | exact ⟨by omega, by omega⟩ | skip
theorem q0v (l m : List Bool) (hl : l.length ≤ 1000) :
  qg Tryz.prog 145 [.d (.sl 1 (l.map encB)), .d (.sl 1 (m.map encB))] [] (.d (.bool (decide (l = m)))) [] := by
 refine F145.go ?_
 try (refine ev ?_; try exact True.intro)
 refine xk _ (fun h => ?_) (fun h => ?_)
 ·have hne : decide (l = m) = false := by rw [decide_eq_false_iff_not]; rintro rfl; simp at h
  try (refine ev1 @hne ?_; try exact True.intro)
 ·have hlm : l.length = m.length := by simp at h; omega
  try (refine ev ?_; try exact True.intro)
  refine qk (Seq 1 encB l m) (fun i => l.length - i.val) ⟨0, rfl⟩ ?_ (fun i => ?_)
  ·try (refine ev1 @Seq.eq_1 ?_; try exact True.intro)
  ·obtain ⟨i, hi⟩ := i
   try (refine ev1 @Seq.eq_1 ?_; try exact True.intro)
   refine xk _ (fun h => ?_) (fun h => ?_)
   ·have hil : i < l.length := by simpa using h
    have him : i < m.length := by omega
    try (refine ev3 (qi encB l hil) (qi encB m him) @encB.eq_1 ?_; try exact True.intro)
    refine ⟨by omega, by omega, ?_⟩
    refine xk _ (fun h2 => ?_) (fun h2 => ?_)
    ·have hne : l[i] ≠ m[i] := by simpa using h2
     try (refine ev1 (qry hil him hne) ?_; try exact True.intro)
    ·have he : l[i] = m[i] := by simpa using h2
     try (refine ev ?_; try exact True.intro)
     refine ⟨⟨i + 1, wd hi hil him he⟩, ?_, by dsimp only; omega⟩
     try (refine ev2 @Seq.eq_1 (qd (show i < 9223372036854775807 by omega)) ?_; try exact True.intro)
   ·have he : decide (l = m) = true := by
     have : l.length ≤ i := by simpa using h
     rw [List.take_of_length_le this, List.take_of_length_le (by omega)] at hi
     simp [hi]
    try (refine ev1 @he ?_; try exact True.intro)
theorem xd4 (x y : Ue) : (x.sess == y.sess && x.phase == y.phase && decide (x.moved = y.moved) && decide (x.opened = y.opened)) = decide (x = y) := by
 obtain ⟨a1, a2, a3, a4⟩ := x
 obtain ⟨b1, b2, b3, b4⟩ := y
 rw [Bool.eq_iff_iff]
 simp [and_assoc]
theorem qjm (x y : Ue) (hx : x.Sm) : qg Tryz.prog 78 [.d (.agg (qf x)), .d (.agg (qf y))] [] (.d (.bool (decide (x = y)))) [] := by
 refine F78.go ?_
 try (refine ev1 @qf.eq_1 ?_; try exact True.intro)
 (repeat (with_reducible refine ob ?_)); first | refine cl F145 (q0v x.moved y.moved hx.1) ?_ | refine clF F145 (q0v x.moved y.moved hx.1) (fun _ => by (refine ev2 @qf.eq_1 @qj.eq_1 ?_; try exact True.intro)) ?_
 try (refine ev ?_; try exact True.intro)
 (repeat (with_reducible refine ob ?_))
 (repeat (with_reducible refine ob ?_)); first | refine cl F145 (q0v x.opened y.opened hx.2) ?_ | refine clF F145 (q0v x.opened y.opened hx.2) (fun _ => by (refine ev2 @qf.eq_1 @qj.eq_1 ?_; try exact True.intro)) ?_
 try (refine ev1 @xd4 ?_; try exact True.intro)
theorem xd5 (a b : Mg) : (a.roles == b.roles && decide (a.ents = b.ents)) = decide (a = b) := by
 obtain ⟨a1, a2⟩ := a
 obtain ⟨b1, b2⟩ := b
 rw [Bool.eq_iff_iff]
 simp
def qjn (n : Int) : Mg × Int := if decide (n < 1) || decide (n > 6) then (⟨0, []⟩, 2) else (⟨n, []⟩, 0)
theorem q0x (n : Int) : qg Tryz.prog 43 [.d (.int .i64 n)] [] (.tup [.d (.agg (qj (qjn n).1)), .d (.int .i64 (qjn n).2)]) [] := by
 refine F43.goT ?_
 try (refine ev ?_; try exact True.intro)
 (repeat (with_reducible refine ob ?_)); refine xk _ (fun h => ?_) (fun h => ?_)
 ·try (refine ev4 @qjn.eq_1 @h @qj.eq_1 @List.map_nil.{0,0} ?_; try exact True.intro)
 ·try (refine ev4 @qjn.eq_1 @h @qj.eq_1 @List.map_nil.{0,0} ?_; try exact True.intro)
end Go.Proofs.YtkcdbcbpbolgkaaGreatDoor
namespace Go.Proofs.YtkcdbcbpbolgkaaGreatDoor
open Go.Abs
set_option linter.unusedSimpArgs false
noncomputable section
set_option maxRecDepth 100000
set_option linter.defProp false
def xh7 := cut Tryz.prog Tryz.f224 news [7]
@[go_sem] def xkw := qm xh7
def xfv := fnC xh7 follows Tryz.func224
def xh8 := cut Tryz.prog Tryz.f225 news [7]
@[go_sem] def xkx := qm xh8
def xfw := fnC xh8 follows Tryz.func225
def d225 := cut Tryz.prog Tryz.f225 news
@[go_sem] def E225 := qm d225
def F225 := fnC d225 follows Tryz.func225
end
theorem qvh (l : List Ue) (hl : l.length ≤ 1000) : qg Tryz.prog 224 [.d (.sl 4 (l.map qf))] [] (.uni 0 4 (l.map qf)) [] := by
 refine xfv.go ?_
 try (refine ev ?_; try exact True.intro)
 refine qjf rfl rfl (fun b hb => ?_)
 try (refine ev ?_; try exact True.intro)
 (repeat (with_reducible refine ob ?_)); refine xk _ (fun h => ?_) (fun h => ?_)
 ·try (refine ev1 (hb h) ?_; try exact True.intro)
 ·try (refine ev ?_; try exact True.intro)
  omega
theorem qp5 (l : List Bool) (hl : l.length ≤ 1000) : qg Tryz.prog 225 [.d (.sl 1 (l.map encB))] [] (.uni 0 1 (l.map encB)) [] := by
 refine xfw.go ?_
 try (refine ev ?_; try exact True.intro)
 refine qjf rfl rfl (fun b hb => ?_)
 try (refine ev ?_; try exact True.intro)
 (repeat (with_reducible refine ob ?_)); refine xk _ (fun h => ?_) (fun h => ?_)
 ·try (refine ev1 (hb h) ?_; try exact True.intro)
 ·try (refine ev ?_; try exact True.intro)
  omega
theorem wp (l : List Bool) (hl : l.length ≤ 1000) : qg Tryz.prog 225 [.d (.sl 1 (l.map encB))] [] (.d (.sl 1 (l.map encB))) [] := by
 refine F225.go ?_
 try (refine ev ?_; try exact True.intro)
 refine qjf rfl rfl (fun b hb => ?_)
 try (refine ev ?_; try exact True.intro)
 (repeat (with_reducible refine ob ?_)); refine xk _ (fun h => ?_) (fun h => ?_)
 ·try (refine ev1 (hb h) ?_; try exact True.intro)
 ·try (refine ev ?_; try exact True.intro)
  omega
end Go.Proofs.YtkcdbcbpbolgkaaGreatDoor
namespace Go.Proofs.YtkcdbcbpbolgkaaGreatDoor
open Go.Abs
set_option linter.unusedSimpArgs false
noncomputable section
set_option maxRecDepth 100000
set_option linter.defProp false
def xh9 := cut Tryz.prog Tryz.f141 news [] [2, 7] true
@[go_sem] def xky := qm xh9
def xia := fnC xh9 follows Tryz.func141
end
theorem q3p (b es : Nat) (rows : List (List D)) : yv b (.uni 0 es rows) = .uni b es rows := by simp [yv, renT, ASlot.toks]
theorem q3q (b es : Nat) (rows : List (List D)) : yv b (.own 0 es rows) = .own b es rows := by simp [yv, renT, ASlot.toks]
attribute [go_sem] q3p q3q
def zq (l : List Ue) : List ASlot := (l.map qf).flatten.map ASlot.d
theorem qvi (l : List Ue) : List.map ASlot.d (l.map qf).flatten = zq l := rfl
theorem xw (x : Ue) (l : List Ue) : zq (x :: l) = .d (.int .i64 x.sess) :: .d (.int .i64 x.phase) :: .d (.sl 1 (x.moved.map encB)) :: .d (.sl 1 (x.opened.map encB)) :: zq l := rfl
theorem qcs : ∀ l : List Ue, (zq l).length = l.length * 4
 | [] => rfl
 | x :: l => by rw [xw]; simp only [List.length_cons, qcs l]; omega
theorem qfg : ∀ (l : List Ue) (i j : Nat) (_ : i < l.length) (_ : j < 4), (zq l)[i * 4 + j]? = some (.d ((qf l[i]).getD j .nilsl))
 | x :: l, 0, j, _, hj => by
  rw [xw]
  have : j = 0 ∨ j = 1 ∨ j = 2 ∨ j = 3 := by omega
  rcases this with rfl | rfl | rfl | rfl <;> rfl
 | x :: l, i + 1, j, hi, hj => by
  rw [xw, show (i + 1) * 4 + j = (i * 4 + j) + 1 + 1 + 1 + 1 by omega]
  simp only [List.getElem?_cons_succ]
  exact qfg l i j (by simpa using hi) hj
theorem qp6 (l : List Ue) (i j : Nat) (hi : i < l.length) (hj : j < 4) : (zq l).getD (i * 4 + j) .bad = .d ((qf l[i]).getD j .nilsl) := by
 rw [List.getD_eq_getElem?_getD, qfg l i j hi hj]; rfl
theorem qvj (l : List Ue) (i j : Nat) (hi : i < l.length) (hj : j < 4) : (zq l).set (i * 4 + j) (.d ((qf l[i]).getD j .nilsl)) = zq l := by
 refine List.ext_getElem? fun k => ?_
 rw [List.getElem?_set]
 split
 ·rename_i h; subst h
  rw [qfg l i j hi hj]
  have := (List.getElem?_eq_some_iff.1 (qfg l i j hi hj)).1
  simp [this]
 ·rfl
theorem qli {l : List Ue} {i : Nat} (hi : i < l.length) : (zq l).getD (i * 4 + 2) .bad = .d (.sl 1 (l[i].moved.map encB)) := qp6 l i 2 hi (by decide)
theorem qlj {l : List Ue} {i : Nat} (hi : i < l.length) : (zq l).getD (i * 4 + 3) .bad = .d (.sl 1 (l[i].opened.map encB)) := qp6 l i 3 hi (by decide)
theorem qed {l : List Ue} {i : Nat} (hi : i < l.length) : (zq l).set (i * 4 + 2) (.d (.sl 1 (l[i].moved.map encB))) = zq l := qvj l i 2 hi (by decide)
theorem qee {l : List Ue} {i : Nat} (hi : i < l.length) : (zq l).set (i * 4 + 3) (.d (.sl 1 (l[i].opened.map encB))) = zq l := qvj l i 3 hi (by decide)
theorem qnj (keep : Nat → Bool) : ∀ l : List Ue, csW keep (zq l) (zq l)
 | [] => by simp only [zq, List.map_nil, List.flatten_nil, csW]
 | x :: l => by
  rw [xw]
  have := qnj keep l
  try (refine ev1 @this ?_; try exact True.intro)
theorem qef : ∀ l : List Ue, y6 (zq l) (zq l) = []
 | [] => rfl
 | x :: l => by
  rw [xw]
  have := qef l
  try (refine ev1 @this ?_; try exact True.intro)
theorem qjo : ∀ l : List Ue, (zq l).flatMap ASlot.toks = []
 | [] => rfl
 | x :: l => by
  rw [xw]
  have := qjo l
  try (refine ev2 @List.flatMap_cons.{0,0} @this ?_; try exact True.intro)
attribute [go_sem] qnj qef qjo qcs
def Scop (m : Mg) (i : { i : Nat // i ≤ m.ents.length }) : St :=
 ⟨[(1, true, .d (.ptr 0 0)), (2, true, .d (.ptr 1 0)), (11, true, .d (.int .i64 m.ents.length)), (12, true, .d (.int .i64 (i.val : Nat)))],
  [.row [.d (.int .i64 m.roles), .d (.ref 2 0 4 m.ents.length)], .row [.d (.int .i64 0), .d .nilsl], .row (zq m.ents)], [], 1⟩
set_option maxRecDepth 10000 in
theorem q7c (m : Mg) (hm : m.Sm) : qg Tryz.prog 141 [.d (.agg (qj m))] [] (.d (.agg [.int .i64 m.roles, .ref 2 0 4 m.ents.length])) [.none, .none, .row (zq m.ents)] := by
 have hl := hm.1
 refine xia.go ?_
 try (refine ev1 @qj.eq_1 ?_; try exact True.intro)
 refine clA xfv (qvh m.ents hm.1) ?_
 try (refine ev ?_; try exact True.intro)
 try (refine ev ?_; try exact True.intro)
 (repeat (with_reducible refine ob ?_))
 refine qkk (.cell 0 1) _ 4 (m.ents.map qf) ?_
 refine pu ?_
 try (refine ev ?_; try exact True.intro)
 refine qk (Scop m) (fun i => m.ents.length - i.val) ⟨0, Nat.zero_le _⟩ ?_ (fun i => ?_)
 ·try (refine ev2 @Scop.eq_1 @qvi ?_; try exact True.intro)
 obtain ⟨i, hi⟩ := i
 try (refine ev1 @Scop.eq_1 ?_; try exact True.intro)
 (repeat (with_reducible refine ob ?_)); refine xk _ (fun h => ?_) (fun h => ?_)
 ·have hil : i < m.ents.length := by simpa using h
  have hx := hm.2 _ (List.getElem_mem hil)
  try (refine ev ?_; try exact True.intro)
  (repeat (with_reducible refine ob ?_))
  rw [qli hil]
  (repeat (with_reducible refine ob ?_)); first | refine cl F225 (wp m.ents[i].moved hx.1) ?_ | refine clF F225 (wp m.ents[i].moved hx.1) (fun _ => by (refine ev2 @qf.eq_1 @qj.eq_1 ?_; try exact True.intro)) ?_
  try (refine ev ?_; try exact True.intro)
  (repeat (with_reducible refine ob ?_))
  rw [qlj hil]
  (repeat (with_reducible refine ob ?_)); first | refine cl F225 (wp m.ents[i].opened hx.2) ?_ | refine clF F225 (wp m.ents[i].opened hx.2) (fun _ => by (refine ev2 @qf.eq_1 @qj.eq_1 ?_; try exact True.intro)) ?_
  try (refine ev2 (qed hil) (qee hil) ?_; try exact True.intro)
  (repeat (with_reducible refine ob ?_))
  try (refine ev2 (qed hil) (qee hil) ?_; try exact True.intro)
  (repeat (with_reducible refine ob ?_))
  try (refine ev2 (qed hil) (qee hil) ?_; try exact True.intro)
  refine pu ?_
  try (refine ev ?_; try exact True.intro)
  refine ⟨⟨i + 1, hil⟩, ?_, by dsimp only; omega⟩
  try (refine ev2 @Scop.eq_1 (qd (show i < 9223372036854775807 by omega)) ?_; try exact True.intro)
 ·have hil : i = m.ents.length := by
   have : m.ents.length ≤ i := by simpa using h
   omega
  subst hil
  try (refine ev ?_; try exact True.intro)
  refine pu ?_
  try (refine ev ?_; try exact True.intro)
  trace_state
theorem qyt {keep : Nat → Bool} {s : ASlot} (hs : qbp keep s s) : ∀ (l : List ASlot) (i : Nat), csW keep l l → csW keep (l.set i s) (l.set i s)
 | [], _, h => h
 | _ :: _, 0, h => ⟨hs, h.2⟩
 | _ :: l, i + 1, h => ⟨h.1, qyt hs l i h.2⟩
theorem qg5 {s : ASlot} (hs : ki s s = []) : ∀ (l : List ASlot) (i : Nat), y6 l l = [] → y6 (l.set i s) (l.set i s) = []
 | [], _, h => h
 | x :: l, 0, h => by
  rw [List.set_cons_zero, qbg]
  rw [qbg, List.append_eq_nil_iff] at h
  rw [hs, h.2]; rfl
 | x :: l, i + 1, h => by
  rw [List.set_cons_succ, qbg]
  rw [qbg, List.append_eq_nil_iff] at h
  rw [h.1, qg5 hs l i h.2]; rfl
theorem qsa {s : ASlot} (hs : s.toks = []) : ∀ (l : List ASlot) (i : Nat), l.flatMap ASlot.toks = [] → (l.set i s).flatMap ASlot.toks = []
 | [], _, h => h
 | x :: l, 0, h => by
  rw [List.set_cons_zero, List.flatMap_cons]
  rw [List.flatMap_cons, List.append_eq_nil_iff] at h
  rw [hs, h.2]; rfl
 | x :: l, i + 1, h => by
  rw [List.set_cons_succ, List.flatMap_cons]
  rw [List.flatMap_cons, List.append_eq_nil_iff] at h
  rw [h.1, qsa hs l i h.2]; rfl
noncomputable section
set_option maxRecDepth 100000
set_option linter.defProp false
def xib := cut Tryz.prog Tryz.f141 news [] [2, 7] true
@[go_sem] def xkz := qm xib
def xic := fnC xib follows Tryz.func141
end
def refA (l : List ASlot) (k a b : Nat) (x : Ue) : List ASlot := (l.set (k * 4 + 2) (.d (.ref a 0 1 x.moved.length))).set (k * 4 + 3) (.d (.ref b 0 1 x.opened.length))
theorem xb9 (l : List ASlot) (k a b : Nat) (x : Ue) : (refA l k a b x).length = l.length := by simp [refA]
theorem xfx {l : List Ue} {k a b i : Nat} {x : Ue} (hik : i ≠ k) (hi : i < l.length) : (refA (zq l) k a b x).getD (i * 4 + 2) .bad = .d (.sl 1 (l[i].moved.map encB)) := by
 rw [← qli hi, List.getD_eq_getElem?_getD, List.getD_eq_getElem?_getD, refA, List.getElem?_set_ne (by omega), List.getElem?_set_ne (by omega)]
theorem xfy {l : List Ue} {k a b i : Nat} {x : Ue} (hik : i ≠ k) (hi : i < l.length) : (refA (zq l) k a b x).getD (i * 4 + 3) .bad = .d (.sl 1 (l[i].opened.map encB)) := by
 rw [← qlj hi, List.getD_eq_getElem?_getD, List.getD_eq_getElem?_getD, refA, List.getElem?_set_ne (by omega), List.getElem?_set_ne (by omega)]
theorem qyu {l : List Ue} {k a b i : Nat} {x : Ue} (hik : i ≠ k) (hi : i < l.length) : (refA (zq l) k a b x).set (i * 4 + 2) (.d (.sl 1 (l[i].moved.map encB))) = refA (zq l) k a b x := by
 rw [refA, List.set_comm _ _ (show k * 4 + 3 ≠ i * 4 + 2 by omega), List.set_comm _ _ (show k * 4 + 2 ≠ i * 4 + 2 by omega), qed hi]
theorem qyv {l : List Ue} {k a b i : Nat} {x : Ue} (hik : i ≠ k) (hi : i < l.length) : (refA (zq l) k a b x).set (i * 4 + 3) (.d (.sl 1 (l[i].opened.map encB))) = refA (zq l) k a b x := by
 rw [refA, List.set_comm _ _ (show k * 4 + 3 ≠ i * 4 + 3 by omega), List.set_comm _ _ (show k * 4 + 2 ≠ i * 4 + 3 by omega), qee hi]
theorem qlk {keep : Nat → Bool} {l : List Ue} {k a b : Nat} {x : Ue} (ha : keep a = true) (hb : keep b = true) : csW keep (refA (zq l) k a b x) (refA (zq l) k a b x) :=
 qyt (by try (refine ev2 @ha @hb ?_; try exact True.intro)) _ _ (qyt (by try (refine ev2 @ha @hb ?_; try exact True.intro)) _ _ (qnj keep l))
theorem qvk {l : List Ue} {k a b : Nat} {x : Ue} : y6 (refA (zq l) k a b x) (refA (zq l) k a b x) = [] := qg5 rfl _ _ (qg5 rfl _ _ (qef l))
theorem q7d {l : List Ue} {k a b : Nat} {x : Ue} : (refA (zq l) k a b x).flatMap ASlot.toks = [] := qsa rfl _ _ (qsa rfl _ _ (qjo l))
theorem xca (l : List Bool) : List.map ASlot.d (l.map encB).flatten = l.map fun b => .d (.bool b) := by
 induction l with
 | nil => rfl
 | cons b l ih => simp only [List.map_cons, List.flatten_cons, encB, List.cons_append, List.nil_append, ih]
theorem q0y (keep : Nat → Bool) : ∀ l : List Bool, csW keep (l.map fun b => .d (.bool b)) (l.map fun b => .d (.bool b))
 | [] => trivial
 | x :: l => by
  have := q0y keep l
  try (refine ev2 @List.map_cons.{0,0} @this ?_; try exact True.intro)
theorem qkr : ∀ l : List Bool, y6 (l.map fun b => .d (.bool b)) (l.map fun b => .d (.bool b)) = []
 | [] => rfl
 | x :: l => by
  have := qkr l
  try (refine ev2 @List.map_cons.{0,0} @this ?_; try exact True.intro)
theorem qvl : ∀ l : List Bool, ((l.map fun b => .d (.bool b)).flatMap ASlot.toks : List Nat) = []
 | [] => rfl
 | x :: l => by
  have := qvl l
  try (refine ev3 @List.map_cons.{0,0} @List.flatMap_cons.{0,0} @this ?_; try exact True.intro)
attribute [go_sem] xb9 qlk qvk q7d xca q0y qkr qvl
theorem xcb (l : List ASlot) (k a b : Nat) (x : Ue) : (l.set (k * 4 + 2) (.d (.ref a 0 1 x.moved.length))).set (k * 4 + 3) (.d (.ref b 0 1 x.opened.length)) = refA l k a b x := rfl
theorem xk0 {l : List ASlot} {a b : Nat} {u v x y : ASlot} (h : a ≠ b) : (((l.set a u).set b v).set a x).set b y = (l.set a x).set b y := by
 rw [List.set_comm _ _ (Ne.symm h), List.set_set, List.set_set]
def qvm (m : Mg) (k : Nat) (x : Ue) (i : { i : Nat // i ≤ m.ents.length }) : St :=
 ⟨[(1, true, .d (.ptr 0 0)), (2, true, .d (.ptr 1 0)), (11, true, .d (.int .i64 m.ents.length)), (12, true, .d (.int .i64 (i.val : Nat)))],
  if i.val ≤ k then [.row [.d (.int .i64 m.roles), .d (.ref 2 0 4 m.ents.length)], .row [.d (.int .i64 0), .d .nilsl], .row (zq m.ents)]
  else [.row [.d (.int .i64 m.roles), .d (.ref 2 0 4 m.ents.length)], .row [.d (.int .i64 0), .d .nilsl], .row (refA (zq m.ents) k 3 4 x), .row (x.moved.map fun b => .d (.bool b)), .row (x.opened.map fun b => .d (.bool b))], [], 1⟩
set_option maxRecDepth 10000 in
theorem qyw (m : Mg) (hm : m.Sm) (k : Nat) (hk : k < m.ents.length) : qg Tryz.prog 141 [.d (.agg (qj m))] [] (.d (.agg [.int .i64 m.roles, .ref 2 0 4 m.ents.length]))
  [.none, .none, .row (refA (zq m.ents) k 3 4 m.ents[k]), .row (m.ents[k].moved.map fun b => .d (.bool b)), .row (m.ents[k].opened.map fun b => .d (.bool b))] := by
 have hl := hm.1
 refine xic.go ?_
 try (refine ev1 @qj.eq_1 ?_; try exact True.intro)
 refine clA xfv (qvh m.ents hm.1) ?_
 try (refine ev ?_; try exact True.intro)
 (repeat (with_reducible refine ob ?_))
 refine qkk (.cell 0 1) _ 4 (m.ents.map qf) ?_
 refine pu ?_
 try (refine ev ?_; try exact True.intro)
 refine qk (qvm m k m.ents[k]) (fun i => m.ents.length - i.val) ⟨0, Nat.zero_le _⟩ ?_ (fun i => ?_)
 ·try (refine ev3 @qvm.eq_1 @qvi @Nat.zero_le ?_; try exact True.intro)
 obtain ⟨i, hi⟩ := i
 rcases Nat.lt_trichotomy i k with hik | hik | hik
 ·have hle : i ≤ k := by omega
  have hle1 : i + 1 ≤ k := by omega
  try (refine ev2 @qvm.eq_1 @hle ?_; try exact True.intro)
  (repeat (with_reducible refine ob ?_)); refine xk _ (fun h => ?_) (fun h => ?_)
  ·have hil : i < m.ents.length := by simpa using h
   have hx := hm.2 _ (List.getElem_mem hil)
   try (refine ev ?_; try exact True.intro)
   (repeat (with_reducible refine ob ?_))
   rw [qli hil]
   (repeat (with_reducible refine ob ?_)); first | refine cl F225 (wp m.ents[i].moved hx.1) ?_ | refine clF F225 (wp m.ents[i].moved hx.1) (fun _ => by (refine ev2 @qf.eq_1 @qj.eq_1 ?_; try exact True.intro)) ?_
   try (refine ev ?_; try exact True.intro)
   (repeat (with_reducible refine ob ?_))
   rw [qlj hil]
   (repeat (with_reducible refine ob ?_)); first | refine cl F225 (wp m.ents[i].opened hx.2) ?_ | refine clF F225 (wp m.ents[i].opened hx.2) (fun _ => by (refine ev2 @qf.eq_1 @qj.eq_1 ?_; try exact True.intro)) ?_
   try (refine ev2 (qed hil) (qee hil) ?_; try exact True.intro)
   (repeat (with_reducible refine ob ?_))
   try (refine ev2 (qed hil) (qee hil) ?_; try exact True.intro)
   (repeat (with_reducible refine ob ?_))
   try (refine ev2 (qed hil) (qee hil) ?_; try exact True.intro)
   refine pu ?_
   try (refine ev ?_; try exact True.intro)
   refine ⟨⟨i + 1, hil⟩, ?_, by dsimp only; omega⟩
   try (refine ev3 @qvm.eq_1 @hle1 (qd (show i < 9223372036854775807 by omega)) ?_; try exact True.intro)
  ·exfalso; simp at h; omega
 ·subst hik
  have hni : ¬ (i + 1 ≤ i) := by omega
  try (refine ev2 @qvm.eq_1 @Nat.le_refl ?_; try exact True.intro)
  (repeat (with_reducible refine ob ?_)); refine xk _ (fun h => ?_) (fun h => ?_)
  ·have hil : i < m.ents.length := hk
   have hx := hm.2 _ (List.getElem_mem hil)
   try (refine ev ?_; try exact True.intro)
   (repeat (with_reducible refine ob ?_))
   rw [qli hil]
   refine clA xfw (qp5 m.ents[i].moved hx.1) ?_
   try (refine ev ?_; try exact True.intro)
   (repeat (with_reducible refine ob ?_))
   rw [qlj hil]
   refine clA xfw (qp5 m.ents[i].opened hx.2) ?_
   try (refine ev ?_; try exact True.intro)
   (repeat (with_reducible refine ob ?_))
   try (refine ev ?_; try exact True.intro)
   (repeat (with_reducible refine ob ?_))
   try (refine ev2 @List.length_set.{0} @qcs ?_; try exact True.intro)
   (repeat (with_reducible refine ob ?_))
   have hf : (zq m.ents).length = m.ents.length * 4 := qcs _
   refine qkk (.cell 2 (i * 4 + 2)) 240 1 (m.ents[i].moved.map encB) ?_ (hp := by simp only [St.slotAt, qe, List.getElem?_cons_succ, List.getElem?_cons_zero, AObj.cells, List.getD_eq_getElem?_getD]; rw [List.getElem?_set_ne (by omega), List.getElem?_set_self (by rw [hf]; omega)]; rfl)
   try (refine ev2 @List.set_comm.{0} @List.length_set.{0} ?_; try exact True.intro)
   refine qkk (.cell 2 (i * 4 + 3)) 320 1 (m.ents[i].opened.map encB) ?_ (hp := by simp only [St.slotAt, qe, List.getElem?_cons_succ, List.getElem?_cons_zero, AObj.cells, List.getD_eq_getElem?_getD]; rw [List.getElem?_set_ne (by omega), List.getElem?_set_self (by rw [List.length_set, hf]; omega)]; rfl)
   try simp only [xk0 (show i * 4 + 2 ≠ i * 4 + 3 by omega), xcb, go_sem, Nat.reduceAdd, Nat.reduceMul, Nat.reduceSub, Nat.reduceEqDiff, Nat.reduceLT, Nat.reduceLeDiff, Nat.reduceBEq, reduceIte, reduceCtorEq, Int.reduceAdd, Int.reduceLT, Int.reduceLE, Int.reduceGT, Int.reduceGE, Int.reduceEq, Int.reduceNe, Int.reduceBEq, Int.reduceBNe, Int.reduceToNat, Int.reduceNeg]
   refine pu ?_
   try (refine ev ?_; try exact True.intro)
   refine ⟨⟨i + 1, hil⟩, ?_, by dsimp only; omega⟩
   try (refine ev3 @qvm.eq_1 @hni (qd (show i < 9223372036854775807 by omega)) ?_; try exact True.intro)
   exact qlk rfl rfl
  ·exfalso; simp at h; omega
 ·have hle : ¬ i ≤ k := by omega
  have hle1 : ¬ i + 1 ≤ k := by omega
  try (refine ev2 @qvm.eq_1 @hle ?_; try exact True.intro)
  (repeat (with_reducible refine ob ?_)); refine xk _ (fun h => ?_) (fun h => ?_)
  ·have hil : i < m.ents.length := by simpa using h
   have hx := hm.2 _ (List.getElem_mem hil)
   have hik' : i ≠ k := by omega
   try (refine ev ?_; try exact True.intro)
   (repeat (with_reducible refine ob ?_))
   rw [xfx hik' hil]
   (repeat (with_reducible refine ob ?_)); first | refine cl F225 (wp m.ents[i].moved hx.1) ?_ | refine clF F225 (wp m.ents[i].moved hx.1) (fun _ => by (refine ev2 @qf.eq_1 @qj.eq_1 ?_; try exact True.intro)) ?_
   try (refine ev ?_; try exact True.intro)
   (repeat (with_reducible refine ob ?_))
   rw [xfy hik' hil]
   (repeat (with_reducible refine ob ?_)); first | refine cl F225 (wp m.ents[i].opened hx.2) ?_ | refine clF F225 (wp m.ents[i].opened hx.2) (fun _ => by (refine ev2 @qf.eq_1 @qj.eq_1 ?_; try exact True.intro)) ?_
   try simp only [qyu hik' hil, qyv hik' hil, go_sem, Nat.reduceAdd, Nat.reduceMul, Nat.reduceSub, Nat.reduceEqDiff, Nat.reduceLT, Nat.reduceLeDiff, Nat.reduceBEq, reduceIte, reduceCtorEq, Int.reduceAdd, Int.reduceLT, Int.reduceLE, Int.reduceGT, Int.reduceGE, Int.reduceEq, Int.reduceNe, Int.reduceBEq, Int.reduceBNe, Int.reduceToNat, Int.reduceNeg]
   (repeat (with_reducible refine ob ?_))
   try simp only [qyu hik' hil, qyv hik' hil, go_sem, Nat.reduceAdd, Nat.reduceMul, Nat.reduceSub, Nat.reduceEqDiff, Nat.reduceLT, Nat.reduceLeDiff, Nat.reduceBEq, reduceIte, reduceCtorEq, Int.reduceAdd, Int.reduceLT, Int.reduceLE, Int.reduceGT, Int.reduceGE, Int.reduceEq, Int.reduceNe, Int.reduceBEq, Int.reduceBNe, Int.reduceToNat, Int.reduceNeg]
   (repeat (with_reducible refine ob ?_))
   try simp only [qyu hik' hil, qyv hik' hil, go_sem, Nat.reduceAdd, Nat.reduceMul, Nat.reduceSub, Nat.reduceEqDiff, Nat.reduceLT, Nat.reduceLeDiff, Nat.reduceBEq, reduceIte, reduceCtorEq, Int.reduceAdd, Int.reduceLT, Int.reduceLE, Int.reduceGT, Int.reduceGE, Int.reduceEq, Int.reduceNe, Int.reduceBEq, Int.reduceBNe, Int.reduceToNat, Int.reduceNeg]
   refine pu ?_
   try (refine ev ?_; try exact True.intro)
   refine ⟨⟨i + 1, hil⟩, ?_, by dsimp only; omega⟩
   try (refine ev3 @qvm.eq_1 @hle1 (qd (show i < 9223372036854775807 by omega)) ?_; try exact True.intro)
   exact qlk rfl rfl
  ·have hil : i = m.ents.length := by
    have : m.ents.length ≤ i := by simpa using h
    omega
   subst hil
   try (refine ev ?_; try exact True.intro)
   refine pu ?_
   try (refine ev ?_; try exact True.intro)
   exact qlk rfl rfl
end Go.Proofs.YtkcdbcbpbolgkaaGreatDoor
namespace Go.Proofs.YtkcdbcbpbolgkaaGreatDoor
open Go.Abs
set_option linter.unusedSimpArgs false
noncomputable section
set_option maxRecDepth 100000
set_option linter.defProp false
def d229 := cut Tryz.prog Tryz.f229 news
@[go_sem] def E229 := qm d229
def F229 := fnC d229 follows Tryz.func229
def d230 := cut Tryz.prog Tryz.f230 news
@[go_sem] def E230 := qm d230
def F230 := fnC d230 follows Tryz.func230
def d149 := cut Tryz.prog Tryz.f149 news
@[go_sem] def E149 := qm d149
def F149 := fnC d149 follows Tryz.func149
def d81 := cut Tryz.prog Tryz.f81 news
@[go_sem] def E81 := qm d81
def F81 := fnC d81 follows Tryz.func81
def d82 := cut Tryz.prog Tryz.f82 news
@[go_sem] def E82 := qm d82
def F82 := fnC d82 follows Tryz.func82
def d99 := cut Tryz.prog Tryz.f99 news
@[go_sem] def E99 := qm d99
def F99 := fnC d99 follows Tryz.func99
def d34 := cut Tryz.prog Tryz.f34 news
@[go_sem] def E34 := qm d34
def F34 := fnC d34 follows Tryz.func34
def d23 := cut Tryz.prog Tryz.f23 news
@[go_sem] def E23 := qm d23
def F23 := fnC d23 follows Tryz.func23
def d94 := cut Tryz.prog Tryz.f94 news
@[go_sem] def E94 := qm d94
def F94 := fnC d94 follows Tryz.func94
end
def idB (b : Bool) : Bool := b
def xcc (l : List Bool) (i : { i : Nat // (l.take i).all idB = true }) : St := ⟨[(0, true, .d (.sl 1 (l.map encB))), (2, true, .d (.bool false)), (3, true, .d (.int .i64 (i.val : Nat)))], [], [], 1⟩
theorem qbb (l : List Bool) (hl : l.length ≤ 1000) : qg Tryz.prog 229 [.d (.sl 1 (l.map encB))] [] (.d (.bool (l.all idB))) [] := by
 refine F229.go ?_
 try (refine ev ?_; try exact True.intro)
 refine qk (xcc l) (fun i => l.length - i.val) ⟨0, rfl⟩ ?_ (fun i => ?_)
 ·try (refine ev1 @xcc.eq_1 ?_; try exact True.intro)
 obtain ⟨i, hi⟩ := i
 try (refine ev1 @xcc.eq_1 ?_; try exact True.intro)
 (repeat (with_reducible refine ob ?_)); refine xk _ (fun h => ?_) (fun h => ?_)
 ·have hil : i < l.length := by simpa using h
  try (refine ev2 (qi encB l hil) @encB.eq_1 ?_; try exact True.intro)
  (repeat (with_reducible refine ob ?_))
  refine xk _ (fun h2 => ?_) (fun h2 => ?_)
  ·have hg : idB l[i] = false := by simpa [idB] using h2
   try (refine ev1 (qnh hil hg) ?_; try exact True.intro)
  ·have hg : idB l[i] = true := by simpa [idB] using h2
   try (refine ev ?_; try exact True.intro)
   refine ⟨⟨i + 1, wj hi hil hg⟩, ?_, by dsimp only; omega⟩
   try (refine ev2 @xcc.eq_1 (qd (show i < 9223372036854775807 by omega)) ?_; try exact True.intro)
 ·have hall : l.all idB = true := qij hi (by simpa using h)
  try (refine ev1 @hall ?_; try exact True.intro)
def q0z (l : List Bool) (i : { i : Nat // (l.take i).any idB = false }) : St := ⟨[(0, true, .d (.sl 1 (l.map encB))), (2, true, .d (.bool false)), (3, true, .d (.int .i64 (i.val : Nat)))], [], [], 1⟩
theorem xfz {α : Type} {f : α → Bool} {l : List α} {i : Nat} (hi : i < l.length) (hf : f l[i] = true) : l.any f = true := List.any_eq_true.2 ⟨_, List.getElem_mem hi, hf⟩
theorem xcd {α : Type} {f : α → Bool} {l : List α} {i : Nat} (h : (l.take i).any f = false) (hi : l.length ≤ i) : l.any f = false := by rwa [List.take_of_length_le hi] at h
theorem qvn (l : List Bool) (hl : l.length ≤ 1000) : qg Tryz.prog 230 [.d (.sl 1 (l.map encB))] [] (.d (.bool (l.any idB))) [] := by
 refine F230.go ?_
 try (refine ev ?_; try exact True.intro)
 refine qk (q0z l) (fun i => l.length - i.val) ⟨0, rfl⟩ ?_ (fun i => ?_)
 ·try (refine ev1 @q0z.eq_1 ?_; try exact True.intro)
 obtain ⟨i, hi⟩ := i
 try (refine ev1 @q0z.eq_1 ?_; try exact True.intro)
 (repeat (with_reducible refine ob ?_)); refine xk _ (fun h => ?_) (fun h => ?_)
 ·have hil : i < l.length := by simpa using h
  try (refine ev2 (qi encB l hil) @encB.eq_1 ?_; try exact True.intro)
  (repeat (with_reducible refine ob ?_))
  refine xk _ (fun h2 => ?_) (fun h2 => ?_)
  ·have hg : idB l[i] = true := by simpa [idB] using h2
   try (refine ev1 (xfz hil hg) ?_; try exact True.intro)
  ·have hg : idB l[i] = false := by simpa [idB] using h2
   try (refine ev ?_; try exact True.intro)
   refine ⟨⟨i + 1, jy hi hil hg⟩, ?_, by dsimp only; omega⟩
   try (refine ev2 @q0z.eq_1 (qd (show i < 9223372036854775807 by omega)) ?_; try exact True.intro)
 ·have hall : l.any idB = false := xcd hi (by simpa using h)
  try (refine ev1 @hall ?_; try exact True.intro)
def ph53 (x : Ue) : Int :=
 if !x.moved.all idB && !x.opened.any idB then 1 else if x.moved.all idB && !x.opened.all idB then 2 else if x.moved.all idB && x.opened.all idB then 3 else 0
theorem qjp (l : List Bool) : hasB false l = !l.all idB := by
 induction l with
 | nil => rfl
 | cons b l ih => cases b <;> simp_all [hasB, idB]
theorem qvo (l : List Bool) : hasB true l = l.any idB := by
 induction l with
 | nil => rfl
 | cons b l ih => cases b <;> simp_all [hasB, idB]
theorem xf0 (x : Ue) : ph53 x = xz x := by
 simp only [ph53, xz, qjp, qvo]
 cases x.moved.all idB <;> cases x.opened.all idB <;> cases x.opened.any idB <;> rfl
theorem qf6 (x : Ue) (hx : x.Sm) : qg Tryz.prog 149 [.d (.agg (qf x))] [] (.d (.int .i64 (xz x))) [] := by
 rw [← xf0]
 refine F149.go ?_
 try (refine ev1 @qf.eq_1 ?_; try exact True.intro)
 (repeat (with_reducible refine ob ?_)); first | refine cl F229 (qbb x.moved hx.1) ?_ | refine clF F229 (qbb x.moved hx.1) (fun _ => by (refine ev2 @qf.eq_1 @qj.eq_1 ?_; try exact True.intro)) ?_
 try (refine ev ?_; try exact True.intro)
 (repeat (with_reducible refine ob ?_)); first | refine cl F230 (qvn x.opened hx.2) ?_ | refine clF F230 (qvn x.opened hx.2) (fun _ => by (refine ev2 @qf.eq_1 @qj.eq_1 ?_; try exact True.intro)) ?_
 try (refine ev ?_; try exact True.intro)
 refine xk _ (fun h1 => ?_) (fun h1 => ?_)
 ·have e : ph53 x = 1 := by simp_all [ph53]
  try (refine ev1 @e ?_; try exact True.intro)
 try (refine ev ?_; try exact True.intro)
 (repeat (with_reducible refine ob ?_)); first | refine cl F229 (qbb x.moved hx.1) ?_ | refine clF F229 (qbb x.moved hx.1) (fun _ => by (refine ev2 @qf.eq_1 @qj.eq_1 ?_; try exact True.intro)) ?_
 try (refine ev ?_; try exact True.intro)
 (repeat (with_reducible refine ob ?_)); first | refine cl F229 (qbb x.opened hx.2) ?_ | refine clF F229 (qbb x.opened hx.2) (fun _ => by (refine ev2 @qf.eq_1 @qj.eq_1 ?_; try exact True.intro)) ?_
 try (refine ev ?_; try exact True.intro)
 refine xk _ (fun h2 => ?_) (fun h2 => ?_)
 ·have e : ph53 x = 2 := by simp only [ph53, h1, h2]; rfl
  try (refine ev1 @e ?_; try exact True.intro)
 try (refine ev ?_; try exact True.intro)
 (repeat (with_reducible refine ob ?_)); first | refine cl F229 (qbb x.moved hx.1) ?_ | refine clF F229 (qbb x.moved hx.1) (fun _ => by (refine ev2 @qf.eq_1 @qj.eq_1 ?_; try exact True.intro)) ?_
 try (refine ev ?_; try exact True.intro)
 (repeat (with_reducible refine ob ?_)); first | refine cl F229 (qbb x.opened hx.2) ?_ | refine clF F229 (qbb x.opened hx.2) (fun _ => by (refine ev2 @qf.eq_1 @qj.eq_1 ?_; try exact True.intro)) ?_
 try (refine ev ?_; try exact True.intro)
 refine xk _ (fun h3 => ?_) (fun h3 => ?_)
 ·have e : ph53 x = 3 := by simp only [ph53, h1, h2, h3]; rfl
  try (refine ev1 @e ?_; try exact True.intro)
 ·have e : ph53 x = 0 := by simp only [ph53, h1, h2, h3]; rfl
  try (refine ev1 @e ?_; try exact True.intro)
def Sv53 (m : Mg) (i : { i : Nat // qbq (fun i => !qcr m i) i = true }) : St := ⟨[(1, true, .d (.ptr 0 0)), (2, true, .d (.bool false)), (3, true, .d (.int .i64 (i.val : Nat)))], [xr m], [], 1⟩
set_option maxRecDepth 10000 in
theorem qa7 (m : Mg) (hm : m.Sm) : qg Tryz.prog 81 [.d (.agg (qj m))] [] (.d (.bool (x9 m))) [] := by
 have hl := hm.1
 refine F81.go ?_
 try (refine ev1 @qj.eq_1 ?_; try exact True.intro)
 (repeat (with_reducible refine ob ?_)); refine xk _ (fun h => ?_) (fun h => ?_)
 ·have hb : (decide (m.roles ≥ 1) && decide (m.roles ≤ 6)) = false := by
   simp only [Bool.or_eq_true, decide_eq_true_eq] at h
   rw [Bool.and_eq_false_iff, decide_eq_false_iff_not, decide_eq_false_iff_not]
   omega
  try (refine ev3 @x9.eq_1 @hb @Bool.and_false ?_; try exact True.intro)
 have hb : (decide (m.roles ≥ 1) && decide (m.roles ≤ 6)) = true := by
  simp only [Bool.or_eq_false_iff, decide_eq_false_iff_not] at h
  simp only [Bool.and_eq_true, decide_eq_true_eq]
  omega
 try (refine ev ?_; try exact True.intro)
 refine qk (Sv53 m) (fun i => m.ents.length - i.val) ⟨0, rfl⟩ ?_ (fun i => ?_)
 ·try (refine ev2 @Sv53.eq_1 @xr.eq_1 ?_; try exact True.intro)
 obtain ⟨i, hi⟩ := i
 try (refine ev2 @Sv53.eq_1 @xr.eq_1 ?_; try exact True.intro)
 (repeat (with_reducible refine ob ?_)); refine xk _ (fun h => ?_) (fun h => ?_)
 ·have hil : i < m.ents.length := by simpa using h
  have hx := hm.2 _ (List.getElem_mem hil)
  rcases Nat.eq_zero_or_pos i with h0 | h0
  ·subst h0
   (refine ev4 (qi qf m.ents hil) @qf.eq_1 @Int.toNat_zero @w01 ?_; try exact True.intro)
   (repeat (with_reducible refine ob ?_))
   try (refine ev ?_; try exact True.intro)
   (repeat (with_reducible refine ob ?_))
   (repeat (with_reducible refine ob ?_)); first | refine cl F149 (qf6 m.ents[0] hx) ?_ | refine clF F149 (qf6 m.ents[0] hx) (fun _ => by (refine ev2 @qf.eq_1 @qj.eq_1 ?_; try exact True.intro)) ?_
   try (refine ev ?_; try exact True.intro)
   refine ⟨fun h => by rw [h]; rfl, ?_⟩
   refine qp (qcr m 0) rfl ?_ (fun h2 => ?_) (fun h2 => ?_)
   ·try (refine ev1 (en0 m hil) ?_; try exact True.intro)
   ·have hg : (!qcr m 0) = false := by simp [h2]
    try (refine ev2 @x9.eq_1 (qd7 (g := fun i => !qcr m i) hil hg) ?_; try exact True.intro)
   ·try (refine ev ?_; try exact True.intro)
    refine ⟨⟨1, yq hi (by simp [h2])⟩, ?_, by dsimp only; omega⟩
    try (refine ev3 @Sv53.eq_1 @xr.eq_1 (show IntKind.i64.wrap 1 = 1 by decide) ?_; try exact True.intro)
  ·obtain ⟨k, rfl⟩ : ∃ k, i = k + 1 := ⟨i - 1, by omega⟩
   have hk : k < m.ents.length := by omega
   have hw : IntKind.i64.wrap (((k : Nat) : Int) + 1 - 1) = ((k : Nat) : Int) := by rw [wrap_i64 (by omega) (by omega)]; omega
   have hw2 : IntKind.i64.wrap (((k : Nat) : Int) + 1 + 1) = ((k : Nat) : Int) + 1 + 1 := by rw [wrap_i64 (by omega) (by omega)]
   (refine ev4 (qi qf m.ents hil) (qi qf m.ents hk) @hw @qf.eq_1 ?_; try exact True.intro)
   (repeat (with_reducible refine ob ?_))
   try (refine ev3 (qi qf m.ents hk) @hw @qf.eq_1 ?_; try exact True.intro)
   (repeat (with_reducible refine ob ?_))
   (repeat (with_reducible refine ob ?_)); first | refine cl F149 (qf6 m.ents[k+1] hx) ?_ | refine clF F149 (qf6 m.ents[k+1] hx) (fun _ => by (refine ev2 @qf.eq_1 @qj.eq_1 ?_; try exact True.intro)) ?_
   try (refine ev ?_; try exact True.intro)
   refine ⟨fun h => by rw [h]; rfl, ?_⟩
   refine qp (qcr m (k + 1)) rfl ?_ (fun h2 => ?_) (fun h2 => ?_)
   ·try (refine ev1 (enk m k hil hk) ?_; try exact True.intro)
   ·have hg : (!qcr m (k + 1)) = false := by simp [h2]
    try (refine ev2 @x9.eq_1 (qd7 (g := fun i => !qcr m i) hil hg) ?_; try exact True.intro)
   ·try (refine ev ?_; try exact True.intro)
    refine ⟨⟨k + 1 + 1, yq hi (by simp [h2])⟩, ?_, by dsimp only; omega⟩
    try (refine ev3 @Sv53.eq_1 @xr.eq_1 @hw2 ?_; try exact True.intro)
 ·have hil : m.ents.length ≤ i := by simpa using h
  have ha : qbq (fun i => !qcr m i) m.ents.length = true := zo.2 fun j hj => zo.1 hi j (by omega)
  try (refine ev ?_; try exact True.intro)
  (repeat (with_reducible refine ob ?_))
  (refine ev3 @x9.eq_1 @ha @hb ?_; try exact True.intro)
def xce (m : Mg) (s : Int) (i : { i : Nat // (m.ents.take i).any (fun x => x.sess == s) = false }) : St :=
 ⟨[(1, true, .d (.int .i64 s)), (2, true, .d (.ptr 0 0)), (4, true, .d (.int .i64 0)), (5, true, .d (.int .i64 (i.val : Nat)))], [xr m], [], 1⟩
theorem qp7 (m : Mg) (s : Int) (hm : m.Sm) : qg Tryz.prog 82 [.d (.agg (qj m)), .d (.int .i64 s)] [] (.d (.int .i64 (idx (fun x => x.sess == s) m.ents))) [] := by
 have hl := hm.1
 refine F82.go ?_
 try (refine ev1 @qj.eq_1 ?_; try exact True.intro)
 refine qk (xce m s) (fun i => m.ents.length - i.val) ⟨0, rfl⟩ ?_ (fun i => ?_)
 ·try (refine ev2 @xce.eq_1 @xr.eq_1 ?_; try exact True.intro)
 obtain ⟨i, hi⟩ := i
 try (refine ev2 @xce.eq_1 @xr.eq_1 ?_; try exact True.intro)
 (repeat (with_reducible refine ob ?_)); refine xk _ (fun h => ?_) (fun h => ?_)
 ·have hil : i < m.ents.length := by simpa using h
  (refine ev2 (qi qf m.ents hil) @qf.eq_1 ?_; try exact True.intro)
  (repeat (with_reducible refine ob ?_))
  refine xk _ (fun h2 => ?_) (fun h2 => ?_)
  ·try (refine ev1 (qc6 (f := fun x : Ue => x.sess == s) hi hil h2) ?_; try exact True.intro)
  ·try (refine ev ?_; try exact True.intro)
   refine ⟨⟨i + 1, jy hi hil h2⟩, ?_, by dsimp only; omega⟩
   try (refine ev3 @xce.eq_1 @xr.eq_1 (qd (show i < 9223372036854775807 by omega)) ?_; try exact True.intro)
 ·try (refine ev1 (qc5 hi (by simpa using h)) ?_; try exact True.intro)
def q00 (l m : List Bool) (i : { i : Nat // l.take i = m.take i }) : St :=
 ⟨[(0, true, .d (.sl 1 (l.map encB))), (1, true, .d (.sl 1 (m.map encB))), (4, true, .d (.bool false)), (5, true, .d (.int .i64 (i.val : Nat)))], [], [], 1⟩
theorem qll (l m : List Bool) (hl : l.length ≤ 1000) : qg Tryz.prog 99 [.d (.sl 1 (l.map encB)), .d (.sl 1 (m.map encB))] [] (.d (.bool (decide (l = m)))) [] := by
 refine F99.go ?_
 try (refine ev ?_; try exact True.intro)
 refine xk _ (fun h => ?_) (fun h => ?_)
 ·have hne : decide (l = m) = false := by rw [decide_eq_false_iff_not]; rintro rfl; simp at h
  try (refine ev1 @hne ?_; try exact True.intro)
 ·have hlm : l.length = m.length := by simp at h; omega
  try (refine ev ?_; try exact True.intro)
  refine qk (q00 l m) (fun i => l.length - i.val) ⟨0, rfl⟩ ?_ (fun i => ?_)
  ·try (refine ev1 @q00.eq_1 ?_; try exact True.intro)
  ·obtain ⟨i, hi⟩ := i
   try (refine ev1 @q00.eq_1 ?_; try exact True.intro)
   refine xk _ (fun h => ?_) (fun h => ?_)
   ·have hil : i < l.length := by simpa using h
    have him : i < m.length := by omega
    try (refine ev3 (qi encB l hil) (qi encB m him) @encB.eq_1 ?_; try exact True.intro)
    refine ⟨by omega, by omega, ?_⟩
    refine xk _ (fun h2 => ?_) (fun h2 => ?_)
    ·have hne : l[i] ≠ m[i] := by simpa using h2
     try (refine ev1 (qry hil him hne) ?_; try exact True.intro)
    ·have he : l[i] = m[i] := by simpa using h2
     try (refine ev ?_; try exact True.intro)
     refine ⟨⟨i + 1, wd hi hil him he⟩, ?_, by dsimp only; omega⟩
     try (refine ev2 @q00.eq_1 (qd (show i < 9223372036854775807 by omega)) ?_; try exact True.intro)
   ·have he : decide (l = m) = true := qbh hi (by simpa using h) hlm
    try (refine ev1 @he ?_; try exact True.intro)
def fewE (x : Ue) : Bool := !(decide ((x.moved.length : Int) > 10) || decide ((x.opened.length : Int) > 10))
def fewM (m : Mg) : Bool := m.ents.all fewE && decide ((m.ents.length : Int) ≤ 12)
def xcf (m : Mg) (i : { i : Nat // (m.ents.take i).all fewE = true }) : St := ⟨[(1, true, .d (.ptr 0 0)), (2, true, .d (.bool false)), (3, true, .d (.int .i64 (i.val : Nat)))], [xr m], [], 1⟩
theorem q7e (m : Mg) (hl : m.ents.length ≤ maxLen) : qg Tryz.prog 23 [.d (.agg (qj m))] [] (.d (.bool (fewM m))) [] := by
 refine F23.go ?_
 try (refine ev1 @qj.eq_1 ?_; try exact True.intro)
 refine qk (xcf m) (fun i => m.ents.length - i.val) ⟨0, rfl⟩ ?_ (fun i => ?_)
 ·try (refine ev2 @xcf.eq_1 @xr.eq_1 ?_; try exact True.intro)
 obtain ⟨i, hi⟩ := i
 try (refine ev2 @xcf.eq_1 @xr.eq_1 ?_; try exact True.intro)
 (repeat (with_reducible refine ob ?_)); refine xk _ (fun h => ?_) (fun h => ?_)
 ·have hil : i < m.ents.length := by simpa using h
  (refine ev2 (qi qf m.ents hil) @qf.eq_1 ?_; try exact True.intro)
  (repeat (with_reducible refine ob ?_))
  try (refine ev ?_; try exact True.intro)
  (repeat (with_reducible refine ob ?_))
  refine xk _ (fun h2 => ?_) (fun h2 => ?_)
  ·have hg : fewE m.ents[i] = false := by simp only [fewE, h2]; rfl
   try (refine ev2 @fewM.eq_1 (qnh hil hg) ?_; try exact True.intro)
  ·have hg : fewE m.ents[i] = true := by simp only [fewE, h2]; rfl
   try (refine ev ?_; try exact True.intro)
   refine ⟨⟨i + 1, wj hi hil hg⟩, ?_, by dsimp only; omega⟩
   try (refine ev3 @xcf.eq_1 @xr.eq_1 (qd (show i < 9223372036854775807 by unfold maxLen at hl; omega)) ?_; try exact True.intro)
 ·have hall : m.ents.all fewE = true := qij hi (by simpa using h)
  try (refine ev2 @fewM.eq_1 @hall ?_; try exact True.intro)
def xcg (a b : Mg) (i : { i : Nat // a.ents.take i = b.ents.take i }) : St :=
 ⟨[(2, true, .d (.ptr 0 0)), (3, true, .d (.ptr 1 0)), (4, true, .d (.bool false)), (5, true, .d (.int .i64 (i.val : Nat)))], [xr a, xr b], [], 1⟩
theorem xd6 (x y : Ue) : (x.sess != y.sess || x.phase != y.phase || !decide (x.moved = y.moved) || !decide (x.opened = y.opened)) = !decide (x = y) := by
 rw [← xd4 x y]
 simp only [Bool.not_and, bne]
set_option maxRecDepth 10000 in
theorem q3r (a b : Mg) (ha : a.Sm) : qg Tryz.prog 34 [.d (.agg (qj a)), .d (.agg (qj b))] [] (.d (.bool (decide (a = b)))) [] := by
 have hl := ha.1
 refine F34.go ?_
 try (refine ev1 @qj.eq_1 ?_; try exact True.intro)
 (repeat (with_reducible refine ob ?_))
 try (refine ev ?_; try exact True.intro)
 refine xk _ (fun h => ?_) (fun h => ?_)
 ·have hne : decide (a = b) = false := by rw [decide_eq_false_iff_not]; rintro rfl; simp at h
  try (refine ev1 @hne ?_; try exact True.intro)
 ·have hr : a.roles = b.roles := by simp at h; omega
  have hlm : a.ents.length = b.ents.length := by simp at h; omega
  try (refine ev ?_; try exact True.intro)
  refine qk (xcg a b) (fun i => a.ents.length - i.val) ⟨0, rfl⟩ ?_ (fun i => ?_)
  ·try (refine ev2 @xcg.eq_1 @xr.eq_1 ?_; try exact True.intro)
  ·obtain ⟨i, hi⟩ := i
   try (refine ev2 @xcg.eq_1 @xr.eq_1 ?_; try exact True.intro)
   refine xk _ (fun h => ?_) (fun h => ?_)
   ·have hil : i < a.ents.length := by simpa using h
    have him : i < b.ents.length := by omega
    have hx := ha.2 _ (List.getElem_mem hil)
    (refine ev3 (qi qf a.ents hil) (qi qf b.ents him) @qf.eq_1 ?_; try exact True.intro)
    (repeat (with_reducible refine ob ?_))
    try (refine ev ?_; try exact True.intro)
    (repeat (with_reducible refine ob ?_))
    (repeat (with_reducible refine ob ?_)); first | refine cl F99 (qll a.ents[i].moved b.ents[i].moved hx.1) ?_ | refine clF F99 (qll a.ents[i].moved b.ents[i].moved hx.1) (fun _ => by (refine ev2 @qf.eq_1 @qj.eq_1 ?_; try exact True.intro)) ?_
    try (refine ev ?_; try exact True.intro)
    (repeat (with_reducible refine ob ?_))
    (repeat (with_reducible refine ob ?_)); first | refine cl F99 (qll a.ents[i].opened b.ents[i].opened hx.2) ?_ | refine clF F99 (qll a.ents[i].opened b.ents[i].opened hx.2) (fun _ => by (refine ev2 @qf.eq_1 @qj.eq_1 ?_; try exact True.intro)) ?_
    try (refine ev1 @xd6 ?_; try exact True.intro)
    (repeat (with_reducible refine ob ?_))
    try (refine ev1 @xd6 ?_; try exact True.intro)
    refine xk _ (fun h2 => ?_) (fun h2 => ?_)
    ·have hne : a.ents[i] ≠ b.ents[i] := by simpa using h2
     have hne2 : decide (a = b) = false := by rw [decide_eq_false_iff_not]; rintro rfl; exact hne rfl
     try (refine ev1 @hne2 ?_; try exact True.intro)
    ·have he : a.ents[i] = b.ents[i] := by simpa using h2
     try (refine ev ?_; try exact True.intro)
     refine ⟨⟨i + 1, wd hi hil him he⟩, ?_, by dsimp only; omega⟩
     try (refine ev3 @xcg.eq_1 @xr.eq_1 (qd (show i < 9223372036854775807 by omega)) ?_; try exact True.intro)
   ·have he : decide (a = b) = true := by
     have h1 := qbh hi (by simpa using h) hlm
     rw [← xd5, hr, h1]; simp
    try (refine ev1 @he ?_; try exact True.intro)
theorem xch (n : Int) : qg Tryz.prog 94 [.d (.int .i64 n)] [] (.tup [.d (.agg (qj (qjn n).1)), .d (.int .i64 (qjn n).2)]) [] := by
 refine F94.goT ?_
 try (refine ev ?_; try exact True.intro)
 (repeat (with_reducible refine ob ?_)); refine xk _ (fun h => ?_) (fun h => ?_)
 ·try (refine ev4 @qjn.eq_1 @h @qj.eq_1 @List.map_nil.{0,0} ?_; try exact True.intro)
 ·try (refine ev4 @qjn.eq_1 @h @qj.eq_1 @List.map_nil.{0,0} ?_; try exact True.intro)
end Go.Proofs.YtkcdbcbpbolgkaaGreatDoor
namespace Go.Proofs.YtkcdbcbpbolgkaaGreatDoor
open Go.Abs
set_option linter.unusedSimpArgs false
noncomputable section
set_option maxRecDepth 100000
set_option linter.defProp false
def d18 := cut Tryz.prog Tryz.f18 news
@[go_sem] def E18 := qm d18
def F18 := fnC d18 follows Tryz.func18
def d200 := cut Tryz.prog Tryz.f200 news
@[go_sem] def E200 := qm d200
def d26 := cut Tryz.prog Tryz.f26 news
@[go_sem] def E26 := qm d26
def F26 := fnC d26 follows Tryz.func26
def d35 := cut Tryz.prog Tryz.f35 news
@[go_sem] def E35 := qm d35
def F35 := fnC d35 follows Tryz.func35
end
def qfh (s r label : Int) : Pk := ⟨3, s, 0, r, 0, 0, label, [], []⟩
def qjq (s label : Int) (marks : List Bool) (r : Nat) : List Pk := if marks.getD r true then [] else [qfh s r label]
def qnk (s label : Int) (marks : List Bool) (n : Nat) : List Pk := (List.range n).flatMap (qjq s label marks)
def za (x : Ue) : List Bool := if x.phase != 1 then x.opened else x.moved
def ww (x : Ue) : Int := if x.phase != 1 then 2 else 1
def q3s (x : Ue) : List Pk := qnk x.sess (ww x) (za x) (za x).length
def wz (m : Mg) (n : Nat) : List Pk := (List.range n).flatMap fun i => q3s (m.ents.getD i default)
def ke (m : Mg) : List Pk := if x9 m then wz m m.ents.length else []
theorem qvp (m : Mg) : wz m 0 = [] := rfl
theorem q7f (s label : Int) (marks : List Bool) : qnk s label marks 0 = [] := rfl
theorem qce (s label : Int) (marks : List Bool) (n : Nat) : qnk s label marks (n + 1) = qnk s label marks n ++ qjq s label marks n := by simp [qnk, List.range_succ]
theorem qb3 (m : Mg) (n : Nat) : wz m (n + 1) = wz m n ++ q3s (m.ents.getD n default) := by simp [wz, List.range_succ]
theorem qim (s label : Int) (marks : List Bool) : ∀ n, (qnk s label marks n).length ≤ n
 | 0 => by simp [qnk]
 | n + 1 => by
  rw [qce, List.length_append]
  have := qim s label marks n
  have : (qjq s label marks n).length ≤ 1 := by unfold qjq; split <;> simp
  omega
theorem qnl (x : Ue) (hx : x.Sm) : (za x).length ≤ 1000 := by unfold za; split; exact hx.2; exact hx.1
theorem q7g (x : Ue) (hx : x.Sm) : (q3s x).length ≤ 1000 := Nat.le_trans (qim _ _ _ _) (qnl x hx)
theorem qc9 (m : Mg) (hm : m.Sm) : ∀ n, n ≤ m.ents.length → (wz m n).length ≤ n * 1000
 | 0, _ => by simp [wz]
 | n + 1, h => by
  have h1 : n < m.ents.length := h
  rw [qb3, List.length_append, ja h1]
  have := qc9 m hm n (by omega)
  have := q7g _ (hm.2 _ (List.getElem_mem h1))
  omega
def qeu (x : Ue) : AObj := .row [.d (.int .i64 x.sess), .d (.int .i64 x.phase), .d (.sl 1 (x.moved.map encB)), .d (.sl 1 (x.opened.map encB))]
def q7h (m : Mg) (i : { i : Nat // i ≤ m.ents.length }) : St :=
 ⟨[(2, true, .d .nilsl), (3, true, .own 0 9 ((wz m i.val).map qq)), (14, true, .d (.sl 4 (m.ents.map qf))), (15, true, .d (.int .i64 m.ents.length)), (16, true, .d (.int .i64 (i.val : Nat)))], [xr m], [0], 1⟩
def qo3 (m : Mg) (i : Nat) (x : Ue) (r : { r : Nat // r ≤ (za x).length }) : St :=
 ⟨[(2, true, .d .nilsl), (3, true, .own 0 9 ((wz m i ++ qnk x.sess (ww x) (za x) r.val).map qq)), (5, true, .d (.ptr 1 0)), (7, true, .d (.int .i64 (ww x))), (14, true, .d (.sl 4 (m.ents.map qf))), (15, true, .d (.int .i64 m.ents.length)), (16, true, .d (.int .i64 (i : Nat))),
  (27, true, .d (.sl 1 ((za x).map encB))), (28, true, .d (.int .i64 (za x).length)), (29, true, .d (.int .i64 (r.val : Nat)))], [xr m, qeu x], [0], 1⟩
theorem xd7 (m : Mg) (hm : m.Sm) (i : Nat) (hi : i < m.ents.length) (x : Ue) (hx : x.Sm) (Q : SExit → St → Prop) (st : St) (h0 : Weak 0 st (qo3 m i x ⟨0, Nat.zero_le _⟩))
  (hQ : ∀ b, Q .normal ⟨(30, true, .d (.bool b)) :: (qo3 m i x ⟨(za x).length, Nat.le_refl _⟩).fr, [xr m, qeu x], [0], 2⟩) : AWp Tryz.prog 0 (.block 2 (.loop (.seq (.region (d18.reg 11) 0 []) (.seq (.cond (.t 30) .skip (.exit 2)) (.seq (.block 3 (.seq (.region (d18.reg 12) 0 []) (.seq (.region (d18.reg 13) 0 []) (.cond (.t 35) (.region (d18.reg 14) 0 []) .skip)))) (.region (d18.reg 15) 0 [])))))) Q st := by
 have hml := qnl x hx
 have hol := qc9 m hm i (by omega)
 have hl := hm.1
 try (refine ev ?_; try exact True.intro)
 refine qk (qo3 m i x) (fun r => (za x).length - r.val) ⟨0, Nat.zero_le _⟩ h0 (fun r => ?_)
 obtain ⟨r, hr⟩ := r
 try (refine ev3 @qo3.eq_1 @xr.eq_1 @qeu.eq_1 ?_; try exact True.intro)
 (repeat (with_reducible refine ob ?_)); refine xk _ (fun h => ?_) (fun h => ?_)
 ·have hil : r < (za x).length := by simpa using h
  (refine ev2 (qi encB (za x) hil) @encB.eq_1 ?_; try exact True.intro)
  (repeat (with_reducible refine ob ?_))
  refine xk _ (fun h2 => ?_) (fun h2 => ?_)
  ·have hb : (za x)[r] = false := by simpa using h2
   have ha : qjq x.sess (ww x) (za x) r = [qfh x.sess r (ww x)] := by simp [qjq, hil, hb]
   have hlt := qim x.sess (ww x) (za x) r
   try (refine ev ?_; try exact True.intro)
   (repeat (with_reducible refine ob ?_))
   refine ⟨⟨r + 1, hil⟩, ?_, by dsimp only; omega⟩
   try simp only [qo3, xr, qeu, qce, ha, ← List.append_assoc, List.map_append, List.map_cons, List.map_nil, qfh, qq, qd (show r < 9223372036854775807 by omega), go_sem, Nat.reduceAdd, Nat.reduceMul, Nat.reduceSub, Nat.reduceEqDiff, Nat.reduceLT, Nat.reduceLeDiff, Nat.reduceBEq, reduceIte, reduceCtorEq, Int.reduceAdd, Int.reduceLT, Int.reduceLE, Int.reduceGT, Int.reduceGE, Int.reduceEq, Int.reduceNe, Int.reduceBEq, Int.reduceBNe, Int.reduceToNat, Int.reduceNeg]
  ·have hb : (za x)[r] = true := by simpa using h2
   have ha : qjq x.sess (ww x) (za x) r = [] := by simp [qjq, hil, hb]
   try (refine ev ?_; try exact True.intro)
   refine ⟨⟨r + 1, hil⟩, ?_, by dsimp only; omega⟩
   try (refine ev7 @qo3.eq_1 @xr.eq_1 @qeu.eq_1 @qce @ha @List.append_nil.{0} (qd (show r < 9223372036854775807 by omega)) ?_; try exact True.intro)
 ·have hil : r = (za x).length := by
   have : (za x).length ≤ r := by simpa using h
   omega
  subst hil
  try (refine ev ?_; try exact True.intro)
  exact hQ _
set_option maxRecDepth 10000 in
theorem qg6 (m : Mg) (hm : m.Sm) : qg Tryz.prog 18 [.d (.agg (qj m))] [] (.d (.sl 9 ((ke m).map qq))) [] := by
 have hl := hm.1
 refine F18.go ?_
 try (refine ev1 @qj.eq_1 ?_; try exact True.intro)
 (repeat (with_reducible refine ob ?_)); first | refine cl F69 (vz m hm) ?_ | refine clF F69 (vz m hm) (fun _ => by (refine ev3 @qf.eq_1 @qj.eq_1 @qq.eq_1 ?_; try exact True.intro)) ?_
 try (refine ev ?_; try exact True.intro)
 refine xk _ (fun hv => ?_) (fun hv => ?_)
 ·have hu : ke m = [] := by simp at hv; simp [ke, hv]
  try (refine ev2 @hu @List.map_nil.{0,0} ?_; try exact True.intro)
 have hu : ke m = wz m m.ents.length := by simp at hv; simp [ke, hv]
 rw [hu]
 try (refine ev ?_; try exact True.intro)
 refine qk (q7h m) (fun i => m.ents.length - i.val) ⟨0, Nat.zero_le _⟩ ?_ (fun i => ?_)
 ·try (refine ev4 @q7h.eq_1 @xr.eq_1 @qvp @List.map_nil.{0,0} ?_; try exact True.intro)
 obtain ⟨i, hi⟩ := i
 try (refine ev2 @q7h.eq_1 @xr.eq_1 ?_; try exact True.intro)
 (repeat (with_reducible refine ob ?_)); refine xk _ (fun h => ?_) (fun h => ?_)
 ·have hil : i < m.ents.length := by simpa using h
  have hx := hm.2 _ (List.getElem_mem hil)
  (refine ev2 (qi qf m.ents hil) @qf.eq_1 ?_; try exact True.intro)
  (repeat (with_reducible refine ob ?_))
  refine xk _ (fun h2 => ?_) (fun h2 => ?_)
  ·have e1 : za m.ents[i] = m.ents[i].opened := by simp only [za, h2, if_true]
   have e2 : ww m.ents[i] = 2 := by simp only [ww, h2, if_true]
   try (refine ev ?_; try exact True.intro)
   refine xd7 m hm i hil m.ents[i] hx _ _ ?_ (fun b => ?_)
   ·try (refine ev7 @qo3.eq_1 @xr.eq_1 @qeu.eq_1 @e1 @e2 @q7f @List.append_nil.{0} ?_; try exact True.intro)
   ·try (refine ev3 @qo3.eq_1 @xr.eq_1 @qeu.eq_1 ?_; try exact True.intro)
    refine ⟨⟨i + 1, hil⟩, ?_, by dsimp only; omega⟩
    try (refine ev6 @q7h.eq_1 @xr.eq_1 @qb3 (ja hil) @q3s.eq_1 (qd (show i < 9223372036854775807 by omega)) ?_; try exact True.intro)
  ·have e1 : za m.ents[i] = m.ents[i].moved := by simp only [za, h2]; rfl
   have e2 : ww m.ents[i] = 1 := by simp only [ww, h2]; rfl
   try (refine ev ?_; try exact True.intro)
   refine xd7 m hm i hil m.ents[i] hx _ _ ?_ (fun b => ?_)
   ·try (refine ev7 @qo3.eq_1 @xr.eq_1 @qeu.eq_1 @e1 @e2 @q7f @List.append_nil.{0} ?_; try exact True.intro)
   ·try (refine ev3 @qo3.eq_1 @xr.eq_1 @qeu.eq_1 ?_; try exact True.intro)
    refine ⟨⟨i + 1, hil⟩, ?_, by dsimp only; omega⟩
    try (refine ev6 @q7h.eq_1 @xr.eq_1 @qb3 (ja hil) @q3s.eq_1 (qd (show i < 9223372036854775807 by omega)) ?_; try exact True.intro)
 ·have hil : i = m.ents.length := by
   have : m.ents.length ≤ i := by simpa using h
   omega
  subst hil
  try (refine ev ?_; try exact True.intro)
def qvq (m : Mg) (i : { i : Nat // i ≤ m.ents.length }) : St :=
 ⟨[(1, true, .d (.ptr 0 0)), (2, true, .d (.ptr 1 0)), (3, true, .d (.ptr 2 0)), (4, true, .d (.int .i64 (i.val : Nat)))],
  [xr m, .row [.d (.int .i64 0), .d .nilsl], .row [.d (.int .i64 m.roles), .own 0 4 ((m.ents.take i.val).map qf)]], [0], 1⟩
set_option maxRecDepth 10000 in
theorem q7i (m : Mg) (hm : m.ents.length ≤ 1000) : qg Tryz.prog 26 [.d (.agg (qj m))] [] (.d (.agg (qj m))) [] := by
 refine F26.go ?_
 try (refine ev1 @qj.eq_1 ?_; try exact True.intro)
 refine qk (qvq m) (fun i => m.ents.length - i.val) ⟨0, Nat.zero_le _⟩ ?_ (fun i => ?_)
 ·try (refine ev2 @qvq.eq_1 @xr.eq_1 ?_; try exact True.intro)
 obtain ⟨i, hi⟩ := i
 try (refine ev2 @qvq.eq_1 @xr.eq_1 ?_; try exact True.intro)
 (repeat (with_reducible refine ob ?_)); refine xk _ (fun h => ?_) (fun h => ?_)
 ·have hil : i < m.ents.length := by simpa using h
  (refine ev2 (qi qf m.ents hil) @qf.eq_1 ?_; try exact True.intro)
  (repeat (with_reducible refine ob ?_))
  have hlt : (m.ents.take i).length ≤ 1000 := by simp; omega
  try (refine ev ?_; try exact True.intro)
  (repeat (with_reducible refine ob ?_))
  refine ⟨⟨i + 1, hil⟩, ?_, by dsimp only; omega⟩
  try (refine ev5 @qvq.eq_1 @xr.eq_1 (qd6 qf m.ents hil) @qf.eq_1 (qd (show i < 9223372036854775807 by omega)) ?_; try exact True.intro)
 ·have hil : i = m.ents.length := by
   have : m.ents.length ≤ i := by simpa using h
   omega
  subst hil
  try (refine ev1 @List.take_length.{0} ?_; try exact True.intro)
set_option maxRecDepth 10000 in
theorem q7j (m : Mg) (hm : m.ents.length ≤ 1000) : qg Tryz.prog 35 [.d (.agg (qj m))] [] (.d (.agg (qj m))) [] := by
 refine F35.go ?_
 try (refine ev1 @qj.eq_1 ?_; try exact True.intro)
 refine qk (qvq m) (fun i => m.ents.length - i.val) ⟨0, Nat.zero_le _⟩ ?_ (fun i => ?_)
 ·try (refine ev2 @qvq.eq_1 @xr.eq_1 ?_; try exact True.intro)
 obtain ⟨i, hi⟩ := i
 try (refine ev2 @qvq.eq_1 @xr.eq_1 ?_; try exact True.intro)
 (repeat (with_reducible refine ob ?_)); refine xk _ (fun h => ?_) (fun h => ?_)
 ·have hil : i < m.ents.length := by simpa using h
  (refine ev2 (qi qf m.ents hil) @qf.eq_1 ?_; try exact True.intro)
  (repeat (with_reducible refine ob ?_))
  have hlt : (m.ents.take i).length ≤ 1000 := by simp; omega
  try (refine ev ?_; try exact True.intro)
  (repeat (with_reducible refine ob ?_))
  refine ⟨⟨i + 1, hil⟩, ?_, by dsimp only; omega⟩
  try (refine ev5 @qvq.eq_1 @xr.eq_1 (qd6 qf m.ents hil) @qf.eq_1 (qd (show i < 9223372036854775807 by omega)) ?_; try exact True.intro)
 ·have hil : i = m.ents.length := by
   have : m.ents.length ≤ i := by simpa using h
   omega
  subst hil
  try (refine ev1 @List.take_length.{0} ?_; try exact True.intro)
end Go.Proofs.YtkcdbcbpbolgkaaGreatDoor
namespace Go.Proofs.YtkcdbcbpbolgkaaGreatDoor
open Go.Abs
set_option linter.unusedSimpArgs false
set_option linter.unusedVariables false
theorem qeg : ∀ a b : List UInt8, Op.bytesLess a b = decide (cmpB a b < 0)
 | [], [] => rfl
 | [], _ :: _ => rfl
 | _ :: _, [] => rfl
 | a :: l, b :: m => by
  have ih := qeg l m
  simp only [cmpB] at ih
  simp only [Op.bytesLess, cmpB, Lib.compareBytes, ih]
  by_cases h1 : a < b
  ·simp [h1]
  ·by_cases h2 : b < a
   ·have : ¬ a = b := by rintro rfl; exact h1 h2
    simp [h1, h2, this]
   ·have : a = b := by
     apply UInt8.toNat_inj.1
     rw [UInt8.lt_iff_toNat_lt] at h1 h2
     omega
    simp [h1, h2, this]
def Sorted (l : List En) : Prop := l.Pairwise fun a b => cmpB a.1 b.1 < 0
theorem Sorted.keys {l : List En} (h : Sorted l) : (l.map (·.1)).Nodup := by
 unfold List.Nodup
 rw [List.pairwise_map]
 exact h.imp fun {a b} hab e => by rw [e, qie] at hab; omega
theorem Sorted.le {l : List En} (h : Sorted l) : l.Pairwise fun a b => cmpB a.1 b.1 ≤ 0 := h.imp fun hab => Int.le_of_lt hab
theorem qf7 {l m : List En} (hl : Sorted l) (hm : Sorted m) (h : ∀ x, x ∈ l ↔ x ∈ m) : l = m :=
 qf5 ((List.perm_ext_iff_of_nodup (qac _ hl.keys) (qac _ hm.keys)).2 h) hl.keys hl.le hm.le
theorem q7k {l : List En} (h : l.Pairwise fun a b => cmpB a.1 b.1 ≤ 0) (hn : (l.map (·.1)).Nodup) : Sorted l := by
 unfold List.Nodup at hn
 rw [List.pairwise_map] at hn
 refine (h.and hn).imp fun {a b} hab => ?_
 obtain ⟨h1, h2⟩ := hab
 rcases Int.lt_or_eq_of_le h1 with h3 | h3
 ·exact h3
 ·exact (h2 (qif h3)).elim
theorem qfi {m : Cont} (h : m.Ok) (p : List UInt8) : Sorted (yi m p) := by
 refine q7k (qb2 _) ?_
 exact ((jt (preL p m.l)).map (fun x : En => x.1)).nodup_iff.2 (qvf h.key)
theorem q01 : ∀ {l : List KV}, (l.map (·.2.1)).Nodup → ∀ {x : KV}, x ∈ l → l.find? (zb x.2.1) = some x
 | [], _, x, hx => by cases hx
 | a :: l, hn, x, hx => by
  rw [List.find?_cons]
  simp only [List.map_cons, List.nodup_cons] at hn
  rcases List.mem_cons.1 hx with rfl | hx'
  ·rw [qad.2 rfl]
  ·have : zb x.2.1 a = false := by
    cases h : zb x.2.1 a with
    | false => rfl
    | true => exact (hn.1 (List.mem_map.2 ⟨x, hx', qad.1 h⟩)).elim
   rw [this]
   exact q01 hn.2 hx'
theorem qnm {m : Cont} (h : m.Ok) (p : List UInt8) (x : En) : x ∈ yi m p ↔ mGet x.1 m = some x.2 ∧ pre p x.1 = true := by
 rw [yi, (jt _).mem_iff, preL, List.mem_map]
 constructor
 ·rintro ⟨y, hy, rfl⟩
  obtain ⟨h1, h2⟩ := List.mem_filter.1 hy
  refine ⟨?_, h2⟩
  unfold mGet enOf
  rw [q01 h.key h1]; rfl
 ·rintro ⟨h1, h2⟩
  unfold mGet at h1
  rw [Option.map_eq_some_iff] at h1
  obtain ⟨y, hy, he⟩ := h1
  have hk := qad.1 (List.find?_some hy)
  refine ⟨y, List.mem_filter.2 ⟨List.mem_of_find?_eq_some hy, by rw [← hk]; exact h2⟩, ?_⟩
  unfold enOf
  rw [← hk, he]
theorem q7l (k : List UInt8) : pre [] k = true := by simp [pre]
def eSet (x : En) : List En → List En
 | [] => [x]
 | y :: l => if Op.bytesLess y.1 x.1 = true then y :: eSet x l else if y.1 = x.1 then x :: l else x :: y :: l
def eDel (k : List UInt8) (l : List En) : List En := l.filter fun e => !(e.1 == k)
def eOp (l : List En) (o : OpS) : List En := if o.del then eDel o.key l else eSet (o.key, o.val) l
def vk : List En → List OpS → List En × Bool
 | l, [] => (l, true)
 | l, o :: r => if (eOp l o).length > 400 then ([], false) else vk (eOp l o) r
theorem qsb {x : En} : ∀ {l : List En}, Sorted l → ∀ y, y ∈ eSet x l ↔ y = x ∨ (y ∈ l ∧ y.1 ≠ x.1)
 | [], _, y => by simp [eSet]
 | a :: l, h, y => by
  have h' := List.pairwise_cons.1 h
  rw [eSet]
  split
  ·rename_i hlt
   rw [qeg, decide_eq_true_eq] at hlt
   have hne : a.1 ≠ x.1 := fun e => by rw [e, qie] at hlt; omega
   rw [List.mem_cons, qsb h'.2, List.mem_cons]
   constructor
   ·rintro (rfl | h1 | ⟨h1, h2⟩)
    ·exact .inr ⟨.inl rfl, hne⟩
    ·exact .inl h1
    ·exact .inr ⟨.inr h1, h2⟩
   ·rintro (h1 | ⟨rfl | h1, h2⟩)
    ·exact .inr (.inl h1)
    ·exact .inl rfl
    ·exact .inr (.inr ⟨h1, h2⟩)
  ·rename_i hlt
   rw [qeg, decide_eq_true_eq] at hlt
   have hge : cmpB x.1 a.1 ≤ 0 := qcd.1 hlt
   have hgt : ∀ z ∈ l, z.1 ≠ x.1 := fun z hz e => by
    have h1 := h'.1 z hz
    rw [e] at h1
    have := qff a.1 x.1
    omega
   split
   ·rename_i he
    simp only [List.mem_cons]
    constructor
    ·rintro (h1 | h1)
     ·exact .inl h1
     ·exact .inr ⟨.inr h1, hgt y h1⟩
    ·rintro (h1 | ⟨rfl | h1, h2⟩)
     ·exact .inl h1
     ·exact (h2 he).elim
     ·exact .inr h1
   ·rename_i he
    simp only [List.mem_cons]
    constructor
    ·rintro (h1 | rfl | h1)
     ·exact .inl h1
     ·exact .inr ⟨.inl rfl, he⟩
     ·exact .inr ⟨.inr h1, hgt y h1⟩
    ·rintro (h1 | ⟨h1 | h1, h2⟩)
     ·exact .inl h1
     ·exact .inr (.inl h1)
     ·exact .inr (.inr h1)
theorem qnn {x : En} : ∀ {l : List En}, Sorted l → Sorted (eSet x l)
 | [], _ => List.pairwise_singleton _ _
 | a :: l, h => by
  have h' := List.pairwise_cons.1 h
  rw [eSet]
  split
  ·rename_i hlt
   rw [qeg, decide_eq_true_eq] at hlt
   refine List.pairwise_cons.2 ⟨fun y hy => ?_, qnn h'.2⟩
   rcases (qsb h'.2 y).1 hy with rfl | ⟨h1, _⟩
   ·exact hlt
   ·exact h'.1 y h1
  ·rename_i hlt
   rw [qeg, decide_eq_true_eq] at hlt
   have hge : cmpB x.1 a.1 ≤ 0 := qcd.1 hlt
   split
   ·rename_i he
    exact List.pairwise_cons.2 ⟨fun y hy => by rw [← he]; exact h'.1 y hy, h'.2⟩
   ·rename_i he
    have hx : cmpB x.1 a.1 < 0 := by
     rcases Int.lt_or_eq_of_le hge with h1 | h1
     ·exact h1
     ·exact (he (qif h1).symm).elim
    refine List.pairwise_cons.2 ⟨fun y hy => ?_, h⟩
    rcases List.mem_cons.1 hy with rfl | hy
    ·exact hx
    ·exact (qdn hge (Int.le_of_lt (h'.1 y hy))).2 (.inl hx)
theorem qyx {k : List UInt8} {l : List En} (h : Sorted l) : Sorted (eDel k l) := List.Pairwise.filter _ h
def ji (m : Cont) : List En := yi m []
theorem yt {m : Cont} (h : m.Ok) : Sorted (ji m) := qfi h []
theorem qeh {m : Cont} (h : m.Ok) (x : En) : x ∈ ji m ↔ mGet x.1 m = some x.2 := by
 rw [ji, qnm h, q7l]; simp
theorem qei {m : Cont} : (ji m).length = m.l.length := by
 have h1 : preL [] m.l = m.l.map enOf := by
  unfold preL
  congr 1
  exact List.filter_eq_self.2 fun x _ => q7l _
 rw [ji, yi, (jt _).length_eq, h1, List.length_map]
theorem xci {m : Cont} (h : m.Ok) (k v : List UInt8) : ji (mPut k v m) = eSet (k, v) (ji m) := by
 have hs := yt h
 refine qf7 (yt (qnc h k v)) (qnn hs) fun x => ?_
 rw [qeh (qnc h k v), qsb hs, qeh h, q0l]
 obtain ⟨a, b⟩ := x
 simp only [Prod.mk.injEq]
 by_cases hk : a = k
 ·subst hk; simp [eq_comm]
 ·simp [hk]
theorem xcj {m : Cont} (h : m.Ok) (k : List UInt8) : ji (mDel k m) = eDel k (ji m) := by
 have hs := yt h
 refine qf7 (yt (qnd h k)) (qyx hs) fun x => ?_
 rw [qeh (qnd h k), eDel, List.mem_filter, qeh h, q0m h]
 by_cases hk : x.1 = k <;> simp [hk]
theorem qds : ∀ (l : List OpS) {m : Cont}, m.Ok → m.l.length ≤ 400 → (jp m l).2 = (vk (ji m) l).2 ∧ ((jp m l).2 = true → ji (jp m l).1 = (vk (ji m) l).1 ∧ (jp m l).1.Ok ∧ (jp m l).1.l.length ≤ 400)
 | [], m, h, hl => ⟨rfl, fun _ => ⟨rfl, h, hl⟩⟩
 | o :: l, m, h, hl => by
  rw [jp, vk, eOp]
  by_cases hd : o.del = true
  ·have hle := q0n o.key m
   rw [if_pos hd, if_pos hd, ← xcj h, qei, if_neg (by omega)]
   exact qds l (qnd h _) (by omega)
  ·rw [if_neg hd, if_neg hd, ← xci h, qei]
   by_cases h4 : (mPut o.key o.val m).l.length > 400
   ·rw [if_pos h4, if_pos h4]
    exact ⟨rfl, fun e => by cases e⟩
   ·rw [if_neg h4, if_neg h4]
    exact qds l (qnc h _ _) (by omega)
def qlb (p : List UInt8) (l : List En) : List En := l.filter fun e => pre p e.1
theorem q7m {m : Cont} (h : m.Ok) (p : List UInt8) : yi m p = qlb p (ji m) := by
 refine qf7 (qfi h p) (List.Pairwise.filter _ (yt h)) fun x => ?_
 rw [qnm h, qlb, List.mem_filter, qeh h]
end Go.Proofs.YtkcdbcbpbolgkaaGreatDoor
namespace Go.Proofs.YtkcdbcbpbolgkaaGreatDoor
open Go.Abs
set_option linter.unusedSimpArgs false
set_option linter.unusedVariables false
noncomputable section
set_option maxRecDepth 100000
set_option linter.defProp false
def d150 := cut Tryz.prog Tryz.f150 news
@[go_sem] def E150 := qm d150
def F150 := fnC d150 follows Tryz.func150
def d165 := cut Tryz.prog Tryz.f165 news
@[go_sem] def E165 := qm d165
def F165 := fnC d165 follows Tryz.func165
def d163 := cut Tryz.prog Tryz.f163 news
@[go_sem] def E163 := qm d163
def F163 := fnC d163 follows Tryz.func163
def d164 := cut Tryz.prog Tryz.f164 news
@[go_sem] def E164 := qm d164
def F164 := fnC d164 follows Tryz.func164
def d162 := cut Tryz.prog Tryz.f162 news
@[go_sem] def E162 := qm d162
def F162 := fnC d162 follows Tryz.func162
def d89 := cut Tryz.prog Tryz.f89 news
@[go_sem] def E89 := qm d89
def F89 := fnC d89 follows Tryz.func89
end
def qfj (n : Int) (i : { x : List UInt8 × Nat // x.1 ++ qbv x.2 = wInt n ∧ x.2 < 18446744073709551616 }) : St :=
 ⟨[(3, true, .d (.int .u64 (i.val.2 : Nat))), (4, true, .own 0 1 (qa i.val.1))], [], [0], 1⟩
theorem qfk (n : Int) (hn : I64 n) : qg Tryz.prog 150 [.d (.int .i64 n)] [] (.own 0 1 (qa (wInt n))) [] := by
 have hz := xbo hn
 obtain ⟨hn1, hn2⟩ := hn
 have hrest : ∀ Q : SExit → St → Prop, True := fun _ => trivial
 refine F150.go ?_
 try (refine ev ?_; try exact True.intro)
 have b128 : ∀ u : Nat, u < 18446744073709551616 → IntKind.u8.wrap (IntKind.u8.wrap ((u : Int).tmod 128) + 128) = ((UInt8.ofNat (u % 128 + 128)).toNat : Int) := by
  intro u hu
  rw [Int.tmod_eq_emod_of_nonneg (by omega), qfc, qfc, show ((u : Int) % 128 % 256 + 128) % 256 = ((u % 128 + 128 : Nat) : Int) by omega]
  simp [UInt8.toNat_ofNat]; omega
 have q128 : ∀ u : Nat, u < 18446744073709551616 → IntKind.u64.wrap ((u : Int).tdiv 128) = ((u / 128 : Nat) : Int) := by
  intro u hu
  rw [Int.tdiv_eq_ediv_of_nonneg (by omega), show ((u : Int) / 128) = ((u / 128 : Nat) : Int) by omega, f2 _ (by omega)]
 refine xk _ (fun h => ?_) (fun h => ?_)
 ·have e : IntKind.u64.wrap (IntKind.u64.wrap (IntKind.u64.wrap (IntKind.i64.wrap (0 - IntKind.i64.wrap (n + 1))) * 2) + 1) = ((zz n : Nat) : Int) := by
   simp at h
   rw [xi (n := n + 1) (by unfold I64; omega), xi (by unfold I64; omega)]
   simp only [qgz]
   unfold zz; rw [if_neg (by omega)]; omega
  try (refine ev1 @e ?_; try exact True.intro)
  refine qk (qfj n) (fun i => i.val.2) ⟨([], zz n), by simp [wInt], hz⟩ ?_ (fun i => ?_)
  ·try (refine ev2 @qfj.eq_1 @xd ?_; try exact True.intro)
  obtain ⟨⟨p, u⟩, hi, hu⟩ := i
  simp only at hi hu
  have hl : p.length ≤ 10 := by
   have h1 := congrArg List.length hi
   have h2 := zk (n := n) ⟨hn1, hn2⟩
   simp at h1; omega
  try (refine ev1 @qfj.eq_1 ?_; try exact True.intro)
  refine xk _ (fun hc => ?_) (fun hc => ?_)
  ·have hc2 : ¬ u < 128 := by simp at hc; omega
   try (refine ev4 (b128 u hu) (q128 u hu) @qab @xf ?_; try exact True.intro)
   (repeat (with_reducible refine ob ?_))
   refine ⟨⟨(p ++ [UInt8.ofNat (u % 128 + 128)], u / 128), ?_, by omega⟩, ?_, by simp only; omega⟩
   ·simp only at hi ⊢; rw [qcp hc2] at hi; rw [← hi]; simp
   ·try (refine ev1 @qfj.eq_1 ?_; try exact True.intro)
  ·have hc2 : u < 128 := by simp at hc; omega
   try (refine ev3 @qr3 @qab @xf ?_; try exact True.intro)
   (repeat (with_reducible refine ob ?_))
   simp only [qa5 hc2] at hi
   try (refine ev1 @hi ?_; try exact True.intro)
 ·have e : IntKind.u64.wrap (IntKind.u64.wrap n * 2) = ((zz n : Nat) : Int) := by
   simp at h
   simp only [qgz]
   unfold zz; rw [if_pos (by omega)]; omega
  try (refine ev1 @e ?_; try exact True.intro)
  refine qk (qfj n) (fun i => i.val.2) ⟨([], zz n), by simp [wInt], hz⟩ ?_ (fun i => ?_)
  ·try (refine ev2 @qfj.eq_1 @xd ?_; try exact True.intro)
  obtain ⟨⟨p, u⟩, hi, hu⟩ := i
  simp only at hi hu
  have hl : p.length ≤ 10 := by
   have h1 := congrArg List.length hi
   have h2 := zk (n := n) ⟨hn1, hn2⟩
   simp at h1; omega
  try (refine ev1 @qfj.eq_1 ?_; try exact True.intro)
  refine xk _ (fun hc => ?_) (fun hc => ?_)
  ·have hc2 : ¬ u < 128 := by simp at hc; omega
   try (refine ev4 (b128 u hu) (q128 u hu) @qab @xf ?_; try exact True.intro)
   (repeat (with_reducible refine ob ?_))
   refine ⟨⟨(p ++ [UInt8.ofNat (u % 128 + 128)], u / 128), ?_, by omega⟩, ?_, by simp only; omega⟩
   ·simp only at hi ⊢; rw [qcp hc2] at hi; rw [← hi]; simp
   ·try (refine ev1 @qfj.eq_1 ?_; try exact True.intro)
  ·have hc2 : u < 128 := by simp at hc; omega
   try (refine ev3 @qr3 @qab @xf ?_; try exact True.intro)
   (repeat (with_reducible refine ob ?_))
   simp only [qa5 hc2] at hi
   try (refine ev1 @hi ?_; try exact True.intro)
theorem qno (s : List UInt8) (hs : s.length ≤ 100000000) : qg Tryz.prog 165 [.d (.sl 1 (qa s))] [] (.own 0 1 (qa (qav s))) [] := by
 have hw := zk (zw (n := s.length) (by omega))
 refine F165.go ?_
 try (refine ev ?_; try exact True.intro)
 refine clA F150 (qfk s.length (zw (by omega))) ?_
 try (refine ev2 @xf @qav.eq_1 ?_; try exact True.intro)
 omega
theorem q3t (s : List UInt8) (hs : s.length ≤ 100000000) : qg Tryz.prog 163 [.d (.str s)] [] (.own 0 1 (qa (qav s))) [] := by
 refine F163.go ?_
 try (refine ev ?_; try exact True.intro)
 refine clA F165 (qno s hs) ?_
 try (refine ev ?_; try exact True.intro)
theorem qp8 (v : Bool) : qg Tryz.prog 164 [.d (.bool v)] [] (.full 1 (qa [if v then 1 else 0])) [] := by
 refine F164.go ?_
 try (refine ev ?_; try exact True.intro)
 have e1 : [[D.int .u8 1]] = qa [1] := rfl
 have e0 : [[D.int .u8 0]] = qa [0] := rfl
 cases v with
 | true =>
  (repeat (with_reducible refine ob ?_)); refine qde ?_
  try (refine ev1 @e1 ?_; try exact True.intro)
 | false =>
  (repeat (with_reducible refine ob ?_)); refine no_ ?_
  try (refine ev1 @e0 ?_; try exact True.intro)
def qyy (o : OpS) : Bool := decide ((o.key.length : Int) ≥ 1) && decide ((o.key.length : Int) ≤ 40) && decide ((o.val.length : Int) ≤ 900) && (!o.del || (o.val.length : Int) == 0)
theorem q3u (o : OpS) : qyy o = jo o := by
 unfold qyy jo
 congr 1
 cases o.del
 ·rfl
 ·rw [Bool.eq_iff_iff]; simp
theorem q3v (o : OpS) : qg Tryz.prog 162 [.d (.agg (qh o))] [] (.d (.bool (jo o))) [] := by
 rw [← q3u]
 refine F162.go ?_
 try (refine ev2 @qh.eq_1 @qyy.eq_1 ?_; try exact True.intro)
 intro h
 exact ⟨h, fun h2 => by rw [h]; simpa using h2⟩
def xck (l : List OpS) (i : { i : Nat // i ≤ l.length ∧ ∀ o ∈ l.take i, jo o = true }) : St :=
 ⟨[(0, true, .d (.sl 3 (l.map qh))), (4, true, .own 0 1 (qa (wInt l.length ++ (l.take i.val).flatMap wOp))), (5, true, .d (.int .i64 (i.val : Nat)))], [], [0], 1⟩
set_option maxRecDepth 10000 in
theorem qda (l : List OpS) (hl : l.length ≤ 100000) : qg Tryz.prog 89 [.d (.sl 3 (l.map qh))] [] (.tup [.d (.sl 1 (qa (qo l).1)), .d (.int .i64 (qo l).2)]) [] := by
 refine F89.goT ?_
 try (refine ev ?_; try exact True.intro)
 (repeat (with_reducible refine ob ?_)); refine xk _ (fun h => ?_) (fun h => ?_)
 ·have hb : qo l = ([], 1) := by
   unfold qo
   rw [if_pos]
   simp at h ⊢
   exact .inl h
  try (refine ev2 @hb @xd ?_; try exact True.intro)
 have hw := zk (zw (n := l.length) (by omega))
 try (refine ev ?_; try exact True.intro)
 refine clA F150 (qfk l.length (zw (by omega))) ?_
 try (refine ev ?_; try exact True.intro)
 refine qk (xck l) (fun i => l.length - i.val) ⟨0, Nat.zero_le _, by simp⟩ ?_ (fun i => ?_)
 ·try (refine ev4 @xck.eq_1 @List.take_zero.{0} @List.flatMap_nil.{0,0} @List.append_nil.{0} ?_; try exact True.intro)
 obtain ⟨i, hi, hp⟩ := i
 try (refine ev1 @xck.eq_1 ?_; try exact True.intro)
 refine xk _ (fun hc => ?_) (fun hc => ?_)
 ·have hil : i < l.length := by simpa using hc
  have hwl := qf1 hp
  have hwt : (l.take i).length ≤ i := by rw [List.length_take]; omega
  try (refine ev2 (qi qh l hil) @qh.eq_1 ?_; try exact True.intro)
  (repeat (with_reducible refine ob ?_))
  have hpo := q3v l[i]
  simp only [qh] at hpo
  (repeat (with_reducible refine ob ?_)); first | refine cl F162 (hpo) ?_ | refine clF F162 (hpo) (fun _ => by (refine ev3 @qh.eq_1 @qs.eq_1 @xn.eq_1 ?_; try exact True.intro)) ?_
  try (refine ev ?_; try exact True.intro)
  refine xk _ (fun hc => ?_) (fun hc => ?_)
  ·have hb : qo l = ([], 1) := by
    unfold qo
    rw [if_pos]
    simp only [Bool.or_eq_true, List.any_eq_true]
    exact .inr ⟨l[i], List.getElem_mem hil, hc⟩
   try (refine ev2 @hb @xd ?_; try exact True.intro)
  have hpi : jo l[i] = true := by simpa using hc
  obtain ⟨q1, q2, q3, _⟩ := js.1 hpi
  try (refine ev2 (qi qh l hil) @qh.eq_1 ?_; try exact True.intro)
  (repeat (with_reducible refine ob ?_))
  have hw2 := qyg hpi
  have hk := qdl l[i].key (by omega)
  have hv := qdl l[i].val (by omega)
  refine clA F163 (q3t l[i].key (by omega)) ?_
  try (refine ev1 @xf ?_; try exact True.intro)
  (repeat (with_reducible refine ob ?_))
  try (refine ev2 (qi qh l hil) @qh.eq_1 ?_; try exact True.intro)
  (repeat (with_reducible refine ob ?_))
  (repeat (with_reducible refine ob ?_)); first | refine cl F164 (qp8 l[i].del) ?_ | refine clF F164 (qp8 l[i].del) (fun _ => by (refine ev3 @qh.eq_1 @qs.eq_1 @xn.eq_1 ?_; try exact True.intro)) ?_
  try (refine ev1 @xf ?_; try exact True.intro)
  (repeat (with_reducible refine ob ?_))
  try (refine ev2 (qi qh l hil) @qh.eq_1 ?_; try exact True.intro)
  (repeat (with_reducible refine ob ?_))
  refine clA F165 (qno l[i].val (by omega)) ?_
  try (refine ev1 @xf ?_; try exact True.intro)
  (repeat (with_reducible refine ob ?_))
  have h1 : wInt l.length ++ (l.take (i + 1)).flatMap wOp = wInt l.length ++ List.flatMap wOp (List.take i l) ++ qav l[i].key ++ [if l[i].del = true then 1 else 0] ++ qav l[i].val := by
   rw [qm7 wOp l hil]; simp [wOp]
  refine ⟨⟨i + 1, hil, fun o ho => ?_⟩, ?_, by dsimp only; omega⟩
  ·rw [List.take_succ_eq_append_getElem hil] at ho
   rcases List.mem_append.1 ho with ho | ho
   ·exact hp o ho
   ·simp at ho; subst ho; exact hpi
  try (refine ev3 @xck.eq_1 @h1 (qd (show i < 9223372036854775807 by omega)) ?_; try exact True.intro)
 ·have hil : i = l.length := by simp at hc; omega
  subst hil
  rw [List.take_length] at hp
  have hwl := qf1 hp
  have hne : ¬ (decide (l.length = 0) || l.any (fun o => !jo o)) = true := by
   simp only [Bool.or_eq_true, decide_eq_true_eq, not_or, List.any_eq_true, not_exists, not_and]
   exact ⟨by simp at h; simpa using h, fun o ho => by simp [hp o ho]⟩
  have hx : wInt l.length ++ l.flatMap wOp = wOps l := rfl
  try (refine ev2 @List.take_length.{0} @hx ?_; try exact True.intro)
  refine ⟨fun h => by rw [h]; rfl, ?_⟩
  refine xk _ (fun hc => ?_) (fun hc => ?_)
  ·have hb : qo l = ([], 6) := by
    unfold qo
    rw [if_neg hne, if_pos]
    simp only [Bool.or_eq_true, decide_eq_true_eq] at hc ⊢
    omega
   try (refine ev2 @hb @xd ?_; try exact True.intro)
  ·have hb : qo l = (wOps l, 0) := by
    unfold qo
    rw [if_neg hne, if_neg]
    simp only [Bool.or_eq_true, Bool.or_eq_false_iff, decide_eq_true_eq, decide_eq_false_iff_not] at hc ⊢
    omega
   try (refine ev1 @hb ?_; try exact True.intro)
end Go.Proofs.YtkcdbcbpbolgkaaGreatDoor
namespace Go.Proofs.YtkcdbcbpbolgkaaGreatDoor
open Go.Abs
set_option linter.unusedSimpArgs false
set_option linter.unusedVariables false
structure Rd where
 b : List UInt8
 pos : Nat
 failed : Bool
 deriving DecidableEq, Inhabited
def rdO (r : Rd) : AObj := .row [.d (.sl 1 (qa r.b)), .d (.int .i64 (r.pos : Nat)), .d (.bool r.failed)]
structure Rd.Ok (r : Rd) : Prop where
 len : r.b.length ≤ 1000000000
 pos : r.pos ≤ r.b.length
def v6 (n : Nat) (r : Rd) : List UInt8 × Rd := if r.failed || decide (r.b.length - r.pos < n) then ([], { r with failed := true }) else ((r.b.drop r.pos).take n, { r with pos := r.pos + n })
noncomputable section
set_option maxRecDepth 100000
set_option linter.defProp false
def d177 := cut Tryz.prog Tryz.f177 news
@[go_sem] def E177 := qm d177
def F177 := fnC d177 follows Tryz.func177
def d288 := cut Tryz.prog Tryz.f288 news
@[go_sem] def E288 := qm d288
def F288 := fnC d288 follows Tryz.func288
def d247 := cut Tryz.prog Tryz.f247 news
@[go_sem] def E247 := qm d247
def F247 := fnC d247 follows Tryz.func247
def d180 := cut Tryz.prog Tryz.f180 news
@[go_sem] def E180 := qm d180
def F180 := fnC d180 follows Tryz.func180
end
theorem q02 (b : List UInt8) (hb : b.length ≤ 1000000000) : qg Tryz.prog 177 [.d (.sl 1 (qa b))] [] (.d (.ptr 0 0)) [rdO ⟨b, 0, false⟩] := by
 refine F177.go ?_
 try (refine ev ?_; try exact True.intro)
 (repeat (with_reducible refine ob ?_))
 try (refine ev2 @rdO.eq_1 @Int.ofNat_zero ?_; try exact True.intro)
theorem qsc (r : Rd) (n : Nat) (hr : r.Ok) (hn : n ≤ 1000000000) : qg Tryz.prog 288 [.d (.ptr 0 0), .d (.int .i64 n)] [rdO r] (.d (.sl 1 (qa (v6 n r).1))) [rdO (v6 n r).2] := by
 have h1 := hr.len
 have h2 := hr.pos
 have e1 : IntKind.i64.wrap ((r.b.length : Int) - (r.pos : Int)) = ((r.b.length - r.pos : Nat) : Int) := by rw [xi (by unfold I64; omega)]; omega
 have e2 : IntKind.i64.wrap ((r.pos : Int) + (n : Int)) = ((r.pos + n : Nat) : Int) := by rw [xi (by unfold I64; omega)]; omega
 have e3 : IntKind.i64.wrap ((r.pos : Int) + (n : Int) - (n : Int)) = ((r.pos : Nat) : Int) := by rw [xi (by unfold I64; omega)]; omega
 have e5 : ((r.pos : Int) + (n : Int)).toNat = r.pos + n := by omega
 refine F288.go ?_
 try (refine ev2 @rdO.eq_1 @e1 ?_; try exact True.intro)
 refine ⟨fun h => by rw [h]; rfl, ?_⟩
 have hd : (r.failed || decide ((n : Int) > ((r.b.length - r.pos : Nat) : Int))) = (r.failed || decide (r.b.length - r.pos < n)) := by
  congr 1; exact decide_eq_decide.2 (by omega)
 refine xk _ (fun h => ?_) (fun h => ?_)
 ·rw [hd] at h
  have hx : v6 n r = ([], { r with failed := true }) := by unfold v6; rw [if_pos h]
  try (refine ev2 @hx @xd ?_; try exact True.intro)
 ·rw [hd] at h
  have hx : v6 n r = ((r.b.drop r.pos).take n, { r with pos := r.pos + n }) := by unfold v6; rw [if_neg (by rw [h]; simp)]
  simp only [Bool.or_eq_false_iff, decide_eq_false_iff_not] at h
  have e4 : r.pos + n - r.pos = n := by omega
  try (refine ev2 @hx @e2 ?_; try exact True.intro)
  try (refine ev1 @e3 ?_; try exact True.intro)
  (repeat (with_reducible refine ob ?_))
  try (refine ev6 @x8 @xm @e4 @e3 @e5 @Int.toNat_natCast ?_; try exact True.intro)
theorem qfl {r : Rd} (hr : r.Ok) (n : Nat) : (v6 n r).2.Ok ∧ (v6 n r).2.b = r.b := by
 unfold v6
 split
 ·exact ⟨⟨hr.len, hr.pos⟩, rfl⟩
 ·rename_i h
  simp only [Bool.or_eq_true, decide_eq_true_eq, not_or] at h
  have := hr.pos
  exact ⟨⟨hr.len, by simp only; omega⟩, rfl⟩
theorem xcl (r : Rd) (hr : r.Ok) : qg Tryz.prog 247 [.d (.ptr 0 0)] [rdO r] (.d (.int .i64 (r.b.length - r.pos : Nat))) [rdO r] := by
 have h1 := hr.len
 have h2 := hr.pos
 have e1 : IntKind.i64.wrap ((r.b.length : Int) - (r.pos : Int)) = ((r.b.length - r.pos : Nat) : Int) := by rw [xi (by unfold I64; omega)]; omega
 refine F247.go ?_
 try (refine ev1 @rdO.eq_1 ?_; try exact True.intro)
 (repeat (with_reducible refine ob ?_)); refine no_ ?_
 try (refine ev1 @e1 ?_; try exact True.intro)
def rEnd (r : Rd) : Int := if r.failed || decide (r.pos < r.b.length) then 4 else 0
theorem q7n (r : Rd) (hr : r.Ok) : qg Tryz.prog 180 [.d (.ptr 0 0)] [rdO r] (.d (.int .i64 (rEnd r))) [rdO r] := by
 have h2 := hr.pos
 have hl := xcl r hr
 simp only [rdO] at hl
 obtain ⟨b, p, f⟩ := r
 refine F180.go ?_
 try (refine ev1 @rdO.eq_1 ?_; try exact True.intro)
 (repeat (with_reducible refine ob ?_)); refine no_ ?_
 cases f
 ·try (refine ev ?_; try exact True.intro)
  (repeat (with_reducible refine ob ?_)); refine clO [0] F247 (hl) ?_
  try (refine ev ?_; try exact True.intro)
  refine xk _ (fun h => ?_) (fun h => ?_)
  ·have hx : rEnd ⟨b, p, false⟩ = 4 := by unfold rEnd; rw [if_pos]; simp at h ⊢; omega
   try (refine ev1 @hx ?_; try exact True.intro)
  ·have hx : rEnd ⟨b, p, false⟩ = 0 := by unfold rEnd; rw [if_neg]; simp at h ⊢; omega
   try (refine ev1 @hx ?_; try exact True.intro)
 ·try (refine ev ?_; try exact True.intro)
  refine qao (.int .i64 0) rfl ?_
  try (refine ev1 @rEnd.eq_1 ?_; try exact True.intro)
  (repeat (with_reducible refine ob ?_)); refine qde ?_
  try (refine ev ?_; try exact True.intro)
def unz (u : Nat) : Int := if u % 2 = 0 then (u / 2 : Nat) else -((u / 2 : Nat) : Int) - 1
def qin : Nat → Nat → Nat → Rd → Int × Rd
 | 0, _, _, r => (0, { r with failed := true })
 | k + 1, i, u, r =>
  if (v6 1 r).2.failed then (0, (v6 1 r).2) else
   if ((v6 1 r).1.headD 0).toNat < 128 then (unz ((u + ((v6 1 r).1.headD 0).toNat % 128 * 128 ^ i) % 18446744073709551616), { (v6 1 r).2 with failed := (((v6 1 r).1.headD 0).toNat == 0 && decide (0 < i)) || (decide (i = 9) && decide (((v6 1 r).1.headD 0).toNat > 1)) })
   else qin k (i + 1) ((u + ((v6 1 r).1.headD 0).toNat % 128 * 128 ^ i) % 18446744073709551616) (v6 1 r).2
def rInt (r : Rd) : Int × Rd := qin 10 0 0 r
noncomputable section
set_option maxRecDepth 100000
set_option linter.defProp false
def d244 := cut Tryz.prog Tryz.f244 news
@[go_sem] def E244 := qm d244
def F244 := fnC d244 follows Tryz.func244
end
theorem qvr {r : Rd} (h : (v6 1 r).2.failed = false) : ∃ c, (v6 1 r).1 = [c] := by
 unfold v6 at h ⊢
 split at h
 ·cases h
 ·rename_i hn
  rw [if_neg hn]
  simp only [Bool.or_eq_true, decide_eq_true_eq, not_or] at hn
  have : r.pos < r.b.length := by omega
  exact ⟨r.b[r.pos], by simp only; rw [List.drop_eq_getElem_cons this]; rfl⟩
theorem qyz (u d i : Nat) (hu : u < 2 ^ i) : u ||| d * 2 ^ i = u + d * 2 ^ i := by
 have := Nat.shiftLeft_add_eq_or_of_lt hu d
 rw [Nat.shiftLeft_eq] at this
 rw [Nat.or_comm, ← this, Nat.add_comm]
theorem q7o (i : Nat) : 128 ^ i = 2 ^ (7 * i) := by rw [Nat.pow_mul]
theorem qnp (n a b : Nat) (ha : a < 2 ^ n) (hb : b < 2 ^ n) : qqz n (a : Int) (b : Int) = ((a &&& b : Nat) : Int) := by
 unfold qqz
 rw [BitVec.ofInt_natCast, BitVec.ofInt_natCast, BitVec.toNat_and, BitVec.toNat_ofNat, BitVec.toNat_ofNat, Nat.mod_eq_of_lt ha, Nat.mod_eq_of_lt hb]
theorem xcm {u c i : Nat} (hi : i ≤ 9) (hu : u < 128 ^ i) (hc : c < 256) :
  IntKind.u64.wrap (bvOr 64 (u : Int) (IntKind.u64.wrap (IntKind.u64.wrap (IntKind.u8.wrap (qqz 8 (c : Int) 127)) * 2 ^ min (7 * i) 64))) = (((u + c % 128 * 128 ^ i) % 18446744073709551616 : Nat) : Int) := by
 have e1 : qqz 8 (c : Int) 127 = ((c % 128 : Nat) : Int) := by
  have := qnp 8 c 127 (by omega) (by omega)
  rw [show c &&& 127 = c % 128 from Nat.and_two_pow_sub_one_eq_mod c 7] at this
  exact this
 have e2 : min (7 * i) 64 = 7 * i := by omega
 have hcm : c % 128 < 128 := Nat.mod_lt _ (by decide)
 rw [e1, e2, qfc, show ((c % 128 : Nat) : Int) % 256 = ((c % 128 : Nat) : Int) by omega, f2 _ (by omega)]
 generalize c % 128 = d at hcm
 have e3 : ((d : Nat) : Int) * 2 ^ (7 * i) = ((d * 2 ^ (7 * i) : Nat) : Int) := by simp
 rw [e3]
 have hp : 128 ^ i ≤ 128 ^ 9 := Nat.pow_le_pow_right (by decide) hi
 have hp9 : (128 : Nat) ^ 9 = 9223372036854775808 := by decide
 have e4 : IntKind.u64.wrap ((d * 2 ^ (7 * i) : Nat) : Int) = ((d * 2 ^ (7 * i) % 18446744073709551616 : Nat) : Int) := by rw [qgz]; omega
 rw [e4, q0g _ _ (by omega) (Nat.mod_lt _ (by decide)), q7o]
 rw [q7o] at hu
 rcases Nat.lt_or_ge i 9 with h9 | h9
 ·have hp8 : 128 ^ i ≤ 128 ^ 8 := Nat.pow_le_pow_right (by decide) (by omega)
  have e8 : (128 : Nat) ^ 8 = 72057594037927936 := by decide
  rw [q7o] at hp8
  have hd : d * 2 ^ (7 * i) ≤ 127 * 72057594037927936 := Nat.mul_le_mul (by omega) (by omega)
  rw [Nat.mod_eq_of_lt (by omega), qyz _ _ _ hu, f2 _ (by omega), Nat.mod_eq_of_lt (by omega)]
 ·have : i = 9 := by omega
  subst this
  have e9 : (2 : Nat) ^ (7 * 9) = 9223372036854775808 := by decide
  rw [e9] at hu ⊢
  have h1 : d * 9223372036854775808 % 18446744073709551616 = d % 2 * 2 ^ 63 := by
   have : (2 : Nat) ^ 63 = 9223372036854775808 := by decide
   rw [this]; omega
  rw [h1, qyz u (d % 2) 63 (by
   have : (2 : Nat) ^ 63 = 9223372036854775808 := by decide
   omega)]
  have : (2 : Nat) ^ 63 = 9223372036854775808 := by decide
  rw [this, f2 _ (by omega)]
  congr 1
  omega
theorem xcn {u : Nat} (h : u < 18446744073709551616) :
  IntKind.i64.wrap (qtc 64 (IntKind.i64.wrap ((u : Int).fdiv (2 ^ min 1 64))) (IntKind.i64.wrap (0 - IntKind.i64.wrap (IntKind.u64.wrap (qqz 64 (u : Int) 1))))) = unz u := by
 have e1 : (u : Int).fdiv (2 ^ min 1 64) = ((u / 2 : Nat) : Int) := by
  show (u : Int).fdiv 2 = _
  rw [Int.fdiv_eq_ediv_of_nonneg _ (by decide)]; omega
 have e2 : qqz 64 (u : Int) 1 = ((u % 2 : Nat) : Int) := by
  have := qnp 64 u 1 (by omega) (by omega)
  rw [show u &&& 1 = u % 2 from Nat.and_two_pow_sub_one_eq_mod u 1] at this
  exact this
 rw [e1, e2, f2 _ (by omega), xi (n := ((u / 2 : Nat) : Int)) (by unfold I64; omega), xi (n := ((u % 2 : Nat) : Int)) (by unfold I64; omega), xi (n := 0 - ((u % 2 : Nat) : Int)) (by unfold I64; omega)]
 unfold qtc unz
 rcases Nat.mod_two_eq_zero_or_one u with hp | hp
 ·rw [hp, if_pos rfl]
  have : BitVec.ofInt 64 (0 - ((0 : Nat) : Int)) = 0#64 := by decide
  rw [this, BitVec.xor_zero, BitVec.ofInt_natCast, BitVec.toNat_ofNat, Nat.mod_eq_of_lt (by omega), xi (by unfold I64; omega)]
 ·rw [hp, if_neg (by decide)]
  have e3 : BitVec.ofInt 64 (0 - ((1 : Nat) : Int)) = BitVec.ofInt 64 18446744073709551615 := by decide
  rw [e3, qgl _ (by omega)]
  simp only [IntKind.wrap, IntKind.bits, IntKind.signed]
  simp
  omega
def xco (i u : Nat) (r : Rd) : St := ⟨[(0, true, .d (.ptr 0 0)), (3, true, .d (.int .u64 (u : Nat))), (6, true, .d (.int .i64 (i : Nat)))], [rdO r], [], 1⟩
set_option maxRecDepth 10000 in
theorem q7p (r : Rd) (hr : r.Ok) : qg Tryz.prog 244 [.d (.ptr 0 0)] [rdO r] (.d (.int .i64 (rInt r).1)) [rdO (rInt r).2] := by
 refine F244.go ?_
 try (refine ev ?_; try exact True.intro)
 refine qk (fun i : { x : Nat × Nat × Rd // x.1 ≤ 10 ∧ x.2.1 < 18446744073709551616 ∧ (x.1 ≤ 9 → x.2.1 < 128 ^ x.1) ∧ x.2.2.Ok ∧ qin (10 - x.1) x.1 x.2.1 x.2.2 = rInt r } => xco i.val.1 i.val.2.1 i.val.2.2) (fun i => 10 - i.val.1) ⟨(0, 0, r), by simp, by simp, by simp, hr, rfl⟩ ?_ (fun i => ?_)
 ·try (refine ev3 @xco.eq_1 @Int.ofNat_zero @rdO.eq_1 ?_; try exact True.intro)
 obtain ⟨⟨i, u, rd⟩, hi, hu, hu2, hrd, hx⟩ := i
 simp only at hi hu hu2 hrd hx
 try (refine ev2 @xco.eq_1 @rdO.eq_1 ?_; try exact True.intro)
 (repeat (with_reducible refine ob ?_)); refine xk _ (fun h => ?_) (fun h => ?_)
 ·have hil : i < 10 := by simp at h; omega
  have hn := qsc rd 1 hrd (by decide)
  obtain ⟨hn1, hn2⟩ := qfl hrd 1
  have hk : 10 - i = (10 - (i + 1)) + 1 := by omega
  rw [hk, qin] at hx
  try (refine ev ?_; try exact True.intro)
  simp only [rdO] at hn
  (repeat (with_reducible refine ob ?_)); refine clO [0] F288 (hn) ?_
  try (refine ev ?_; try exact True.intro)
  cases hf : (v6 1 rd).2.failed with
  | true =>
   rw [if_pos hf] at hx
   (repeat (with_reducible refine ob ?_)); refine qde ?_
   try (refine ev2 hx.symm @hf ?_; try exact True.intro)
  | false =>
   rw [if_neg (by rw [hf]; simp)] at hx
   obtain ⟨c, hc⟩ := qvr hf
   rw [hc] at hx ⊢
   simp only [List.headD_cons] at hx
   (repeat (with_reducible refine ob ?_)); refine no_ ?_
   have hcb : qa [c] = [[.int .u8 (c.toNat : Nat)]] := rfl
   have hlt := qas c
   have hi9 : i ≤ 9 := by omega
   have hu' : (u + c.toNat % 128 * 128 ^ i) % 18446744073709551616 < 18446744073709551616 := Nat.mod_lt _ (by decide)
   have hu2' : i ≤ 8 → (u + c.toNat % 128 * 128 ^ i) % 18446744073709551616 < 128 ^ (i + 1) := fun h8 => by
    have h1 := hu2 (by omega)
    have h2 : c.toNat % 128 < 128 := Nat.mod_lt _ (by decide)
    have h3 : c.toNat % 128 * 128 ^ i ≤ 127 * 128 ^ i := Nat.mul_le_mul_right _ (by omega)
    have h4 := Nat.mod_le (u + c.toNat % 128 * 128 ^ i) 18446744073709551616
    rw [Nat.pow_succ]
    omega
   have a1 : IntKind.i64.wrap (7 * (i : Int)) = ((7 * i : Nat) : Int) := by rw [xi (by unfold I64; omega)]; omega
   try (refine ev3 @hcb @a1 (xcm hi9 (hu2 hi9) hlt) ?_; try exact True.intro)
   refine ⟨by omega, ?_⟩
   generalize (u + c.toNat % 128 * 128 ^ i) % 18446744073709551616 = u' at hx hu' hu2'
   refine xk _ (fun hc => ?_) (fun hc => ?_)
   ·have h128 : c.toNat < 128 := by simp at hc; omega
    simp only [h128, if_true] at hx
    try (refine ev ?_; try exact True.intro)
    have hb : (((c.toNat : Nat) : Int) == 0 && decide ((i : Int) > 0) || ((i : Int) == 9) && decide (((c.toNat : Nat) : Int) > 1)) = (c.toNat == 0 && decide (0 < i) || decide (i = 9) && decide (c.toNat > 1)) := by
     have b1 : (((c.toNat : Nat) : Int) == 0) = (c.toNat == 0) := by rw [Bool.eq_iff_iff]; simp
     have b2 : decide ((i : Int) > 0) = decide (0 < i) := decide_eq_decide.2 (by omega)
     have b3 : ((i : Int) == 9) = decide (i = 9) := by rw [Bool.eq_iff_iff]; simp; omega
     have b4 : decide (((c.toNat : Nat) : Int) > 1) = decide (c.toNat > 1) := decide_eq_decide.2 (by omega)
     rw [b1, b2, b3, b4]
    rw [xcn hu', hb, ← hx]
    exact ⟨fun h => ⟨h, fun h2 => by rw [h, h2]; rfl⟩, fun h => by rw [h]; rfl, rfl, (by simp only [go_sem]), rfl, rfl⟩
   ·have h128 : ¬ c.toNat < 128 := by simp at hc; omega
    simp only [h128, if_false] at hx
    try (refine ev ?_; try exact True.intro)
    refine ⟨⟨(i + 1, u', (v6 1 rd).2), hil, hu', fun h => hu2' (by omega), hn1, hx⟩, ?_, by dsimp only; omega⟩
    try (refine ev4 @xco.eq_1 @rdO.eq_1 @hf (qd (show i < 9223372036854775807 by omega)) ?_; try exact True.intro)
 ·have hil : i = 10 := by simp at h; omega
  subst hil
  have : rInt r = (0, { rd with failed := true }) := hx.symm
  try (refine ev2 @this @rdO.eq_1 ?_; try exact True.intro)
end Go.Proofs.YtkcdbcbpbolgkaaGreatDoor
namespace Go.Proofs.YtkcdbcbpbolgkaaGreatDoor
open Go.Abs
set_option linter.unusedSimpArgs false
set_option linter.unusedVariables false
attribute [go_sem] exists_eq' List.getD_nil
theorem qvs : ∀ (k i u : Nat) {r : Rd}, r.Ok → (qin k i u r).2.Ok ∧ (qin k i u r).2.b = r.b
 | 0, i, u, r, h => ⟨⟨h.len, h.pos⟩, rfl⟩
 | k + 1, i, u, r, h => by
  have hn := qfl h 1
  rw [qin]
  split
  ·exact hn
  ·split
   ·exact ⟨⟨hn.1.len, hn.1.pos⟩, hn.2⟩
   ·have := qvs k (i + 1) ((u + ((v6 1 r).1.headD 0).toNat % 128 * 128 ^ i) % 18446744073709551616) hn.1
    exact ⟨this.1, this.2.trans hn.2⟩
theorem qlm {r : Rd} (h : r.Ok) : (rInt r).2.Ok ∧ (rInt r).2.b = r.b := qvs 10 0 0 h
def Rd.fail (r : Rd) (f : Bool) : Rd := ⟨r.b, r.pos, f⟩
theorem Rd.Ok.fail {r : Rd} (h : r.Ok) (f : Bool) : (r.fail f).Ok := ⟨h.len, h.pos⟩
def xx (lo hi : Int) (r : Rd) : Int × Rd := ((rInt r).1, (rInt r).2.fail ((rInt r).2.failed || decide ((rInt r).1 < lo) || decide ((rInt r).1 > hi)))
def qcy {α : Type} (z : α) (f : Rd → α × Rd) (r : Rd) : α × Rd := if r.failed then (z, r) else if (f r).2.failed then (z, ⟨(f r).2.b, r.pos, (f r).2.failed⟩) else f r
theorem qbi {r : Rd} (h : r.Ok) (lo hi : Int) : (xx lo hi r).2.Ok ∧ (xx lo hi r).2.b = r.b := ⟨(qlm h).1.fail _, (qlm h).2⟩
theorem qej {r : Rd} {lo hi : Int} (h : (xx lo hi r).2.failed = false) : lo ≤ (xx lo hi r).1 ∧ (xx lo hi r).1 ≤ hi := by
 simp only [xx, Rd.fail, Bool.or_eq_false_iff, decide_eq_false_iff_not] at h ⊢
 omega
theorem qio {α : Type} {z : α} {f : Rd → α × Rd} {r : Rd} (h : r.Ok) (hf : (f r).2.Ok ∧ (f r).2.b = r.b) : (qcy z f r).2.Ok ∧ (qcy z f r).2.b = r.b := by
 unfold qcy
 split
 ·exact ⟨h, rfl⟩
 ·split
  ·exact ⟨⟨hf.1.len, by simp only [hf.2]; exact h.pos⟩, hf.2⟩
  ·exact hf
noncomputable section
set_option maxRecDepth 100000
set_option linter.defProp false
def d246 := cut Tryz.prog Tryz.f246 news
@[go_sem] def E246 := qm d246
def F246 := fnC d246 follows Tryz.func246
def d295 := cut Tryz.prog Tryz.f295 news
@[go_sem] def E295 := qm d295
def d292 := cut Tryz.prog Tryz.f292 news
@[go_sem] def E292 := qm d292
def d245 := cut Tryz.prog Tryz.f245 news
@[go_sem] def E245 := qm d245
def F245 := fnC d245 follows Tryz.func245
def d294 := cut Tryz.prog Tryz.f294 news
@[go_sem] def E294 := qm d294
def d243 := cut Tryz.prog Tryz.f243 news
@[go_sem] def E243 := qm d243
def F243 := fnC d243 follows Tryz.func243
def d291 := cut Tryz.prog Tryz.f291 news
@[go_sem] def E291 := qm d291
def d293 := cut Tryz.prog Tryz.f293 news
@[go_sem] def E293 := qm d293
def d178 := cut Tryz.prog Tryz.f178 news
@[go_sem] def E178 := qm d178
def F178 := fnC d178 follows Tryz.func178
def d179 := cut Tryz.prog Tryz.f179 news
@[go_sem] def E179 := qm d179
def F179 := fnC d179 follows Tryz.func179
def d250 := cut Tryz.prog Tryz.f250 news
@[go_sem] def E250 := qm d250
def d251 := cut Tryz.prog Tryz.f251 news
@[go_sem] def E251 := qm d251
def d249 := cut Tryz.prog Tryz.f249 news
@[go_sem] def E249 := qm d249
end
theorem qnr (r : Rd) (lo hi : Int) (hr : r.Ok) : qg Tryz.prog 246 [.d (.ptr 0 0), .d (.int .i64 lo), .d (.int .i64 hi)] [rdO r] (.d (.int .i64 (xx lo hi r).1)) [rdO (xx lo hi r).2] := by
 have hc := q7p r hr
 simp only [rdO] at hc
 refine F246.go ?_
 try (refine ev3 @rdO.eq_1 @xx.eq_1 @Rd.fail.eq_1 ?_; try exact True.intro)
 generalize rInt r = x at hc ⊢
 obtain ⟨n, b, p, f⟩ := x
 (repeat (with_reducible refine ob ?_)); refine clO [0] F244 (hc) ?_
 try (refine ev ?_; try exact True.intro)
 cases f <;> simp
theorem qy1 (r : Rd) (lo hi : Int) (hr : r.Ok) : qg Tryz.prog 245 [.d (.ptr 1 0), .d (.ptr 2 0), .d (.ptr 3 0)] [rdO r, .row [.d (.ptr 0 0)], .row [.d (.int .i64 lo)], .row [.d (.int .i64 hi)]] (.d (.int .i64 (xx lo hi r).1)) [rdO (xx lo hi r).2, .row [.d (.ptr 0 0)], .row [.d (.int .i64 lo)], .row [.d (.int .i64 hi)]] := by
 have hc := qnr r lo hi hr
 simp only [rdO] at hc
 refine F245.go ?_
 try (refine ev1 @rdO.eq_1 ?_; try exact True.intro)
 (repeat (with_reducible refine ob ?_)); refine clO [0] F246 (hc) ?_
 try (refine ev ?_; try exact True.intro)
def yy := qcy (0 : Int) rInt
def qx (lo hi : Int) := qcy (0 : Int) (xx lo hi)
theorem q3y (r : Rd) (hr : r.Ok) : qg Tryz.prog 243 [.d (.ptr 0 0), .d (.func (.func 244) [.ptr 0 0] [])] [rdO r] (.d (.int .i64 (yy r).1)) [rdO (yy r).2] := by
 have hc := q7p r hr
 unfold yy
 unfold qcy
 obtain ⟨b, p, f⟩ := r
 simp only [rdO] at hc
 refine F243.go ?_
 try (refine ev1 @rdO.eq_1 ?_; try exact True.intro)
 cases f
 ·try (refine ev ?_; try exact True.intro)
  (repeat (with_reducible refine ob ?_)); refine no_ ?_
  try (refine ev ?_; try exact True.intro)
  (repeat (with_reducible refine ob ?_)); refine clO [0] F244 (hc) ?_
  try (refine ev ?_; try exact True.intro)
  cases hf : (rInt ⟨b, p, false⟩).2.failed
  ·try (refine ev ?_; try exact True.intro)
   (repeat (with_reducible refine ob ?_)); refine no_ ?_
   try simp only [hf, if_false, go_sem, Nat.reduceAdd, Nat.reduceMul, Nat.reduceSub, Nat.reduceEqDiff, Nat.reduceLT, Nat.reduceLeDiff, Nat.reduceBEq, reduceIte, reduceCtorEq, Int.reduceAdd, Int.reduceLT, Int.reduceLE, Int.reduceGT, Int.reduceGE, Int.reduceEq, Int.reduceNe, Int.reduceBEq, Int.reduceBNe, Int.reduceToNat, Int.reduceNeg]
  ·try (refine ev ?_; try exact True.intro)
   (repeat (with_reducible refine ob ?_)); refine qde ?_
   try (refine ev1 @hf ?_; try exact True.intro)
 ·try (refine ev ?_; try exact True.intro)
  (repeat (with_reducible refine ob ?_)); refine qde ?_
  try (refine ev ?_; try exact True.intro)
theorem qo4 (r : Rd) (lo hi : Int) (hr : r.Ok) : qg Tryz.prog 243 [.d (.ptr 0 0), .d (.func (.func 245) [] [.ptr 1 0, .ptr 2 0, .ptr 3 0])] [rdO r, .row [.d (.ptr 0 0)], .row [.d (.int .i64 lo)], .row [.d (.int .i64 hi)]] (.d (.int .i64 (qx lo hi r).1)) [rdO (qx lo hi r).2, .row [.d (.ptr 0 0)], .row [.d (.int .i64 lo)], .row [.d (.int .i64 hi)]] := by
 have hc := qy1 r lo hi hr
 unfold qx
 unfold qcy
 obtain ⟨b, p, f⟩ := r
 simp only [rdO] at hc
 refine F243.go ?_
 try (refine ev1 @rdO.eq_1 ?_; try exact True.intro)
 cases f
 ·try (refine ev ?_; try exact True.intro)
  (repeat (with_reducible refine ob ?_)); refine no_ ?_
  try (refine ev ?_; try exact True.intro)
  (repeat (with_reducible refine ob ?_)); refine clO [0, 1, 2, 3] F245 (hc) ?_
  try (refine ev ?_; try exact True.intro)
  cases hf : (xx lo hi ⟨b, p, false⟩).2.failed
  ·try (refine ev ?_; try exact True.intro)
   (repeat (with_reducible refine ob ?_)); refine no_ ?_
   try simp only [hf, if_false, go_sem, Nat.reduceAdd, Nat.reduceMul, Nat.reduceSub, Nat.reduceEqDiff, Nat.reduceLT, Nat.reduceLeDiff, Nat.reduceBEq, reduceIte, reduceCtorEq, Int.reduceAdd, Int.reduceLT, Int.reduceLE, Int.reduceGT, Int.reduceGE, Int.reduceEq, Int.reduceNe, Int.reduceBEq, Int.reduceBNe, Int.reduceToNat, Int.reduceNeg]
  ·try (refine ev ?_; try exact True.intro)
   (repeat (with_reducible refine ob ?_)); refine qde ?_
   try (refine ev1 @hf ?_; try exact True.intro)
 ·try (refine ev ?_; try exact True.intro)
  (repeat (with_reducible refine ob ?_)); refine qde ?_
  try (refine ev ?_; try exact True.intro)
theorem xcp (r : Rd) (hr : r.Ok) : qg Tryz.prog 178 [.d (.ptr 0 0)] [rdO r] (.d (.int .i64 (yy r).1)) [rdO (yy r).2] := by
 have hc := q3y r hr
 simp only [rdO] at hc
 refine F178.go ?_
 try (refine ev1 @rdO.eq_1 ?_; try exact True.intro)
 (repeat (with_reducible refine ob ?_)); refine clO [0] F243 (hc) ?_
 try (refine ev ?_; try exact True.intro)
theorem qfn (r : Rd) (lo hi : Int) (hr : r.Ok) : qg Tryz.prog 179 [.d (.ptr 0 0), .d (.int .i64 lo), .d (.int .i64 hi)] [rdO r] (.d (.int .i64 (qx lo hi r).1)) [rdO (qx lo hi r).2] := by
 have hc := qo4 r lo hi hr
 simp only [rdO] at hc
 refine F179.go ?_
 try (refine ev1 @rdO.eq_1 ?_; try exact True.intro)
 refine clO [0, 1, 2, 3] F243 hc ?_
 try (refine ev ?_; try exact True.intro)
end Go.Proofs.YtkcdbcbpbolgkaaGreatDoor
namespace Go.Proofs.YtkcdbcbpbolgkaaGreatDoor
open Go.Abs
set_option linter.unusedSimpArgs false
set_option linter.unusedVariables false
theorem qip {r : Rd} (h : r.Ok) : (yy r).2.Ok ∧ (yy r).2.b = r.b := qio h (qlm h)
theorem qb4 {r : Rd} (h : r.Ok) (lo hi : Int) : (qx lo hi r).2.Ok ∧ (qx lo hi r).2.b = r.b := qio h (qbi h lo hi)
noncomputable section
set_option maxRecDepth 100000
set_option linter.defProp false
def d182 := cut Tryz.prog Tryz.f182 news
@[go_sem] def E182 := qm d182
end
end Go.Proofs.YtkcdbcbpbolgkaaGreatDoor
namespace Go.Proofs.YtkcdbcbpbolgkaaGreatDoor
open Go.Abs
set_option linter.unusedSimpArgs false
set_option linter.unusedVariables false
def dG : Nat → Nat → Nat → List UInt8 → Option (Int × List UInt8)
 | 0, _, _, _ => none
 | _ + 1, _, _, [] => none
 | k + 1, j, u, c :: l =>
  if c.toNat < 128 then (if ((c.toNat == 0 && decide (0 < j)) || (decide (j = 9) && decide (c.toNat > 1))) = true then none else some (unz (u + c.toNat * 128 ^ j), l))
  else dG k (j + 1) (u + c.toNat % 128 * 128 ^ j) l
def dInt (l : List UInt8) : Option (Int × List UInt8) := dG 10 0 0 l
def Got {α : Type} (o : Option (α × List UInt8)) (b : List UInt8) (x : α × Rd) : Prop := match o with
 | some (v, l) => x = (v, ⟨b, b.length - l.length, false⟩)
 | none => x.2.failed = true
def qvu {α : Type} (z : α) (f : Rd → α × Rd) (d : List UInt8 → Option (α × List UInt8)) : Prop :=
 ∀ r : Rd, r.Ok → f r = if r.failed = true then (z, r) else match d (r.b.drop r.pos) with
  | some (v, l) => (v, ⟨r.b, r.b.length - l.length, false⟩)
  | none => (z, ⟨r.b, r.pos, true⟩)
theorem qbj {b : List UInt8} {p : Nat} {q l : List UInt8} (hp : p ≤ b.length) (h : b.drop p = q ++ l) : b.drop (b.length - l.length) = l ∧ l.length ≤ b.length := by
 have h1 := congrArg List.length h
 simp only [List.length_drop, List.length_append] at h1
 have h2 : b.drop (p + q.length) = l := by rw [← List.drop_drop, h, List.drop_left]
 have e : b.length - l.length = p + q.length := by omega
 rw [e]; exact ⟨h2, by omega⟩
theorem qqc {r : Rd} (hr : r.Ok) (hf : r.failed = false) {c : UInt8} {l : List UInt8} (h : r.b.drop r.pos = c :: l) : v6 1 r = ([c], ⟨r.b, r.pos + 1, false⟩) ∧ r.b.drop (r.pos + 1) = l := by
 have hl := congrArg List.length h
 simp only [List.length_drop, List.length_cons] at hl
 have h2 : r.b.drop (r.pos + 1) = l := by rw [← List.drop_drop, h]; rfl
 refine ⟨?_, h2⟩
 unfold v6
 rw [if_neg (by simp [hf]; omega), h, hf]; rfl
theorem qvv {r : Rd} (hf : r.failed = false) (h : r.b.drop r.pos = []) : v6 1 r = ([], ⟨r.b, r.pos, true⟩) := by
 have hl := congrArg List.length h
 simp only [List.length_drop, List.length_nil] at hl
 unfold v6
 rw [if_pos (by simp [hf]; omega)]
theorem qfo {j : Nat} (h : j ≤ 8) : 128 ^ (j + 1) ≤ 9223372036854775808 := by
 have h1 : 128 ^ (j + 1) ≤ 128 ^ 9 := Nat.pow_le_pow_right (by decide) (by omega)
 have h2 : (128 : Nat) ^ 9 = 9223372036854775808 := by decide
 omega
theorem q7y : ∀ (k j u : Nat) {r : Rd}, j + k = 10 → u < 128 ^ j → r.Ok → r.failed = false →
  Got (dG k j u (r.b.drop r.pos)) r.b (qin k j u r)
 | 0, j, u, r, _, _, _, _ => by simp only [Got, dG, qin]
 | k + 1, j, u, r, hj, hu, hr, hf => by
  cases hd : r.b.drop r.pos with
  | nil =>
   simp only [dG]
   rw [qin, qvv hf hd, if_pos rfl]
   exact (rfl : true = true)
  | cons c l =>
   obtain ⟨h1, h2⟩ := qqc hr hf hd
   have hlt := qas c
   have hlen := congrArg List.length hd
   simp only [List.length_drop, List.length_cons] at hlen
   rw [qin, h1, dG]
   simp only [Bool.false_eq_true, if_false, List.headD_cons]
   by_cases hc : c.toNat < 128
   ·simp only [hc, if_true]
    by_cases hb : ((c.toNat == 0 && decide (0 < j)) || (decide (j = 9) && decide (c.toNat > 1))) = true
    ·rw [if_pos hb]
     exact hb
    ·rw [if_neg hb]
     simp only [Bool.not_eq_true] at hb
     have hm : c.toNat % 128 = c.toNat := Nat.mod_eq_of_lt hc
     have hs : u + c.toNat * 128 ^ j < 18446744073709551616 := by
      rcases Nat.lt_or_ge j 9 with h9 | h9
      ·have hp := qfo (j := j) (by omega)
       rw [Nat.pow_succ] at hp
       have : c.toNat * 128 ^ j ≤ 127 * 128 ^ j := Nat.mul_le_mul_right _ (by omega)
       omega
      ·have : j = 9 := by omega
       subst this
       simp at hb
       have e : (128 : Nat) ^ 9 = 9223372036854775808 := by decide
       rw [e] at hu ⊢
       omega
     rw [hm, Nat.mod_eq_of_lt hs]
     simp only [Got, Prod.mk.injEq, Rd.mk.injEq]
     exact ⟨trivial, trivial, by omega, hb⟩
   ·simp only [hc, if_false]
    cases k with
    | zero => simp only [Got, dG, qin]
    | succ k =>
     have hp := qfo (j := j) (by omega)
     have hu2 : u + c.toNat % 128 * 128 ^ j < 128 ^ (j + 1) := by
      have h3 : c.toNat % 128 * 128 ^ j ≤ 127 * 128 ^ j := Nat.mul_le_mul_right _ (by omega)
      rw [Nat.pow_succ]
      omega
     rw [Nat.mod_eq_of_lt (show u + c.toNat % 128 * 128 ^ j < 18446744073709551616 by omega)]
     have ih := q7y (k + 1) (j + 1) (u + c.toNat % 128 * 128 ^ j) (r := ⟨r.b, r.pos + 1, false⟩) (by omega) hu2 ⟨hr.len, by have := hr.pos; simp only; omega⟩ rfl
     rw [show (⟨r.b, r.pos + 1, false⟩ : Rd).b.drop (⟨r.b, r.pos + 1, false⟩ : Rd).pos = l from h2] at ih
     exact ih
theorem xea {r : Rd} (hr : r.Ok) (hf : r.failed = false) : Got (dInt (r.b.drop r.pos)) r.b (rInt r) := q7y 10 0 0 rfl (by decide) hr hf
theorem qf8 {α : Type} {z : α} {f : Rd → α × Rd} {d : List UInt8 → Option (α × List UInt8)} (hi : ∀ r : Rd, r.Ok → (f r).2.b = r.b)
  (h : ∀ r : Rd, r.Ok → r.failed = false → Got (d (r.b.drop r.pos)) r.b (f r)) : qvu z (qcy z f) d := by
 intro r hr
 unfold qcy
 by_cases hf : r.failed = true
 ·rw [if_pos hf, if_pos hf]
 ·rw [if_neg hf, if_neg hf]
  have := h r hr (by simpa using hf)
  cases hd : d (r.b.drop r.pos) with
  | none =>
   rw [hd] at this
   simp only [Got] at this
   rw [if_pos this, hi r hr, this]
  | some x =>
   obtain ⟨v, l⟩ := x
   rw [hd] at this
   simp only [Got] at this
   rw [this, if_neg (by simp)]
theorem qy3 : qvu 0 yy dInt := qf8 (fun r hr => (qlm hr).2) (fun r hr hf => xea hr hf)
def jq (lo hi : Int) (l0 : List UInt8) : Option (Int × List UInt8) := match dInt l0 with
 | some (n, l) => if n < lo ∨ n > hi then none else some (n, l)
 | none => none
theorem qqd (lo hi : Int) {r : Rd} (hr : r.Ok) (hf : r.failed = false) : Got (jq lo hi (r.b.drop r.pos)) r.b (xx lo hi r) := by
 have h := xea hr hf
 unfold jq
 cases hd : dInt (r.b.drop r.pos) with
 | none =>
  rw [hd] at h
  simp only [Got] at h ⊢
  simp only [xx, Rd.fail, h, Bool.true_or]
 | some x =>
  obtain ⟨n, l⟩ := x
  rw [hd] at h
  simp only [Got] at h ⊢
  by_cases hn : n < lo ∨ n > hi
  ·rw [if_pos hn]
   simp only [xx, Rd.fail, h, Bool.false_or]
   simpa using hn
  ·rw [if_neg hn]
   simp only [xx, Rd.fail, h, Bool.false_or]
   have : (decide (n < lo) || decide (n > hi)) = false := by simpa using hn
   rw [this]
theorem qct (lo hi : Int) : qvu 0 (qx lo hi) (jq lo hi) := qf8 (fun r hr => (qbi hr lo hi).2) (fun r hr hf => qqd lo hi hr hf)
end Go.Proofs.YtkcdbcbpbolgkaaGreatDoor
namespace Go.Proofs.YtkcdbcbpbolgkaaGreatDoor
open Go.Abs
set_option linter.unusedSimpArgs false
set_option linter.unusedVariables false
noncomputable section
set_option maxRecDepth 100000
set_option linter.defProp false
def d96 := cut Tryz.prog Tryz.f96 news
@[go_sem] def E96 := qm d96
def F96 := fnC d96 follows Tryz.func96
end
def qns (b : List UInt8) (pos : Nat) (f : Bool) (i u : Nat) : St :=
 ⟨[(0, true, .d (.ptr 0 0)), (3, true, .d (.int .u64 (u : Nat))), (4, true, .d (.int .u64 (128 ^ (i - pos) % 18446744073709551616 : Nat))), (5, true, .d (.int .i64 (i : Nat)))], [rdO ⟨b, pos, f⟩], [], 1⟩
theorem xcr {u d j : Nat} (hu : u < 128 ^ j) (hd : d < 128) (hj : j ≤ 9) (h9 : j = 9 → d ≤ 1) :
  IntKind.u64.wrap ((u : Int) + IntKind.u64.wrap ((d : Int) * ((128 ^ j % 18446744073709551616 : Nat) : Int))) = ((u + d * 128 ^ j : Nat) : Int) ∧ u + d * 128 ^ j < 18446744073709551616 ∧ u + d * 128 ^ j < 128 ^ (j + 1) := by
 have hp : 128 ^ j ≤ 128 ^ 9 := Nat.pow_le_pow_right (by decide) hj
 have hp9 : (128 : Nat) ^ 9 = 9223372036854775808 := by decide
 rw [Nat.mod_eq_of_lt (by omega)]
 have hs : d * 128 ^ j ≤ 9223372036854775808 := by
  rcases Nat.lt_or_ge j 9 with h | h
  ·have := qfo (j := j) (by omega)
   rw [Nat.pow_succ] at this
   have : d * 128 ^ j ≤ 127 * 128 ^ j := Nat.mul_le_mul_right _ (by omega)
   omega
  ·have : j = 9 := by omega
   subst this
   have := h9 rfl
   rw [hp9]; omega
 have h3 : d * 128 ^ j ≤ 127 * 128 ^ j := Nat.mul_le_mul_right _ (by omega)
 refine ⟨?_, by omega, by rw [Nat.pow_succ]; omega⟩
 rw [show ((d : Int) * ((128 ^ j : Nat) : Int)) = ((d * 128 ^ j : Nat) : Int) by rw [Int.natCast_mul], f2 _ (by omega), show ((u : Int) + ((d * 128 ^ j : Nat) : Int)) = ((u + d * 128 ^ j : Nat) : Int) by omega, f2 _ (by omega)]
theorem q31 (j : Nat) : IntKind.u64.wrap (((128 ^ j % 18446744073709551616 : Nat) : Int) * 128) = ((128 ^ (j + 1) % 18446744073709551616 : Nat) : Int) := by
 rw [qgz, Nat.pow_succ]
 generalize 128 ^ j = x
 omega
set_option maxRecDepth 10000 in
theorem qln (r : Rd) (hr : r.Ok) : qg Tryz.prog 96 [.d (.ptr 0 0)] [rdO r] (.d (.int .i64 (yy r).1)) [rdO (yy r).2] := by
 have hrd := qy3 r hr
 obtain ⟨hln, hpos⟩ := hr
 obtain ⟨b, pos, f⟩ := r
 simp only at hln hpos hrd
 refine F96.go ?_
 cases f
 ·simp only [Bool.false_eq_true, if_false] at hrd
  have w9 : IntKind.i64.wrap ((pos : Int) + 9) = ((pos + 9 : Nat) : Int) := by rw [xi (by unfold I64; omega)]; omega
  have w10 : IntKind.i64.wrap ((pos : Int) + 10) = ((pos + 10 : Nat) : Int) := by rw [xi (by unfold I64; omega)]; omega
  try (refine ev1 @rdO.eq_1 ?_; try exact True.intro)
  refine qk (fun x : { x : Nat × Nat // pos ≤ x.1 ∧ x.1 ≤ pos + 10 ∧ x.1 ≤ b.length ∧ x.2 < 128 ^ (x.1 - pos) ∧ dG (10 - (x.1 - pos)) (x.1 - pos) x.2 (b.drop x.1) = dInt (b.drop pos) } => qns b pos false x.val.1 x.val.2) (fun x => pos + 10 - x.val.1)
   ⟨(pos, 0), Nat.le_refl _, by simp, hpos, by simp, by simp only [Nat.sub_self]; rfl⟩ ?_ (fun x => ?_)
  ·have e1 : 128 ^ (pos - pos) % 18446744073709551616 = 1 := by rw [Nat.sub_self]
   try (refine ev4 @qns.eq_1 @e1 @rdO.eq_1 @Int.ofNat_zero ?_; try exact True.intro)
  obtain ⟨⟨i, u⟩, h1, h2, h3, h4, h5⟩ := x
  simp only at h1 h2 h3 h4 h5
  have hnone : dInt (b.drop pos) = none → yy ⟨b, pos, false⟩ = (0, ⟨b, pos, true⟩) := fun h => by rw [hrd, h]
  try (refine ev3 @qns.eq_1 @rdO.eq_1 @w10 ?_; try exact True.intro)
  refine xk _ (fun hc => ?_) (fun hc => ?_)
  ·simp only [Bool.and_eq_true, decide_eq_true_eq] at hc
   have hil : i < b.length := by omega
   have hi10 : i < pos + 10 := by omega
   rw [List.drop_eq_getElem_cons hil, show 10 - (i - pos) = (10 - (i + 1 - pos)) + 1 by omega, dG] at h5
   have hlt := qas b[i]
   have hd : IntKind.u64.wrap (((b[i].toNat : Nat) : Int).tmod 128) = ((b[i].toNat % 128 : Nat) : Int) := by
    rw [Int.tmod_eq_emod_of_nonneg (by omega), show ((b[i].toNat : Nat) : Int) % 128 = ((b[i].toNat % 128 : Nat) : Int) by omega, f2 _ (by omega)]
   try (refine ev3 (xl b hil) @hd @w9 ?_; try exact True.intro)
   refine ⟨by omega, ?_⟩
   refine xk _ (fun hb => ?_) (fun hb => ?_)
   ·have hx : dInt (b.drop pos) = none := by
     simp at hb
     rw [← h5]
     by_cases hc : b[i].toNat < 128
     ·rw [if_pos hc, if_pos]
      simp; omega
     ·rw [if_neg hc, show 10 - (i + 1 - pos) = 0 by omega]; rfl
    try (refine ev1 (hnone hx) ?_; try exact True.intro)
   ·have hb2 : i - pos = 9 → b[i].toNat % 128 ≤ 1 := by
     intro h9
     simp at hb
     have := hb (by omega)
     omega
    obtain ⟨s1, s2, s3⟩ := xcr h4 (Nat.mod_lt b[i].toNat (show 128 > 0 by decide)) (show i - pos ≤ 9 by omega) hb2
    have s4 := q31 (i - pos)
    try (refine ev3 @s1 @s4 (xl b hil) ?_; try exact True.intro)
    (repeat (with_reducible refine ob ?_))
    refine xk _ (fun hc => ?_) (fun hc => ?_)
    ·have hc2 : ¬ b[i].toNat < 128 := by simp at hc; omega
     rw [if_neg hc2] at h5
     try (refine ev ?_; try exact True.intro)
     have hj : i + 1 - pos = i - pos + 1 := by omega
     refine ⟨⟨(i + 1, u + b[i].toNat % 128 * 128 ^ (i - pos)), by simp only; omega, by simp only; omega, by simp only; omega, by simp only [hj]; exact s3, by simp only [hj] at h5 ⊢; exact h5⟩, ?_, by simp only; omega⟩
     try (refine ev4 @qns.eq_1 @rdO.eq_1 @hj (qd (show i < 9223372036854775807 by omega)) ?_; try exact True.intro)
    ·have hc2 : b[i].toNat < 128 := by simp at hc; omega
     rw [if_pos hc2] at h5
     have hm : b[i].toNat % 128 = b[i].toNat := Nat.mod_eq_of_lt hc2
     rw [hm] at s1 s2 s3 hb2 hb
     try (refine ev1 @hm ?_; try exact True.intro)
     refine xk _ (fun hz => ?_) (fun hz => ?_)
     ·have hx : dInt (b.drop pos) = none := by
       rw [← h5, if_pos]
       simp at hz ⊢; omega
      try (refine ev1 (hnone hx) ?_; try exact True.intro)
     ·have hx : yy ⟨b, pos, false⟩ = (unz (u + b[i].toNat * 128 ^ (i - pos)), ⟨b, i + 1, false⟩) := by
       rw [hrd, ← h5, if_neg (by simp at hz hb ⊢; omega)]
       simp only [List.length_drop]
       rw [show b.length - (b.length - (i + 1)) = i + 1 by omega]
      generalize hU : u + b[i].toNat * 128 ^ (i - pos) = u' at s2 hx ⊢
      have hU2 : (u : Int) + ((b[i].toNat * 128 ^ (i - pos) : Nat) : Int) = ((u' : Nat) : Int) := by rw [← hU, Int.natCast_add]
      have q2 : (u' : Int).tmod 2 = ((u' % 2 : Nat) : Int) := by rw [Int.tmod_eq_emod_of_nonneg (by omega)]; omega
      have q3 : IntKind.u64.wrap ((u' : Int).tdiv 2) = ((u' / 2 : Nat) : Int) := by rw [Int.tdiv_eq_ediv_of_nonneg (by omega), show ((u' : Int) / 2) = ((u' / 2 : Nat) : Int) by omega, f2 _ (by omega)]
      have q4 : IntKind.i64.wrap ((u' / 2 : Nat) : Int) = ((u' / 2 : Nat) : Int) := xi (by unfold I64; omega)
      try (refine ev3 @hU2 @hx (qd (show i < 9223372036854775807 by omega)) ?_; try exact True.intro)
      try (refine ev2 @q2 @hx ?_; try exact True.intro)
      rcases Nat.mod_two_eq_zero_or_one u' with hp | hp
      ·have q5 : unz u' = ((u' / 2 : Nat) : Int) := by unfold unz; rw [if_pos hp]
       have q6 : ((((u' % 2 : Nat) : Int)) == 1) = false := by rw [hp]; rfl
       try (refine ev1 @q6 ?_; try exact True.intro)
       (repeat (with_reducible refine ob ?_)); refine no_ ?_
       try (refine ev4 @hU2 @q3 @q4 @q5 ?_; try exact True.intro)
      ·have q5 : unz u' = IntKind.i64.wrap (IntKind.i64.wrap (0 - ((u' / 2 : Nat) : Int)) - 1) := by
        unfold unz; rw [if_neg (by omega), xi (n := 0 - ((u' / 2 : Nat) : Int)) (by unfold I64; omega), xi (by unfold I64; omega)]; omega
       have q6 : ((((u' % 2 : Nat) : Int)) == 1) = true := by rw [hp]; rfl
       try (refine ev1 @q6 ?_; try exact True.intro)
       (repeat (with_reducible refine ob ?_)); refine qde ?_
       try (refine ev4 @hU2 @q3 @q4 @q5 ?_; try exact True.intro)
  ·have hx : dInt (b.drop pos) = none := by
    rw [← h5]
    simp only [Bool.and_eq_false_iff, decide_eq_false_iff_not] at hc
    rcases Nat.lt_or_ge i (pos + 10) with hi | hi
    ·rw [List.drop_of_length_le (by omega), show 10 - (i - pos) = (9 - (i - pos)) + 1 by omega]; rfl
    ·rw [show 10 - (i - pos) = 0 by omega]; rfl
   try (refine ev1 (hnone hx) ?_; try exact True.intro)
 ·simp only [if_true] at hrd
  try (refine ev2 @rdO.eq_1 @hrd ?_; try exact True.intro)
  refine qk (fun x : Unit => qns b pos true pos 0) (fun x => 0) () ?_ (fun x => ?_)
  ·have e1 : 128 ^ (pos - pos) % 18446744073709551616 = 1 := by rw [Nat.sub_self]
   try (refine ev4 @qns.eq_1 @e1 @rdO.eq_1 @Int.ofNat_zero ?_; try exact True.intro)
  try (refine ev2 @qns.eq_1 @rdO.eq_1 ?_; try exact True.intro)
  (repeat (with_reducible refine ob ?_)); refine no_ ?_
  try (refine ev ?_; try exact True.intro)
end Go.Proofs.YtkcdbcbpbolgkaaGreatDoor
namespace Go.Proofs.YtkcdbcbpbolgkaaGreatDoor
open Go.Abs
set_option linter.unusedSimpArgs false
set_option linter.unusedVariables false
noncomputable section
set_option maxRecDepth 100000
set_option linter.defProp false
def d309 := cut Tryz.prog Tryz.f309 news
@[go_sem] def E309 := qm d309
def d257 := cut Tryz.prog Tryz.f257 news
@[go_sem] def E257 := qm d257
def d259 := cut Tryz.prog Tryz.f259 news
@[go_sem] def E259 := qm d259
def d260 := cut Tryz.prog Tryz.f260 news
@[go_sem] def E260 := qm d260
def d258 := cut Tryz.prog Tryz.f258 news
@[go_sem] def E258 := qm d258
def d98 := cut Tryz.prog Tryz.f98 news
@[go_sem] def E98 := qm d98
def F98 := fnC d98 follows Tryz.func98
end
theorem q03 (r : Rd) (hr : r.Ok) : qg Tryz.prog 98 [.d (.ptr 0 0)] [rdO r] (.d (.int .i64 (rEnd r))) [rdO r] := by
 obtain ⟨hln, hpos⟩ := hr
 obtain ⟨b, pos, f⟩ := r
 simp only at hln hpos
 refine F98.go ?_
 cases f
 ·try (refine ev1 @rdO.eq_1 ?_; try exact True.intro)
  refine xk _ (fun h => ?_) (fun h => ?_)
  ·have hx : rEnd ⟨b, pos, false⟩ = 4 := by unfold rEnd; rw [if_pos]; simp at h ⊢; omega
   try (refine ev1 @hx ?_; try exact True.intro)
  ·have hx : rEnd ⟨b, pos, false⟩ = 0 := by unfold rEnd; rw [if_neg]; simp at h ⊢; omega
   try (refine ev1 @hx ?_; try exact True.intro)
 ·try (refine ev1 @rdO.eq_1 ?_; try exact True.intro)
  (repeat (with_reducible refine ob ?_)); refine qde ?_
  try (refine ev1 @rEnd.eq_1 ?_; try exact True.intro)
noncomputable section
set_option maxRecDepth 100000
set_option linter.defProp false
def d194 := cut Tryz.prog Tryz.f194 news
@[go_sem] def E194 := qm d194
end
end Go.Proofs.YtkcdbcbpbolgkaaGreatDoor
