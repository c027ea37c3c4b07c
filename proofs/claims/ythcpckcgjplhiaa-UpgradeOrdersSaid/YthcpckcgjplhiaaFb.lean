/- slices.Insert at a struct: its contract. -/
import Derived.Test.YthcpckcgjplhiaaFa
namespace Go.Proofs.Ythcpckcgjplhiaa
open Go.Abs Go.RowKit Go.Lib
set_option linter.unusedSimpArgs false
set_option linter.unusedVariables false

section
variable {P : Program} {g : Ghost} {w : World}

/-- One element, from a row. -/
theorem one_source {es vb vc : Nat} {curv : Array Value} {ev : TypeId} (hv : w.heap[vb]? = some (.cells curv ev (0, 0))) (h : es ≤ curv.size) :
    Go.Abs.Source P es (.slice (some ⟨vb, 0, none⟩) 1 vc) 1 w (curv.toList.take es) ∧ (Builtin.firstCells es 1 (.slice (some ⟨vb, 0, none⟩) 1 vc)).run P w.drew = .ok (curv.toList.take es).toArray w.drew := by
  have hq : curv.toList.length = curv.size := Array.length_toList
  have key : ∀ W : World, W.heap = w.heap → (Builtin.firstCells es 1 (.slice (some ⟨vb, 0, none⟩) 1 vc)).run P W = .ok (curv.toList.take es).toArray W := by
    intro W hW
    refine run_firstCells_some (P := P) W es 1 _ _ _ _ (by rw [List.length_take]; omega) (fun j v hj => ?_)
    rw [List.getElem?_take] at hj
    split at hj
    · rw [Addr.add_lit, Nat.zero_add]
      have hv' : W.heap[vb]? = some (.cells curv ev (0, 0)) := by rw [hW]; exact hv
      simpa [World.cell?, hv'] using hj
    · cases hj
  exact ⟨⟨by simp [Builtin.lenOf], key w rfl⟩, key w.drew rfl⟩
end

theorem drop_take' {α : Type} (l : List α) (a b : Nat) : (l.drop a).take b = (l.take (a + b)).drop a := by rw [List.drop_take]; congr 1; omega

theorem flat_take {es : Nat} : ∀ {rows : List (List D)}, (∀ r ∈ rows, r.length = es) → ∀ i, (rows.take i).flatten = rows.flatten.take (i * es)
  | [], _, i => by simp
  | r :: l, h, 0 => by simp
  | r :: l, h, i + 1 => by
    have hr : r.length = es := h r (by simp)
    rw [List.take_succ_cons, List.flatten_cons, List.flatten_cons, flat_take (fun x hx => h x (by simp [hx])) i, List.take_append, hr, Nat.succ_mul]
    rw [List.take_of_length_le (show r.length ≤ i * es + es by omega)]
    congr 2
    omega
theorem flat_drop {es : Nat} : ∀ {rows : List (List D)}, (∀ r ∈ rows, r.length = es) → ∀ i, (rows.drop i).flatten = rows.flatten.drop (i * es)
  | [], _, i => by simp
  | r :: l, h, 0 => by simp
  | r :: l, h, i + 1 => by
    have hr : r.length = es := h r (by simp)
    rw [List.drop_succ_cons, List.flatten_cons, flat_drop (fun x hx => h x (by simp [hx])) i, List.drop_append, hr, Nat.succ_mul]
    rw [List.drop_of_length_le (show r.length ≤ i * es + es by omega), List.nil_append]
    congr 1
    omega

theorem shift_prefix (cur : Array Value) (k : Nat) (a m : List Value) (ha : a.length = 4) (hk : k + 4 ≤ cur.size) : ∃ rest, (putAt (putAt cur (k + 4) m) k a).toList = cur.toList.take k ++ a ++ m ++ rest := by
  have hq : cur.toList.length = cur.size := Array.length_toList
  have hl : (cur.toList.take (k + 4)).length = k + 4 := by rw [List.length_take]; omega
  refine ⟨cur.toList.drop (k + 4 + m.length), ?_⟩
  simp only [putAt_list, ha]
  rw [List.append_assoc (cur.toList.take (k + 4)), List.take_append_of_le_length (by omega), List.take_take, Nat.min_eq_left (by omega), List.drop_left' hl]
  simp
theorem grow_prefix (cur : Array Value) (k : Nat) (a m : List Value) (ha : a.length = 4) (hk : k + 4 ≤ cur.size) : ∃ rest, (putAt (putAt cur k a) (k + 4) m).toList = cur.toList.take k ++ a ++ m ++ rest := by
  have hq : cur.toList.length = cur.size := Array.length_toList
  have hl : (cur.toList.take k ++ a).length = k + 4 := by simp [ha]; omega
  exact ⟨_, by simp only [putAt_list]; rw [List.take_left' hl]⟩
theorem prefix_get {c : Array Value} {L rest : List Value} (h : c.toList = L ++ rest) : ∀ (j : Nat) (u : Value), L[j]? = some u → c[j]? = some u := by
  intro j u hj
  have hlt : j < L.length := (List.getElem?_eq_some_iff.1 hj).1
  rw [← Array.getElem?_toList, h, List.getElem?_append_left hlt]
  exact hj

theorem setRow_size (w : World) (b : Nat) (c : Array Value) : (w.setRow b c).heap.size = w.heap.size := by simp [World.setRow]
theorem World.drew_heap' (w : World) : w.drew.heap = w.heap := rfl

set_option maxRecDepth 10000 in
set_option maxHeartbeats 1000000 in
theorem insert_ok (rows : List (List D)) (row : List D) (i : Nat) (hi : i ≤ rows.length) (hl : rows.length ≤ 1000) (hr : row.length = 4) :
    ACall Try.prog 87 [.uni 0 4 rows, .d (.int .i64 i), .uni 1 4 [row]] [] (.uni 0 4 (rows.take i ++ [row] ++ rows.drop i)) [] := by
  intro g w vs hd hlen hv ho
  obtain ⟨i0, hi0, hz0, hzs, hzb⟩ := info_parts (P := Try.prog) (e := 128) (z := .agg #[.int .i64 0, .int .i64 0, .slice none 0 0, .slice none 0 0]) (size := 4) (bytes := 64) (by kernel_rfl)
  match vs, hlen with
  | [v0, v1, v2], _ =>
  have h0 := (hv 0 v0 _ rfl rfl).2 (by simp [toksOf, ASlot.toks])
  have h1 : v1 = .int .i64 i := rv_int (hv 1 v1 _ rfl rfl)
  have h2 := (hv 2 v2 _ rfl rfl).2 (by simp [toksOf, ASlot.toks])
  subst h1
  obtain ⟨vb, vc, curv, ev, rfl, gv, hhv, _, _, hvs, _, hrlv⟩ := uni_row h2 (by simp)
  have hvs4 : 4 ≤ curv.size := by
    have : 1 ≤ vc := by simpa using (by assumption : [row].length ≤ vc)
    omega
  simp only [List.length_singleton, Nat.one_mul, List.flatten_cons, List.flatten_nil, List.append_nil] at hrlv
  obtain ⟨src, srcd⟩ := one_source (P := Try.prog) (vc := vc) hhv hvs4
  have fin : ∀ {g' : Ghost} {W : World} {v : Value} {rows' : List (List D)}, Qt (fun _ => False) g w g' W [0] [0] → RC g' W [0] v (.uni 0 4 rows') →
      ∃ v' g'' live', Ending.returned v = .returned v' ∧ G g w g'' W ∧ Dom g'' W ∧ (∀ t ∈ (ASlot.uni 0 4 rows').toks, t ∈ live') ∧ RS g'' W live' v' (.uni 0 4 rows') ∧ ObjsOk g'' W live' [] := by
    intro g' W v rows' hq hrc
    refine ⟨v, g', [0], rfl, hq.toG, hq.dom, by simp [ASlot.toks], rs_of_rc hrc, ⟨fun id o h => by simp at h, fun b b' id h1 h2 => ho.inj b b' id (hq.objB b id h1) (hq.objB b' id h2), fun b id h => ?_⟩⟩
    obtain ⟨o, ho', _⟩ := ho.ids b id (hq.objB b id h)
    simp at ho'
  by_cases hin : i = rows.length
  · subst hin
    rw [List.take_length, List.drop_length, List.append_nil]
    have more : ∀ (base : Option Addr) (cap : Nat) (olds : List Value), cap < rows.length + 1 → rows.length ≤ cap → (base = none → cap = 0) → (∀ r ∈ rows, r.length = 4) → RL g w olds rows.flatten →
        (Builtin.firstCells 4 rows.length (.slice base rows.length cap)).run Try.prog w.drew = .ok olds.toArray w.drew →
        Calls Try.prog 87 #[.slice base rows.length cap, .int .i64 rows.length, .slice (some ⟨vb, 0, none⟩) 1 vc] w fun e w' => ∃ v g' live', e = .returned v ∧ G g w g' w' ∧ Dom g' w' ∧ (∀ t ∈ (ASlot.uni 0 4 (rows ++ [row])).toks, t ∈ live') ∧ RS g' w' live' v (.uni 0 4 (rows ++ [row])) ∧ ObjsOk g' w' live' [] := by
      intro base cap olds hc hc0 hb0 hes ho1 ho2
      have key : ∀ ty, ∃ v w' g', (Builtin.append_ #[72, 72] ty #[.slice base rows.length cap, .slice (some ⟨vb, 0, none⟩) 1 vc]).run Try.prog w = .ok v w' ∧ Qt (fun _ => False) g w g' w' [0] [0] ∧ RC g' w' [0] v (.uni 0 4 (rows ++ [row])) := fun ty => by
        have := append_moreU (P := Try.prog) (T := fun _ => False) (live := [0]) (live' := [0]) (g := g) (w := w) (t := 72) (u := 72) (ty := ty) (r := [row]) (news := curv.toList.take 4) (x := .slice (some ⟨vb, 0, none⟩) 1 vc) hd Try.underlying72 hi0 hz0 (by rw [hzs]; rfl) (.inl ⟨_, Try.underlying72⟩) (by omega) (base := base) (sCap := cap) (l := rows) (olds := olds) (by rw [hzs]; exact hes) ho1 (by rw [hzs]; exact ho2) src.1 (by rw [hzs]; exact srcd) (by simpa using hrlv) (by rw [hzs]; simpa using hr) (by simpa using hc) (by simp; omega) (by rw [hzb]; simp; omega) 0 (fun t h => h.elim)
        rwa [hzs] at this
      obtain ⟨v, W, g', k1, k2, k3⟩ := key 0
      have hall : ∀ ty, (Builtin.append_ #[72, 72] ty #[.slice base rows.length cap, .slice (some ⟨vb, 0, none⟩) 1 vc]).run Try.prog w = .ok v W := fun ty => k1
      refine (ins_end w base vb rows.length cap vc v W hall hc0 (by omega) hb0).mono (fun e w' he => ?_)
      obtain ⟨rfl, rfl⟩ := he
      exact fin k2 k3
    rcases h0 with ⟨ad, rfl, hr0⟩ | ⟨b, cap, cur, e, rfl, gb, hb, hle, hcm, hcs, hes, hcell⟩
    · subst hr0
      refine more ad 0 [] (by simp) (by simp) (fun _ => rfl) (by simp) ⟨by simp, by simp, by simp⟩ ?_
      cases ad with
      | none => simp [Builtin.firstCells]
      | some a0 => exact run_firstCells_some (P := Try.prog) w.drew 4 0 a0 _ _ [] (by simp) (by simp)
    · by_cases hroom : rows.length + 1 ≤ cap
      · have key : ∀ ty, ∃ v w' g', (Builtin.append_ #[72, 72] ty #[.slice (some ⟨b, 0, none⟩) rows.length cap, .slice (some ⟨vb, 0, none⟩) 1 vc]).run Try.prog w = .ok v w' ∧ Qt (fun _ => False) g w g' w' [0] [0] ∧ RC g' w' [0] v (.uni 0 4 (rows ++ [row])) := fun ty => by
          have := append_fitsU (P := Try.prog) (T := fun _ => False) (live := [0]) (live' := [0]) (g := g) (w := w) (t := 72) (u := 72) (ty := ty) (r := [row]) (news := curv.toList.take 4) (x := .slice (some ⟨vb, 0, none⟩) 1 vc) hd Try.underlying72 hi0 (.inl ⟨_, Try.underlying72⟩) (l := rows) (by rw [hzs]; exact hes) hcell gb hb hcm (by rw [hzs]; exact hcs) (by rw [hzs]; exact src) (by simpa using hrlv) (by rw [hzs]; simpa using hr) (by simpa using hroom) 0 (fun t h => h.elim)
          rwa [hzs] at this
        obtain ⟨v, W, g', k1, k2, k3⟩ := key 0
        have hall : ∀ ty, (Builtin.append_ #[72, 72] ty #[.slice (some ⟨b, 0, none⟩) rows.length cap, .slice (some ⟨vb, 0, none⟩) 1 vc]).run Try.prog w = .ok v W := fun ty => k1
        refine (ins_end w _ vb rows.length cap vc v W hall hle (by unfold maxLen at hcm; omega) (fun h => by cases h)).mono (fun e w' he => ?_)
        obtain ⟨rfl, rfl⟩ := he
        exact fin k2 k3
      · have hu : UniOk g w 0 4 rows (.slice (some ⟨b, 0, none⟩) rows.length cap) := .inr ⟨b, cap, cur, e, rfl, gb, hb, hle, hcm, hcs, hes, hcell⟩
        obtain ⟨base', cap', olds, hv', _, hes', ho1, ho2⟩ := olds_uni (P := Try.prog) hu
        cases hv'
        exact more _ cap olds (by omega) hle (fun h => by cases h) hes ho1 ho2
  · have hlt : i < rows.length := by omega
    have hne : rows ≠ [] := by rintro rfl; simp at hlt
    obtain ⟨b, cap, cur, e, rfl, gb, hb, hle, hcm, hcs, hes, hrl⟩ := uni_row h0 hne
    have hq : cur.toList.length = cur.size := Array.length_toList
    have hqv : curv.toList.length = curv.size := Array.length_toList
    have hnb : vb ≠ b := by rintro rfl; rw [gb] at gv; cases gv
    have hrow4 : rows.length * 4 ≤ cap * 4 := Nat.mul_le_mul_right _ hle
    have hfl : rows.flatten.length = rows.length * 4 := flat_length hes
    have htake : (cur.toList.drop (i * 4)).take ((rows.length - i) * 4) = (cur.toList.take (rows.length * 4)).drop (i * 4) := by rw [drop_take']; congr 2; omega
    have hone1 : ∀ v ∈ (cur.toList.drop (i * 4)).take ((rows.length - i) * 4), v.oneCell' = true := by rw [htake]; exact (hrl.drop (i * 4)).ones
    have hone2 : ∀ v ∈ curv.toList.take 4, v.oneCell' = true := hrlv.ones
    have htk : cur.toList.take (i * 4) = (cur.toList.take (rows.length * 4)).take (i * 4) := by rw [List.take_take, Nat.min_eq_left (by omega)]
    have hnew : (rows.take i ++ [row] ++ rows.drop i).flatten = rows.flatten.take (i * 4) ++ row ++ rows.flatten.drop (i * 4) := by simp [flat_take hes, flat_drop hes]
    have hnl : (rows.take i ++ [row] ++ rows.drop i).length = rows.length + 1 := by simp; omega
    have hes2 : ∀ r ∈ rows.take i ++ [row] ++ rows.drop i, r.length = 4 := by
      intro r h
      simp only [List.append_assoc, List.mem_append, List.mem_singleton] at h
      rcases h with h | h | h
      · exact hes r (List.mem_of_mem_take h)
      · subst h; exact hr
      · exact hes r (List.mem_of_mem_drop h)
    generalize hL : cur.toList.take (i * 4) ++ curv.toList.take 4 ++ (cur.toList.drop (i * 4)).take ((rows.length - i) * 4) = L
    have hLr : RL g w L (rows.take i ++ [row] ++ rows.drop i).flatten := by
      rw [← hL, hnew, htake, htk]
      exact ((hrl.take (i * 4)).append hrlv).append (hrl.drop (i * 4))
    by_cases hroom : rows.length + 1 ≤ cap
    · obtain ⟨c1, hc1⟩ : ∃ c1, c1 = putAt cur ((i + 1) * 4) ((cur.toList.drop (i * 4)).take ((rows.length - i) * 4)) := ⟨_, rfl⟩
      refine (ins_shift w b vb rows.length cap i vc cur curv e ev hb hhv hnb hlt hroom (by unfold maxLen at hcm; omega) hcs hvs4 hone1 hone2 c1 hc1).mono (fun ex W he => ?_)
      obtain ⟨rfl, rfl⟩ := he
      have ha4 : (curv.toList.take 4).length = 4 := by rw [List.length_take]; omega
      have hm : ((cur.toList.drop (i * 4)).take ((rows.length - i) * 4)).length = (rows.length - i) * 4 := by rw [List.length_take, List.length_drop]; omega
      obtain ⟨rest, hrest⟩ := shift_prefix cur (i * 4) (curv.toList.take 4) ((cur.toList.drop (i * 4)).take ((rows.length - i) * 4)) ha4 (by omega)
      rw [show i * 4 + 4 = (i + 1) * 4 by omega, ← hc1, hL] at hrest
      have hs1 : c1.size = cur.size := by rw [hc1]; exact putAt_size _ _ _ (by rw [hm]; omega)
      have hs2 : (putAt c1 (i * 4) (curv.toList.take 4)).size = cur.size := by rw [putAt_size _ _ _ (by rw [ha4, hs1]; omega), hs1]
      have hh1 : (w.drew.setRow b c1).heap[b]? = some (.cells c1 e (0, 0)) := setRow_heap w.drew b cur c1 e (0, 0) hb
      have hh2 := setRow_heap (w.drew.setRow b c1) b c1 (putAt c1 (i * 4) (curv.toList.take 4)) e (0, 0) hh1
      have hq2 : Qt (fun _ => False) g w g ((w.drew.setRow b c1).setRow b (putAt c1 (i * 4) (curv.toList.take 4))) [0] [0] :=
        Qt.setUni hd rfl rfl rfl gb (by simp [World.setRow]) (fun k hk => by rw [setRow_other _ _ _ _ hk, setRow_other _ _ _ _ hk]; rfl)
      refine fin hq2 ?_
      rw [← hnl]
      exact rc_uni_of gb hh2 (by omega) hcm (by rw [hs2]; exact hcs) hes2 (hLr.quiet hd hq2) (prefix_get hrest)
    · refine (ins_grow w b vb rows.length cap i vc cur curv e ev hb hhv hlt hle (by omega) (by omega) hcs hvs4 hone1 hone2).mono (fun ex W he => ?_)
      obtain ⟨G, R, c1, c2, rfl, hG1, hG2, hR, hc1, hc2, rfl⟩ := he
      have ha4 : (curv.toList.take 4).length = 4 := by rw [List.length_take]; omega
      have hm : ((cur.toList.drop (i * 4)).take ((rows.length - i) * 4)).length = (rows.length - i) * 4 := by rw [List.length_take, List.length_drop]; omega
      have hlt4 : (cur.toList.take (i * 4)).length = i * 4 := by rw [List.length_take]; omega
      have hRs : R.size = G * 4 := by
        rw [hR]
        simp only [Array.size_append, size_zeros, List.size_toArray, hlt4]
        simp
        omega
      obtain ⟨rest, hrest⟩ := grow_prefix R (i * 4) (curv.toList.take 4) ((cur.toList.drop (i * 4)).take ((rows.length - i) * 4)) ha4 (by omega)
      have hRt : R.toList.take (i * 4) = cur.toList.take (i * 4) := by
        rw [hR]
        simp only [Array.toList_append, List.append_assoc]
        exact List.take_left' hlt4
      rw [show i * 4 + 4 = (i + 1) * 4 by omega, ← hc1, ← hc2, hRt, hL] at hrest
      have hs1 : c1.size = R.size := by rw [hc1]; exact putAt_size _ _ _ (by rw [ha4]; omega)
      have hs2 : c2.size = R.size := by rw [hc2, putAt_size _ _ _ (by rw [hm, hs1]; omega), hs1]
      have hn0 : (w.alloc (.cells R 128)).drew.heap[w.heap.size]? = some (.cells R 128 (0, 0)) := heap_alloc_new w _
      have hh1 : ((w.alloc (.cells R 128)).drew.setRow w.heap.size c1).drew.heap[w.heap.size]? = some (.cells c1 128 (0, 0)) := setRow_heap _ _ R c1 _ _ hn0
      have hh2 := setRow_heap _ w.heap.size c1 c2 _ _ hh1
      have hq2 : Qt (fun _ => False) g w (g.at w.heap.size (.uni 0)) (((w.alloc (.cells R 128)).drew.setRow w.heap.size c1).drew.setRow w.heap.size c2) [0] [0] :=
        Qt.addUni (W := ((w.alloc (.cells R 128)).drew.setRow w.heap.size c1).drew.setRow w.heap.size c2) hd rfl rfl rfl 0 (by rw [setRow_size, World.drew_heap', setRow_size]; exact Array.size_push _) (fun k hk => by
          rw [setRow_other _ _ _ _ (by omega)]
          show ((w.alloc (.cells R 128)).drew.setRow w.heap.size c1).heap[k]? = _
          rw [setRow_other _ _ _ _ (by omega)]
          exact heap_alloc_old w (.cells R 128) hk)
      refine fin hq2 ?_
      rw [← hnl]
      exact rc_uni_of (Ghost.at_same _ _ _) hh2 (by omega) hG2 (by rw [hs2, hRs]; exact Nat.le_refl _) hes2 (hLr.quiet hd hq2) (prefix_get hrest)
end Go.Proofs.Ythcpckcgjplhiaa
