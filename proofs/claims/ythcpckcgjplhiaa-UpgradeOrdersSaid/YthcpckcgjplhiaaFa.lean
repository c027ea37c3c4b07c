/- slices.Insert at a struct: one element, into a slice that is ours alone. -/
import Derived.Test.YthcpckcgjplhiaaBe
import Derived.Test.YthcpckcgjplhiaaCa
import Derived.Shelf.Spec.SlicesInsertGrow
import Derived.KernelRfl
namespace Go.Proofs.Ythcpckcgjplhiaa
open Go.Abs Go.RowKit Go.Lib
set_option linter.unusedSimpArgs false
set_option linter.unusedVariables false

theorem hov (w : World) (b vb off lb cb vc : Nat) (cur curv : Array Value) (e ev : TypeId) (hb : w.heap[b]? = some (.cells cur e (0, 0))) (hv : w.heap[vb]? = some (.cells curv ev (0, 0))) (hne : vb ≠ b) (h0 : cur.size ≠ 0) :
    (callFunc 113 #[.slice (some ⟨vb, 0, none⟩) 1 vc, .slice (some ⟨b, off, none⟩) lb cb]).run Try.prog w = .ok (.value (.bool false)) w := by
  rw [run_callFunc_extern Try.func113 rfl (by kernel_rfl) (by kernel_rfl) (e := Extern.SlicesOverlaps.overlaps #[72, 72] #[4]) (by kernel_rfl),
    Lib.run_overlaps_apart w 72 4 128 Try.underlying72 4 Try.sizeOf128 ⟨vb, 0, none⟩ ⟨b, off, none⟩ 1 vc lb cb hne ev e curv.size cur.size (by simp [World.shape?, hv]) (by simp [World.shape?, hb]) h0 (by simp [World.frozen?, hv]) (by simp [World.frozen?, hv])]
  rfl

set_option maxHeartbeats 2000000 in
set_option maxRecDepth 100000 in
theorem ins_shift (w : World) (b vb n c i vc : Nat) (cur curv : Array Value) (e ev : TypeId) (hb : w.heap[b]? = some (.cells cur e (0, 0))) (hv : w.heap[vb]? = some (.cells curv ev (0, 0))) (hne : vb ≠ b) (hi : i < n) (hr : n + 1 ≤ c) (hc : c ≤ 9223372036854775807)
    (hcs : c * 4 ≤ cur.size) (hvs : 4 ≤ curv.size) (h1 : ∀ v ∈ (cur.toList.drop (i * 4)).take ((n - i) * 4), v.oneCell' = true) (h2 : ∀ v ∈ curv.toList.take 4, v.oneCell' = true) (c1 : Array Value) (hc1 : c1 = putAt cur ((i + 1) * 4) ((cur.toList.drop (i * 4)).take ((n - i) * 4))) :
    Calls Try.prog 87 #[.slice (some ⟨b, 0, none⟩) n c, .int .i64 i, .slice (some ⟨vb, 0, none⟩) 1 vc] w fun ex w' =>
      ex = .returned (.slice (some ⟨b, 0, none⟩) (n + 1) c) ∧ w' = (w.drew.setRow b c1).setRow b (putAt c1 (i * 4) (curv.toList.take 4)) := by
  obtain ⟨i0, hi0, hz0, hzs, hzb⟩ := info_parts (P := Try.prog) (e := 128) (z := .agg #[.int .i64 0, .int .i64 0, .slice none 0 0, .slice none 0 0]) (size := 4) (bytes := 64) (by kernel_rfl)
  have hz2 : ¬ ((i : Int) = (n : Int)) := by omega
  have hz3 : ¬ ((c : Int) < (n : Int) + 1) := by omega
  have mixed := follows
  have hov' := fun lb cb => hov w b vb ((i + 1) * 4) lb cb vc cur curv e ev hb hv hne (by omega)
  have hwn : IntKind.i64.wrap ((n : Int) + 1) = (n : Int) + 1 := by rw [IntKind.wrap_i64]; omega
  have hwi : IntKind.i64.wrap ((i : Int) + 1) = (i : Int) + 1 := by rw [IntKind.wrap_i64]; omega
  have hb1 : (0 : Int) ≤ (i : Int) + 1 := by omega
  have hb3 : (i : Int) + 1 ≤ (n : Int) + 1 := by omega
  have htn : ((i : Int) + 1).toNat = i + 1 := by omega
  have htn2 : ((n : Int) + 1).toNat = n + 1 := by omega
  have u72 := run_underlying Try.underlying72
  have s128 := Try.sizeOf128
  have hb4 : (i : Int) ≤ (n : Int) + 1 := by omega
  have hci : ¬ (c = i) := by omega
  have hci1 : ¬ (c = i + 1) := by omega
  have hq : cur.toList.length = cur.size := Array.length_toList
  have hqv : curv.toList.length = curv.size := Array.length_toList
  have hle1 : (n - i) * 4 + (i + 1) * 4 ≤ c * 4 := by rw [← Nat.add_mul]; exact Nat.mul_le_mul_right _ (by omega)
  have hl1 : ((cur.toList.drop (i * 4)).take ((n - i) * 4)).length = (n - i) * 4 := by rw [List.length_take, List.length_drop]; omega
  have hcp1 : ∀ ty dc sc, (Builtin.copy_ #[72, 72] ty #[.slice (some ⟨b, (i + 1) * 4, none⟩) (n - i) dc, .slice (some ⟨b, i * 4, none⟩) (n + 1 - i) sc]).run Try.prog w.drew = .ok (.int .i64 ((n - i : Nat) : Int)) (w.drew.setRow b c1) := fun ty dc sc => by
    have := copy_rows (P := Try.prog) (u := 72) (ty := ty) Try.underlying72 hi0 w.drew b ((i + 1) * 4) (n - i) dc cur e hb b (i * 4) (n + 1 - i) sc cur e hb (n - i) (by simp only [Nat.min_def]; split <;> omega) (by rw [hzs]; omega) (by rw [hzs]; omega) (by rw [hzs]; exact h1)
    rw [hzs, ← hc1] at this
    exact this
  have hs1 : c1.size = cur.size := by rw [hc1]; exact putAt_size _ _ _ (by rw [hl1]; omega)
  have hcp2 : ∀ (W : World), W.heap = (w.drew.setRow b c1).heap → ∀ ty dc, (Builtin.copy_ #[72, 72] ty #[.slice (some ⟨b, i * 4, none⟩) (n + 1 - i) dc, .slice (some ⟨vb, 0, none⟩) 1 vc]).run Try.prog W = .ok (.int .i64 ((1 : Nat) : Int)) (W.setRow b (putAt c1 (i * 4) (curv.toList.take 4))) := fun W hW ty dc => by
    have hb' : W.heap[b]? = some (.cells c1 e (0, 0)) := by rw [hW]; exact setRow_heap w.drew b cur c1 e (0, 0) hb
    have hv' : W.heap[vb]? = some (.cells curv ev (0, 0)) := by rw [hW, setRow_other w.drew b vb c1 hne]; exact hv
    have := copy_rows (P := Try.prog) (u := 72) (ty := ty) Try.underlying72 hi0 W b (i * 4) (n + 1 - i) dc c1 e hb' vb 0 1 vc curv ev hv' 1 (by simp only [Nat.min_def]; split <;> omega) (by rw [hzs]; omega) (by rw [hzs]; omega) (by rw [hzs]; simpa using h2)
    rw [hzs] at this
    simpa using this
  go_enter Try.func87, Try.ntmps87
  go_wp2_with (simp only [hov'])
  go_region_law_o (refine step_copy_runI rfl _ _ 72 72 rfl _ _ (by simp [Act.eval, Act.put]) (by simp [Act.eval, Act.put]) (hcp1 _ _ _) ?_)
  go_wp2_with (at_builtin; refine wpList_copy_runI _ rfl _ _ 72 72 rfl _ _ rfl rfl (hcp2 _ rfl _ _) ?_)
  go_ret
  exact ⟨rfl, by rw [hc1]⟩

set_option maxHeartbeats 2000000 in
set_option maxRecDepth 100000 in
theorem ins_end (w : World) (sv : Option Addr) (vb n c vc : Nat) (r : Value) (W : World) (hrun : ∀ ty, (Builtin.append_ #[72, 72] ty #[.slice sv n c, .slice (some ⟨vb, 0, none⟩) 1 vc]).run Try.prog w = .ok r W) (hn : n ≤ c) (hc : c ≤ 9223372036854775807) (h0 : sv = none → c = 0) :
    Calls Try.prog 87 #[.slice sv n c, .int .i64 n, .slice (some ⟨vb, 0, none⟩) 1 vc] w fun ex w' => ex = .returned r ∧ w' = W := by
  have mixed := follows
  have u72 := run_underlying Try.underlying72
  have s128 := Try.sizeOf128
  cases sv with
  | none =>
    have hc0 := h0 rfl
    have hn0 : n = 0 := by omega
    subst hc0; subst hn0
    go_enter Try.func87, Try.ntmps87
    go_wp2_with (at_builtin; refine Lib.wpList_append_run _ rfl _ _ _ _ rfl _ _ rfl rfl _ _ (hrun _) ?_)
    go_ret
    exact ⟨rfl, rfl⟩
  | some ad =>
    go_enter Try.func87, Try.ntmps87
    go_wp2_with (at_builtin; refine Lib.wpList_append_run _ rfl _ _ _ _ rfl _ _ rfl rfl _ _ (hrun _) ?_)
    all_goals (go_ret; exact ⟨rfl, rfl⟩)

set_option maxHeartbeats 2000000 in
set_option maxRecDepth 100000 in
theorem ins_grow (w : World) (b vb n c i vc : Nat) (cur curv : Array Value) (e ev : TypeId) (hb : w.heap[b]? = some (.cells cur e (0, 0))) (hv : w.heap[vb]? = some (.cells curv ev (0, 0))) (hi : i < n) (hn : n ≤ c) (hr : c < n + 1) (hbig : (n + 1) * 64 ≤ 140737488355328)
    (hcs : c * 4 ≤ cur.size) (hvs : 4 ≤ curv.size) (h1 : ∀ v ∈ (cur.toList.drop (i * 4)).take ((n - i) * 4), v.oneCell' = true) (h2 : ∀ v ∈ curv.toList.take 4, v.oneCell' = true) :
    Calls Try.prog 87 #[.slice (some ⟨b, 0, none⟩) n c, .int .i64 i, .slice (some ⟨vb, 0, none⟩) 1 vc] w fun ex w' =>
      ∃ G R c1 c2, ex = .returned (.slice (some ⟨w.heap.size, 0, none⟩) (n + 1) G) ∧ n + 1 ≤ G ∧ G ≤ maxLen ∧ R = ((cur.toList.take (i * 4)).toArray ++ Builtin.zeroCells #[.int .i64 0, .int .i64 0, .slice none 0 0, .slice none 0 0] (n + 1 - i) ++ Builtin.zeroCells #[.int .i64 0, .int .i64 0, .slice none 0 0, .slice none 0 0] (G - (n + 1))) ∧
        c1 = putAt R (i * 4) (curv.toList.take 4) ∧ c2 = putAt c1 ((i + 1) * 4) ((cur.toList.drop (i * 4)).take ((n - i) * 4)) ∧ w' = (((w.alloc (.cells R 128)).drew.setRow w.heap.size c1).drew).setRow w.heap.size c2 := by
  have mixed := follows
  obtain ⟨i0, hi0, hz0, hzs, hzb⟩ := info_parts (P := Try.prog) (e := 128) (z := .agg #[.int .i64 0, .int .i64 0, .slice none 0 0, .slice none 0 0]) (size := 4) (bytes := 64) (by kernel_rfl)
  have u72 := run_underlying Try.underlying72
  have s128 := Try.sizeOf128
  have hz2 : ¬ ((i : Int) = (n : Int)) := by omega
  have hz3 : (c : Int) < (n : Int) + 1 := by omega
  have hwn : IntKind.i64.wrap ((n : Int) + 1) = (n : Int) + 1 := by rw [IntKind.wrap_i64]; omega
  have hwi : IntKind.i64.wrap ((i : Int) + 1) = (i : Int) + 1 := by rw [IntKind.wrap_i64]; omega
  have hkk : (n : Int) + 1 - (i : Int) = ((n + 1 - i : Nat) : Int) := by omega
  have hwk : IntKind.i64.wrap ((n : Int) + 1 - (i : Int)) = (n : Int) + 1 - (i : Int) := by rw [IntKind.wrap_i64]; omega
  have hik : i + (n + 1 - i) = n + 1 := by omega
  have hq : cur.toList.length = cur.size := Array.length_toList
  have hqv : curv.toList.length = curv.size := Array.length_toList
  have hle0 : i * 4 ≤ c * 4 := Nat.mul_le_mul_right _ (by omega)
  have hle1 : (n - i) * 4 + i * 4 ≤ c * 4 := by rw [← Nat.add_mul]; exact Nat.mul_le_mul_right _ (by omega)
  have hl1 : ((cur.toList.drop (i * 4)).take ((n - i) * 4)).length = (n - i) * 4 := by rw [List.length_take, List.length_drop]; omega
  have hold : (Builtin.firstCells i0.size i (.slice (some ⟨b, 0, none⟩) i c)).run Try.prog w.drew = .ok (cur.toList.take (i * 4)).toArray w.drew := by
    rw [hzs]
    refine run_firstCells_some w.drew 4 i ⟨b, 0, none⟩ i c _ (by rw [List.length_take]; omega) (fun j v hj => ?_)
    rw [List.getElem?_take] at hj
    split at hj
    · rw [Addr.add_lit, Nat.zero_add]
      have hb' : w.drew.heap[b]? = some (.cells cur e (0, 0)) := hb
      simpa [World.cell?, hb'] using hj
    · cases hj
  have hrz : ∀ ty, (Builtin.append_ #[72, 3] ty #[.slice (some ⟨b, 0, none⟩) i c, .int .i64 ((n : Int) + 1 - (i : Int))]).run Try.prog w =
      .ok (.slice (some ⟨w.heap.size, 0, none⟩) (n + 1) (grownCap w (n + 1) c 128)) (w.drew.alloc (.cells ((cur.toList.take (i * 4)).toArray ++ Builtin.zeroCells #[.int .i64 0, .int .i64 0, .slice none 0 0, .slice none 0 0] (n + 1 - i) ++ Builtin.zeroCells #[.int .i64 0, .int .i64 0, .slice none 0 0, .slice none 0 0] (grownCap w (n + 1) c 128 - (n + 1))) 128)) := fun ty => by
    have h := Lib.run_append_grow_zeros w 72 3 ty 128 i0 _ .i64 .i64 Try.underlying72 Try.underlying3 hi0 hz0 (some ⟨b, 0, none⟩) i c _ hold (n + 1 - i) (by omega) (by omega) (by omega) (by omega) (by rw [hzb]; omega) (by rw [hzb, hik]; exact growslice_fits hr hbig)
    rw [hik] at h
    rw [hkk]
    exact h
  have hGn : n + 1 ≤ grownCap w (n + 1) c 128 := grownCap_ge w _ _ _
  have hGm : grownCap w (n + 1) c 128 ≤ maxLen := grownCap_le_maxLen w (n + 1) c 128 (by unfold maxLen; omega)
  obtain ⟨G, hG⟩ : ∃ G, G = grownCap w (n + 1) c 128 := ⟨_, rfl⟩
  rw [← hG] at hrz hGn hGm
  obtain ⟨R, hR⟩ : ∃ R : Array Value, R = ((cur.toList.take (i * 4)).toArray ++ Builtin.zeroCells #[.int .i64 0, .int .i64 0, .slice none 0 0, .slice none 0 0] (n + 1 - i) ++ Builtin.zeroCells #[.int .i64 0, .int .i64 0, .slice none 0 0, .slice none 0 0] (G - (n + 1))) := ⟨_, rfl⟩
  rw [← hR] at hrz
  have hRs : R.size = G * 4 := by
    rw [hR]
    simp only [Array.size_append, size_zeros, List.size_toArray, List.length_take]
    rw [Nat.min_eq_left (by omega)]
    simp
    omega
  obtain ⟨c1, hc1⟩ : ∃ c1, c1 = putAt R (i * 4) (curv.toList.take 4) := ⟨_, rfl⟩
  obtain ⟨c2, hc2⟩ : ∃ c2, c2 = putAt c1 ((i + 1) * 4) ((cur.toList.drop (i * 4)).take ((n - i) * 4)) := ⟨_, rfl⟩
  have hs1 : c1.size = G * 4 := by rw [hc1, putAt_size _ _ _ (by rw [List.length_take]; omega), hRs]
  have hnb : b < w.heap.size := (Array.getElem?_eq_some_iff.1 hb).1
  have hnv : vb < w.heap.size := (Array.getElem?_eq_some_iff.1 hv).1
  have hnew : (w.drew.alloc (.cells R 128)).heap[w.heap.size]? = some (.cells R 128 (0, 0)) := heap_alloc_new w.drew _
  have hold2 : ∀ k, k < w.heap.size → (w.drew.alloc (.cells R 128)).heap[k]? = w.heap[k]? := fun k hk => heap_alloc_old w.drew (.cells R 128) hk
  have hcpA : ∀ (W : World), W.heap = (w.drew.alloc (.cells R 128)).heap → ∀ ty dc, (Builtin.copy_ #[72, 72] ty #[.slice (some ⟨w.heap.size, i * 4, none⟩) (n + 1 - i) dc, .slice (some ⟨vb, 0, none⟩) 1 vc]).run Try.prog W = .ok (.int .i64 ((1 : Nat) : Int)) (W.setRow w.heap.size c1) := fun W hW ty dc => by
    have := copy_rows (P := Try.prog) (u := 72) (ty := ty) Try.underlying72 hi0 W w.heap.size (i * 4) (n + 1 - i) dc R 128 (by rw [hW]; exact hnew) vb 0 1 vc curv ev (by rw [hW, hold2 vb hnv]; exact hv) 1 (by simp only [Nat.min_def]; split <;> omega) (by rw [hzs]; omega) (by rw [hzs]; omega) (by rw [hzs]; simpa using h2)
    rw [hzs] at this
    rw [hc1]
    simpa using this
  have hcpB : ∀ (W : World), W.heap = ((w.drew.alloc (.cells R 128)).setRow w.heap.size c1).heap → ∀ ty dc sc, (Builtin.copy_ #[72, 72] ty #[.slice (some ⟨w.heap.size, (i + 1) * 4, none⟩) (n - i) dc, .slice (some ⟨b, i * 4, none⟩) (n - i) sc]).run Try.prog W = .ok (.int .i64 ((n - i : Nat) : Int)) (W.setRow w.heap.size c2) := fun W hW ty dc sc => by
    have := copy_rows (P := Try.prog) (u := 72) (ty := ty) Try.underlying72 hi0 W w.heap.size ((i + 1) * 4) (n - i) dc c1 128 (by rw [hW]; exact setRow_heap _ _ R c1 _ _ hnew) b (i * 4) (n - i) sc cur e (by rw [hW, setRow_other _ _ _ _ (by omega), hold2 b hnb]; exact hb) (n - i) (by simp only [Nat.min_def]; split <;> omega) (by rw [hzs]; omega) (by rw [hzs]; omega) (by rw [hzs]; exact h1)
    rw [hzs, ← hc2] at this
    exact this
  have hb1 : (0 : Int) ≤ (i : Int) + 1 := by omega
  have hb3 : (i : Int) + 1 ≤ (n : Int) + 1 := by omega
  have hb4 : (i : Int) ≤ (n : Int) + 1 := by omega
  have hb5 : (i : Int) ≤ (n : Int) := by omega
  have hb6 : (i : Int) ≤ (c : Int) := by omega
  have htn : ((i : Int) + 1).toNat = i + 1 := by omega
  have htn2 : ((n : Int) + 1).toNat = n + 1 := by omega
  have hci : ¬ (c = i) := by omega
  have hGi : ¬ (G = i) := by omega
  have hGi1 : ¬ (G = i + 1) := by omega
  have hG63 : G ≤ 9223372036854775807 := by unfold maxLen at hGm; omega
  refine Calls.mono (R := fun ex w' => ex = .returned (.slice (some ⟨w.heap.size, 0, none⟩) (n + 1) G) ∧ w' = (((w.alloc (.cells R 128)).drew.setRow w.heap.size c1).drew).setRow w.heap.size c2) ?_ (fun ex w' h => ⟨G, R, c1, c2, h.1, hGn, hGm, hR, hc1, hc2, h.2⟩)
  clear hkk hik hold hR hG hRs hc1 hc2 hs1 hl1 hle0 hle1
  go_enter Try.func87, Try.ntmps87
  have e1 : ∀ ty dc, (Builtin.copy_ #[72, 72] ty #[.slice (some ⟨w.heap.size, i * 4, none⟩) (n + 1 - i) dc, .slice (some ⟨vb, 0, none⟩) 1 vc]).run Try.prog (w.alloc (.cells R 128)).drew = .ok (.int .i64 ((1 : Nat) : Int)) ((w.alloc (.cells R 128)).drew.setRow w.heap.size c1) := hcpA _ rfl
  have e2 : ∀ ty dc sc, (Builtin.copy_ #[72, 72] ty #[.slice (some ⟨w.heap.size, (i + 1) * 4, none⟩) (n - i) dc, .slice (some ⟨b, i * 4, none⟩) (n - i) sc]).run Try.prog (((w.alloc (.cells R 128)).drew.setRow w.heap.size c1).drew) = .ok (.int .i64 ((n - i : Nat) : Int)) ((((w.alloc (.cells R 128)).drew.setRow w.heap.size c1).drew).setRow w.heap.size c2) := hcpB _ rfl
  clear hcpA hcpB
  go_wp2_with (first
    | (at_builtin; refine Lib.wpList_append_run _ rfl _ _ _ _ rfl _ _ rfl rfl _ _ (hrz _) ?_)
    | (at_builtin; refine wpList_copy_runI _ rfl _ _ 72 72 rfl _ _ rfl rfl (e1 _ _) ?_))

  go_region_law_o (refine step_copy_runI rfl _ _ 72 72 rfl _ _ (by simp [Act.eval, Act.put]) (by simp [Act.eval, Act.put]) (e2 _ _ _) ?_)
  go_wp2
  go_ret
  exact ⟨rfl, rfl⟩
end Go.Proofs.Ythcpckcgjplhiaa
