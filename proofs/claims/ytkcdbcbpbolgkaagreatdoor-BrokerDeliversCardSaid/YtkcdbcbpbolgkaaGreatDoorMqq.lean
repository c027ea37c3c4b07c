/- Texts Fa, Fb. -/
import Derived.Test.YtkcdbcbpbolgkaaGreatDoorMqp
import Derived.Shelf.Spec.SlicesInsertGrow
set_option linter.unusedSimpArgs false
set_option linter.unusedVariables false
namespace Go.Proofs.YtkcdbcbpbolgkaaGreatDoor
open Go.Abs Go.RowKit Go.Lib
theorem hov (w : World) (b vb off lb cb vc : Nat) (cur curv : Array Value) (e ev : TypeId) (hb : w.heap[b]? = some (.cells cur e (0, 0))) (hv : w.heap[vb]? = some (.cells curv ev (0, 0))) (hne : vb ≠ b) (h0 : cur.size ≠ 0) :
  (callFunc 226 #[.slice (some ⟨vb, 0, none⟩) 1 vc, .slice (some ⟨b, off, none⟩) lb cb]).run Tryz.prog w = .ok (.value (.bool false)) w := by
 rw [run_callFunc_extern Tryz.func226 rfl (by kernel_rfl) (by kernel_rfl) (e := Extern.SlicesOverlaps.overlaps #[46, 46] #[4]) (by kernel_rfl),
  Lib.run_overlaps_apart w 46 4 163 Tryz.underlying46 4 Tryz.sizeOf163 ⟨vb, 0, none⟩ ⟨b, off, none⟩ 1 vc lb cb hne ev e curv.size cur.size (by simp [World.shape?, hv]) (by simp [World.shape?, hb]) h0 (by simp [World.frozen?, hv]) (by simp [World.frozen?, hv])]
 rfl
set_option maxHeartbeats 2000000 in
set_option maxRecDepth 100000 in
theorem xew (w : World) (b vb n c i vc : Nat) (cur curv : Array Value) (e ev : TypeId) (hb : w.heap[b]? = some (.cells cur e (0, 0))) (hv : w.heap[vb]? = some (.cells curv ev (0, 0))) (hne : vb ≠ b) (hi : i < n) (hr : n + 1 ≤ c) (hc : c ≤ 9223372036854775807)
  (hcs : c * 4 ≤ cur.size) (hvs : 4 ≤ curv.size) (h1 : ∀ v ∈ (cur.toList.drop (i * 4)).take ((n - i) * 4), v.oneCell' = true) (h2 : ∀ v ∈ curv.toList.take 4, v.oneCell' = true) (c1 : Array Value) (hc1 : c1 = qfp cur ((i + 1) * 4) ((cur.toList.drop (i * 4)).take ((n - i) * 4))) :
  Calls Tryz.prog 142 #[.slice (some ⟨b, 0, none⟩) n c, .int .i64 i, .slice (some ⟨vb, 0, none⟩) 1 vc] w fun ex w' =>
   ex = .returned (.slice (some ⟨b, 0, none⟩) (n + 1) c) ∧ w' = (w.drew.setRow b c1).setRow b (qfp c1 (i * 4) (curv.toList.take 4)) := by
 obtain ⟨i0, hi0, hz0, hzs, hzb⟩ := info_parts (P := Tryz.prog) (e := 163) (z := .agg #[.int .i64 0, .int .i64 0, .slice none 0 0, .slice none 0 0]) (size := 4) (bytes := 64) (by kernel_rfl)
 have hz2 : ¬ ((i : Int) = (n : Int)) := by omega
 have hz3 : ¬ ((c : Int) < (n : Int) + 1) := by omega
 have mixed := follows
 have hov' := fun lb cb => hov w b vb ((i + 1) * 4) lb cb vc cur curv e ev hb hv hne (by omega)
 have hwn : IntKind.i64.wrap ((n : Int) + 1) = (n : Int) + 1 := by rw [IntKind.wrap_i64]; omega
 have hwi : IntKind.i64.wrap ((i : Int) + 1) = (i : Int) + 1 := by rw [IntKind.wrap_i64]; omega
 have hb1 : (0 : Int) ≤ (i : Int) + 1 := by omega
 have hb3 : (i : Int) + 1 ≤ (n : Int) + 1 := by omega
 have htn : ((i : Int) + 1).toNat = i + 1 := by omega
 have htn2 : ((n : Int) + 1).toNat = n + 1 := by omega
 have u72 := run_underlying Tryz.underlying46
 have s128 := Tryz.sizeOf163
 have hb4 : (i : Int) ≤ (n : Int) + 1 := by omega
 have hci : ¬ (c = i) := by omega
 have hci1 : ¬ (c = i + 1) := by omega
 have hq : cur.toList.length = cur.size := Array.length_toList
 have hqv : curv.toList.length = curv.size := Array.length_toList
 have hle1 : (n - i) * 4 + (i + 1) * 4 ≤ c * 4 := by rw [← Nat.add_mul]; exact Nat.mul_le_mul_right _ (by omega)
 have hl1 : ((cur.toList.drop (i * 4)).take ((n - i) * 4)).length = (n - i) * 4 := by rw [List.length_take, List.length_drop]; omega
 have hcp1 : ∀ ty dc sc, (Builtin.copy_ #[46, 46] ty #[.slice (some ⟨b, (i + 1) * 4, none⟩) (n - i) dc, .slice (some ⟨b, i * 4, none⟩) (n + 1 - i) sc]).run Tryz.prog w.drew = .ok (.int .i64 ((n - i : Nat) : Int)) (w.drew.setRow b c1) := fun ty dc sc => by
  have := qkp (P := Tryz.prog) (u := 46) (ty := ty) Tryz.underlying46 hi0 w.drew b ((i + 1) * 4) (n - i) dc cur e hb b (i * 4) (n + 1 - i) sc cur e hb (n - i) (by simp only [Nat.min_def]; split <;> omega) (by rw [hzs]; omega) (by rw [hzs]; omega) (by rw [hzs]; exact h1)
  rw [hzs, ← hc1] at this
  exact this
 have hs1 : c1.size = cur.size := by rw [hc1]; exact qd9 _ _ _ (by rw [hl1]; omega)
 have hcp2 : ∀ (W : World), W.heap = (w.drew.setRow b c1).heap → ∀ ty dc, (Builtin.copy_ #[46, 46] ty #[.slice (some ⟨b, i * 4, none⟩) (n + 1 - i) dc, .slice (some ⟨vb, 0, none⟩) 1 vc]).run Tryz.prog W = .ok (.int .i64 ((1 : Nat) : Int)) (W.setRow b (qfp c1 (i * 4) (curv.toList.take 4))) := fun W hW ty dc => by
  have hb' : W.heap[b]? = some (.cells c1 e (0, 0)) := by rw [hW]; exact setRow_heap w.drew b cur c1 e (0, 0) hb
  have hv' : W.heap[vb]? = some (.cells curv ev (0, 0)) := by rw [hW, setRow_other w.drew b vb c1 hne]; exact hv
  have := qkp (P := Tryz.prog) (u := 46) (ty := ty) Tryz.underlying46 hi0 W b (i * 4) (n + 1 - i) dc c1 e hb' vb 0 1 vc curv ev hv' 1 (by simp only [Nat.min_def]; split <;> omega) (by rw [hzs]; omega) (by rw [hzs]; omega) (by rw [hzs]; simpa using h2)
  rw [hzs] at this
  simpa using this
 go_enter Tryz.func142, Tryz.ntmps142
 go_wp2_with (simp only [hov'])
 go_region_law_o (refine step_copy_runI rfl _ _ 46 46 rfl _ _ (by simp [Act.eval, Act.put]) (by simp [Act.eval, Act.put]) (hcp1 _ _ _) ?_)
 go_wp2_with (at_builtin; refine wpList_copy_runI _ rfl _ _ 46 46 rfl _ _ rfl rfl (hcp2 _ rfl _ _) ?_)
 go_ret
 exact ⟨rfl, by rw [hc1]⟩
set_option maxHeartbeats 2000000 in
set_option maxRecDepth 100000 in
theorem xex (w : World) (sv : Option Addr) (vb n c vc : Nat) (r : Value) (W : World) (hrun : ∀ ty, (Builtin.append_ #[46, 46] ty #[.slice sv n c, .slice (some ⟨vb, 0, none⟩) 1 vc]).run Tryz.prog w = .ok r W) (hn : n ≤ c) (hc : c ≤ 9223372036854775807) (h0 : sv = none → c = 0) :
  Calls Tryz.prog 142 #[.slice sv n c, .int .i64 n, .slice (some ⟨vb, 0, none⟩) 1 vc] w fun ex w' => ex = .returned r ∧ w' = W := by
 have mixed := follows
 have u72 := run_underlying Tryz.underlying46
 have s128 := Tryz.sizeOf163
 cases sv with
 | none =>
  have hc0 := h0 rfl
  have hn0 : n = 0 := by omega
  subst hc0; subst hn0
  go_enter Tryz.func142, Tryz.ntmps142
  go_wp2_with (at_builtin; refine Lib.wpList_append_run _ rfl _ _ _ _ rfl _ _ rfl rfl _ _ (hrun _) ?_)
  go_ret
  exact ⟨rfl, rfl⟩
 | some ad =>
  go_enter Tryz.func142, Tryz.ntmps142
  go_wp2_with (at_builtin; refine Lib.wpList_append_run _ rfl _ _ _ _ rfl _ _ rfl rfl _ _ (hrun _) ?_)
  all_goals (go_ret; exact ⟨rfl, rfl⟩)
set_option maxHeartbeats 2000000 in
set_option maxRecDepth 100000 in
theorem xj9 (w : World) (b vb n c i vc : Nat) (cur curv : Array Value) (e ev : TypeId) (hb : w.heap[b]? = some (.cells cur e (0, 0))) (hv : w.heap[vb]? = some (.cells curv ev (0, 0))) (hi : i < n) (hn : n ≤ c) (hr : c < n + 1) (hbig : (n + 1) * 64 ≤ 140737488355328)
  (hcs : c * 4 ≤ cur.size) (hvs : 4 ≤ curv.size) (h1 : ∀ v ∈ (cur.toList.drop (i * 4)).take ((n - i) * 4), v.oneCell' = true) (h2 : ∀ v ∈ curv.toList.take 4, v.oneCell' = true) :
  Calls Tryz.prog 142 #[.slice (some ⟨b, 0, none⟩) n c, .int .i64 i, .slice (some ⟨vb, 0, none⟩) 1 vc] w fun ex w' =>
   ∃ G R c1 c2, ex = .returned (.slice (some ⟨w.heap.size, 0, none⟩) (n + 1) G) ∧ n + 1 ≤ G ∧ G ≤ maxLen ∧ R = ((cur.toList.take (i * 4)).toArray ++ Builtin.zeroCells #[.int .i64 0, .int .i64 0, .slice none 0 0, .slice none 0 0] (n + 1 - i) ++ Builtin.zeroCells #[.int .i64 0, .int .i64 0, .slice none 0 0, .slice none 0 0] (G - (n + 1))) ∧
    c1 = qfp R (i * 4) (curv.toList.take 4) ∧ c2 = qfp c1 ((i + 1) * 4) ((cur.toList.drop (i * 4)).take ((n - i) * 4)) ∧ w' = (((w.alloc (.cells R 163)).drew.setRow w.heap.size c1).drew).setRow w.heap.size c2 := by
 have mixed := follows
 obtain ⟨i0, hi0, hz0, hzs, hzb⟩ := info_parts (P := Tryz.prog) (e := 163) (z := .agg #[.int .i64 0, .int .i64 0, .slice none 0 0, .slice none 0 0]) (size := 4) (bytes := 64) (by kernel_rfl)
 have u72 := run_underlying Tryz.underlying46
 have s128 := Tryz.sizeOf163
 have hz2 : ¬ ((i : Int) = (n : Int)) := by omega
 have hz3 : (c : Int) < (n : Int) + 1 := by omega
 have hwn : IntKind.i64.wrap ((n : Int) + 1) = (n : Int) + 1 := by rw [IntKind.wrap_i64]; omega
 have hwi : IntKind.i64.wrap ((i : Int) + 1) = (i : Int) + 1 := by rw [IntKind.wrap_i64]; omega
 have hkk : (n : Int) + 1 - (i : Int) = ((n + 1 - i : Nat) : Int) := by omega
 have hwk : IntKind.i64.wrap ((n : Int) + 1 - (i : Int)) = (n : Int) + 1 - (i : Int) := by rw [IntKind.wrap_i64]; omega
 have hik : i + (n + 1 - i) = n + 1 := by omega
 have hq : cur.toList.length = cur.size := Array.length_toList
 have hqv : curv.toList.length = curv.size := Array.length_toList
 have hle0 : i * 4 ≤ c * 4 := Nat.mul_le_mul_right _ (by omega)
 have hle1 : (n - i) * 4 + i * 4 ≤ c * 4 := by rw [← Nat.add_mul]; exact Nat.mul_le_mul_right _ (by omega)
 have hl1 : ((cur.toList.drop (i * 4)).take ((n - i) * 4)).length = (n - i) * 4 := by rw [List.length_take, List.length_drop]; omega
 have hold : (Builtin.firstCells i0.size i (.slice (some ⟨b, 0, none⟩) i c)).run Tryz.prog w.drew = .ok (cur.toList.take (i * 4)).toArray w.drew := by
  rw [hzs]
  refine run_firstCells_some w.drew 4 i ⟨b, 0, none⟩ i c _ (by rw [List.length_take]; omega) (fun j v hj => ?_)
  rw [List.getElem?_take] at hj
  split at hj
  ·rw [Addr.add_lit, Nat.zero_add]
   have hb' : w.drew.heap[b]? = some (.cells cur e (0, 0)) := hb
   simpa [World.cell?, hb'] using hj
  ·cases hj
 have hrz : ∀ ty, (Builtin.append_ #[46, 3] ty #[.slice (some ⟨b, 0, none⟩) i c, .int .i64 ((n : Int) + 1 - (i : Int))]).run Tryz.prog w =
   .ok (.slice (some ⟨w.heap.size, 0, none⟩) (n + 1) (grownCap w (n + 1) c 163)) (w.drew.alloc (.cells ((cur.toList.take (i * 4)).toArray ++ Builtin.zeroCells #[.int .i64 0, .int .i64 0, .slice none 0 0, .slice none 0 0] (n + 1 - i) ++ Builtin.zeroCells #[.int .i64 0, .int .i64 0, .slice none 0 0, .slice none 0 0] (grownCap w (n + 1) c 163 - (n + 1))) 163)) := fun ty => by
  have h := Lib.run_append_grow_zeros w 46 3 ty 163 i0 _ .i64 .i64 Tryz.underlying46 Tryz.underlying3 hi0 hz0 (some ⟨b, 0, none⟩) i c _ hold (n + 1 - i) (by omega) (by omega) (by omega) (by omega) (by rw [hzb]; omega) (by rw [hzb, hik]; exact growslice_fits hr hbig)
  rw [hik] at h
  rw [hkk]
  exact h
 have hGn : n + 1 ≤ grownCap w (n + 1) c 163 := grownCap_ge w _ _ _
 have hGm : grownCap w (n + 1) c 163 ≤ maxLen := grownCap_le_maxLen w (n + 1) c 163 (by unfold maxLen; omega)
 obtain ⟨G, hG⟩ : ∃ G, G = grownCap w (n + 1) c 163 := ⟨_, rfl⟩
 rw [← hG] at hrz hGn hGm
 obtain ⟨R, hR⟩ : ∃ R : Array Value, R = ((cur.toList.take (i * 4)).toArray ++ Builtin.zeroCells #[.int .i64 0, .int .i64 0, .slice none 0 0, .slice none 0 0] (n + 1 - i) ++ Builtin.zeroCells #[.int .i64 0, .int .i64 0, .slice none 0 0, .slice none 0 0] (G - (n + 1))) := ⟨_, rfl⟩
 rw [← hR] at hrz
 have hRs : R.size = G * 4 := by
  rw [hR]
  simp only [Array.size_append, qd6, List.size_toArray, List.length_take]
  rw [Nat.min_eq_left (by omega)]
  simp
  omega
 obtain ⟨c1, hc1⟩ : ∃ c1, c1 = qfp R (i * 4) (curv.toList.take 4) := ⟨_, rfl⟩
 obtain ⟨c2, hc2⟩ : ∃ c2, c2 = qfp c1 ((i + 1) * 4) ((cur.toList.drop (i * 4)).take ((n - i) * 4)) := ⟨_, rfl⟩
 have hs1 : c1.size = G * 4 := by rw [hc1, qd9 _ _ _ (by rw [List.length_take]; omega), hRs]
 have hnb : b < w.heap.size := (Array.getElem?_eq_some_iff.1 hb).1
 have hnv : vb < w.heap.size := (Array.getElem?_eq_some_iff.1 hv).1
 have hnew : (w.drew.alloc (.cells R 163)).heap[w.heap.size]? = some (.cells R 163 (0, 0)) := heap_alloc_new w.drew _
 have hold2 : ∀ k, k < w.heap.size → (w.drew.alloc (.cells R 163)).heap[k]? = w.heap[k]? := fun k hk => heap_alloc_old w.drew (.cells R 163) hk
 have hcpA : ∀ (W : World), W.heap = (w.drew.alloc (.cells R 163)).heap → ∀ ty dc, (Builtin.copy_ #[46, 46] ty #[.slice (some ⟨w.heap.size, i * 4, none⟩) (n + 1 - i) dc, .slice (some ⟨vb, 0, none⟩) 1 vc]).run Tryz.prog W = .ok (.int .i64 ((1 : Nat) : Int)) (W.setRow w.heap.size c1) := fun W hW ty dc => by
  have := qkp (P := Tryz.prog) (u := 46) (ty := ty) Tryz.underlying46 hi0 W w.heap.size (i * 4) (n + 1 - i) dc R 163 (by rw [hW]; exact hnew) vb 0 1 vc curv ev (by rw [hW, hold2 vb hnv]; exact hv) 1 (by simp only [Nat.min_def]; split <;> omega) (by rw [hzs]; omega) (by rw [hzs]; omega) (by rw [hzs]; simpa using h2)
  rw [hzs] at this
  rw [hc1]
  simpa using this
 have hcpB : ∀ (W : World), W.heap = ((w.drew.alloc (.cells R 163)).setRow w.heap.size c1).heap → ∀ ty dc sc, (Builtin.copy_ #[46, 46] ty #[.slice (some ⟨w.heap.size, (i + 1) * 4, none⟩) (n - i) dc, .slice (some ⟨b, i * 4, none⟩) (n - i) sc]).run Tryz.prog W = .ok (.int .i64 ((n - i : Nat) : Int)) (W.setRow w.heap.size c2) := fun W hW ty dc sc => by
  have := qkp (P := Tryz.prog) (u := 46) (ty := ty) Tryz.underlying46 hi0 W w.heap.size ((i + 1) * 4) (n - i) dc c1 163 (by rw [hW]; exact setRow_heap _ _ R c1 _ _ hnew) b (i * 4) (n - i) sc cur e (by rw [hW, setRow_other _ _ _ _ (by omega), hold2 b hnb]; exact hb) (n - i) (by simp only [Nat.min_def]; split <;> omega) (by rw [hzs]; omega) (by rw [hzs]; omega) (by rw [hzs]; exact h1)
  rw [hzs, ← hc2] at this
  exact this
 have hb1 : (0 : Int) ≤ (i : Int) + 1 := by omega
 have hb3 : (i : Int) + 1 ≤ (n : Int) + 1 := by omega
 have hb4 : (i : Int) ≤ (n : Int) + 1 := by omega
 have hb5 : (i : Int) ≤ (n : Int) := by omega
 have hb6 : (i : Int) ≤ (c : Int) := by omega
 have htn : ((i : Int) + 1).toNat = i + 1 := by omega
 have htn2 : ((n : Int) + 1).toNat = n + 1 := by omega
 have hci : ¬ (c = i) := by omega
 have hGi : ¬ (G = i) := by omega
 have hGi1 : ¬ (G = i + 1) := by omega
 have hG63 : G ≤ 9223372036854775807 := by unfold maxLen at hGm; omega
 refine Calls.mono (R := fun ex w' => ex = .returned (.slice (some ⟨w.heap.size, 0, none⟩) (n + 1) G) ∧ w' = (((w.alloc (.cells R 163)).drew.setRow w.heap.size c1).drew).setRow w.heap.size c2) ?_ (fun ex w' h => ⟨G, R, c1, c2, h.1, hGn, hGm, hR, hc1, hc2, h.2⟩)
 clear hkk hik hold hR hG hRs hc1 hc2 hs1 hl1 hle0 hle1
 go_enter Tryz.func142, Tryz.ntmps142
 have e1 : ∀ ty dc, (Builtin.copy_ #[46, 46] ty #[.slice (some ⟨w.heap.size, i * 4, none⟩) (n + 1 - i) dc, .slice (some ⟨vb, 0, none⟩) 1 vc]).run Tryz.prog (w.alloc (.cells R 163)).drew = .ok (.int .i64 ((1 : Nat) : Int)) ((w.alloc (.cells R 163)).drew.setRow w.heap.size c1) := hcpA _ rfl
 have e2 : ∀ ty dc sc, (Builtin.copy_ #[46, 46] ty #[.slice (some ⟨w.heap.size, (i + 1) * 4, none⟩) (n - i) dc, .slice (some ⟨b, i * 4, none⟩) (n - i) sc]).run Tryz.prog (((w.alloc (.cells R 163)).drew.setRow w.heap.size c1).drew) = .ok (.int .i64 ((n - i : Nat) : Int)) ((((w.alloc (.cells R 163)).drew.setRow w.heap.size c1).drew).setRow w.heap.size c2) := hcpB _ rfl
 clear hcpA hcpB
 go_wp2_with (first
  | (at_builtin; refine Lib.wpList_append_run _ rfl _ _ _ _ rfl _ _ rfl rfl _ _ (hrz _) ?_)
  | (at_builtin; refine wpList_copy_runI _ rfl _ _ 46 46 rfl _ _ rfl rfl (e1 _ _) ?_))
 go_region_law_o (refine step_copy_runI rfl _ _ 46 46 rfl _ _ (by simp [Act.eval, Act.put]) (by simp [Act.eval, Act.put]) (e2 _ _ _) ?_)
 go_wp2
 go_ret
 exact ⟨rfl, rfl⟩
end Go.Proofs.YtkcdbcbpbolgkaaGreatDoor
namespace Go.Proofs.YtkcdbcbpbolgkaaGreatDoor
open Go.Abs Go.RowKit Go.Lib
section
variable {P : Program} {g : Ghost} {w : World}
theorem q95 {es vb vc : Nat} {curv : Array Value} {ev : TypeId} (hv : w.heap[vb]? = some (.cells curv ev (0, 0))) (h : es ≤ curv.size) :
  Go.Abs.Source P es (.slice (some ⟨vb, 0, none⟩) 1 vc) 1 w (curv.toList.take es) ∧ (Builtin.firstCells es 1 (.slice (some ⟨vb, 0, none⟩) 1 vc)).run P w.drew = .ok (curv.toList.take es).toArray w.drew := by
 have hq : curv.toList.length = curv.size := Array.length_toList
 have key : ∀ W : World, W.heap = w.heap → (Builtin.firstCells es 1 (.slice (some ⟨vb, 0, none⟩) 1 vc)).run P W = .ok (curv.toList.take es).toArray W := by
  intro W hW
  refine run_firstCells_some (P := P) W es 1 _ _ _ _ (by rw [List.length_take]; omega) (fun j v hj => ?_)
  rw [List.getElem?_take] at hj
  split at hj
  ·rw [Addr.add_lit, Nat.zero_add]
   have hv' : W.heap[vb]? = some (.cells curv ev (0, 0)) := by rw [hW]; exact hv
   simpa [World.cell?, hv'] using hj
  ·cases hj
 exact ⟨⟨by simp [Builtin.lenOf], key w rfl⟩, key w.drew rfl⟩
end
theorem q96 {α : Type} (l : List α) (a b : Nat) : (l.drop a).take b = (l.take (a + b)).drop a := by rw [List.drop_take]; congr 1; omega
theorem flat_take {es : Nat} : ∀ {rows : List (List D)}, (∀ r ∈ rows, r.length = es) → ∀ i, (rows.take i).flatten = rows.flatten.take (i * es)
 | [], _, i => by simp
 | r :: l, h, 0 => by simp
 | r :: l, h, i + 1 => by
  have hr : r.length = es := h r (by simp)
  rw [List.take_succ_cons, List.flatten_cons, List.flatten_cons, flat_take (fun x hx => h x (by simp [hx])) i, List.take_append, hr, Nat.succ_mul]
  rw [List.take_of_length_le (show r.length ≤ i * es + es by omega)]
  congr 2
  omega
theorem flat_drop {es : Nat} : ∀ {rows : List (List D)}, (∀ r ∈ rows, r.length = es) → ∀ i, (rows.drop i).flatten = rows.flatten.drop (i * es)
 | [], _, i => by simp
 | r :: l, h, 0 => by simp
 | r :: l, h, i + 1 => by
  have hr : r.length = es := h r (by simp)
  rw [List.drop_succ_cons, List.flatten_cons, flat_drop (fun x hx => h x (by simp [hx])) i, List.drop_append, hr, Nat.succ_mul]
  rw [List.drop_of_length_le (show r.length ≤ i * es + es by omega), List.nil_append]
  congr 1
  omega
theorem q1o (cur : Array Value) (k : Nat) (a m : List Value) (ha : a.length = 4) (hk : k + 4 ≤ cur.size) : ∃ rest, (qfp (qfp cur (k + 4) m) k a).toList = cur.toList.take k ++ a ++ m ++ rest := by
 have hq : cur.toList.length = cur.size := Array.length_toList
 have hl : (cur.toList.take (k + 4)).length = k + 4 := by rw [List.length_take]; omega
 refine ⟨cur.toList.drop (k + 4 + m.length), ?_⟩
 simp only [qts, ha]
 rw [List.append_assoc (cur.toList.take (k + 4)), List.take_append_of_le_length (by omega), List.take_take, Nat.min_eq_left (by omega), List.drop_left' hl]
 simp
theorem q4t (cur : Array Value) (k : Nat) (a m : List Value) (ha : a.length = 4) (hk : k + 4 ≤ cur.size) : ∃ rest, (qfp (qfp cur k a) (k + 4) m).toList = cur.toList.take k ++ a ++ m ++ rest := by
 have hq : cur.toList.length = cur.size := Array.length_toList
 have hl : (cur.toList.take k ++ a).length = k + 4 := by simp [ha]; omega
 exact ⟨_, by simp only [qts]; rw [List.take_left' hl]⟩
theorem qut {c : Array Value} {L rest : List Value} (h : c.toList = L ++ rest) : ∀ (j : Nat) (u : Value), L[j]? = some u → c[j]? = some u := by
 intro j u hj
 have hlt : j < L.length := (List.getElem?_eq_some_iff.1 hj).1
 rw [← Array.getElem?_toList, h, List.getElem?_append_left hlt]
 exact hj
theorem qrt (w : World) (b : Nat) (c : Array Value) : (w.setRow b c).heap.size = w.heap.size := by simp [World.setRow]
theorem World.drew_heap' (w : World) : w.drew.heap = w.heap := rfl
set_option maxRecDepth 10000 in
set_option maxHeartbeats 1000000 in
theorem xey (rows : List (List D)) (row : List D) (i : Nat) (hi : i ≤ rows.length) (hl : rows.length ≤ 1000) (hr : row.length = 4) :
  qg Tryz.prog 142 [.uni 0 4 rows, .d (.int .i64 i), .uni 1 4 [row]] [] (.uni 0 4 (rows.take i ++ [row] ++ rows.drop i)) [] := by
 intro g w vs hd hlen hv ho
 obtain ⟨i0, hi0, hz0, hzs, hzb⟩ := info_parts (P := Tryz.prog) (e := 163) (z := .agg #[.int .i64 0, .int .i64 0, .slice none 0 0, .slice none 0 0]) (size := 4) (bytes := 64) (by kernel_rfl)
 match vs, hlen with
 | [v0, v1, v2], _ =>
 have h0 := (hv 0 v0 _ rfl rfl).2 (by simp [vy, ASlot.toks])
 have h1 : v1 = .int .i64 i := vg (hv 1 v1 _ rfl rfl)
 have h2 := (hv 2 v2 _ rfl rfl).2 (by simp [vy, ASlot.toks])
 subst h1
 obtain ⟨vb, vc, curv, ev, rfl, gv, hhv, _, _, hvs, _, hrlv⟩ := xcm h2 (by simp)
 have hvs4 : 4 ≤ curv.size := by
  have : 1 ≤ vc := by simpa using (by assumption : [row].length ≤ vc)
  omega
 simp only [List.length_singleton, Nat.one_mul, List.flatten_cons, List.flatten_nil, List.append_nil] at hrlv
 obtain ⟨src, srcd⟩ := q95 (P := Tryz.prog) (vc := vc) hhv hvs4
 have fin : ∀ {g' : Ghost} {W : World} {v : Value} {rows' : List (List D)}, Qt (fun _ => False) g w g' W [0] [0] → RC g' W [0] v (.uni 0 4 rows') →
   ∃ v' g'' live', Ending.returned v = .returned v' ∧ G g w g'' W ∧ Dom g'' W ∧ (∀ t ∈ (ASlot.uni 0 4 rows').toks ++ xh [], t ∈ live') ∧ RS g'' W live' v' (.uni 0 4 rows') ∧ ObjsOk g'' W live' [] := by
  intro g' W v rows' hq hrc
  refine ⟨v, g', [0], rfl, hq.toG, hq.dom, by simp [ASlot.toks, xh], je hrc, ⟨fun id o h => by simp at h, fun b b' id h1 h2 => ho.inj b b' id (hq.objB b id h1) (hq.objB b' id h2), fun b id h => ?_⟩⟩
  obtain ⟨o, ho', _⟩ := ho.ids b id (hq.objB b id h)
  simp at ho'
 by_cases hin : i = rows.length
 ·subst hin
  rw [List.take_length, List.drop_length, List.append_nil]
  have more : ∀ (base : Option Addr) (cap : Nat) (olds : List Value), cap < rows.length + 1 → rows.length ≤ cap → (base = none → cap = 0) → (∀ r ∈ rows, r.length = 4) → RL g w olds rows.flatten →
    (Builtin.firstCells 4 rows.length (.slice base rows.length cap)).run Tryz.prog w.drew = .ok olds.toArray w.drew →
    Calls Tryz.prog 142 #[.slice base rows.length cap, .int .i64 rows.length, .slice (some ⟨vb, 0, none⟩) 1 vc] w fun e w' => ∃ v g' live', e = .returned v ∧ G g w g' w' ∧ Dom g' w' ∧ (∀ t ∈ (ASlot.uni 0 4 (rows ++ [row])).toks ++ xh [], t ∈ live') ∧ RS g' w' live' v (.uni 0 4 (rows ++ [row])) ∧ ObjsOk g' w' live' [] := by
   intro base cap olds hc hc0 hb0 hes ho1 ho2
   have key : ∀ ty, ∃ v w' g', (Builtin.append_ #[46, 46] ty #[.slice base rows.length cap, .slice (some ⟨vb, 0, none⟩) 1 vc]).run Tryz.prog w = .ok v w' ∧ Qt (fun _ => False) g w g' w' [0] [0] ∧ RC g' w' [0] v (.uni 0 4 (rows ++ [row])) := fun ty => by
    have := qhe (P := Tryz.prog) (T := fun _ => False) (live := [0]) (live' := [0]) (g := g) (w := w) (t := 46) (u := 46) (ty := ty) (r := [row]) (news := curv.toList.take 4) (x := .slice (some ⟨vb, 0, none⟩) 1 vc) hd Tryz.underlying46 hi0 hz0 (by rw [hzs]; rfl) (.inl ⟨_, Tryz.underlying46⟩) (by omega) (base := base) (sCap := cap) (l := rows) (olds := olds) (by rw [hzs]; exact hes) ho1 (by rw [hzs]; exact ho2) src.1 (by rw [hzs]; exact srcd) (by simpa using hrlv) (by rw [hzs]; simpa using hr) (by simpa using hc) (by simp; omega) (by rw [hzb]; simp; omega) 0 (fun t h => h.elim)
    rwa [hzs] at this
   obtain ⟨v, W, g', k1, k2, k3⟩ := key 0
   have hall : ∀ ty, (Builtin.append_ #[46, 46] ty #[.slice base rows.length cap, .slice (some ⟨vb, 0, none⟩) 1 vc]).run Tryz.prog w = .ok v W := fun ty => k1
   refine (xex w base vb rows.length cap vc v W hall hc0 (by omega) hb0).mono (fun e w' he => ?_)
   obtain ⟨rfl, rfl⟩ := he
   exact fin k2 k3
  rcases h0 with ⟨ad, rfl, hr0⟩ | ⟨b, cap, cur, e, rfl, gb, hb, hle, hcm, hcs, hes, hcell⟩
  ·subst hr0
   refine more ad 0 [] (by simp) (by simp) (fun _ => rfl) (by simp) ⟨by simp, by simp, by simp⟩ ?_
   cases ad with
   | none => simp [Builtin.firstCells]
   | some a0 => exact run_firstCells_some (P := Tryz.prog) w.drew 4 0 a0 _ _ [] (by simp) (by simp)
  ·by_cases hroom : rows.length + 1 ≤ cap
   ·have key : ∀ ty, ∃ v w' g', (Builtin.append_ #[46, 46] ty #[.slice (some ⟨b, 0, none⟩) rows.length cap, .slice (some ⟨vb, 0, none⟩) 1 vc]).run Tryz.prog w = .ok v w' ∧ Qt (fun _ => False) g w g' w' [0] [0] ∧ RC g' w' [0] v (.uni 0 4 (rows ++ [row])) := fun ty => by
     have := qm6 (P := Tryz.prog) (T := fun _ => False) (live := [0]) (live' := [0]) (g := g) (w := w) (t := 46) (u := 46) (ty := ty) (r := [row]) (news := curv.toList.take 4) (x := .slice (some ⟨vb, 0, none⟩) 1 vc) hd Tryz.underlying46 hi0 (.inl ⟨_, Tryz.underlying46⟩) (l := rows) (by rw [hzs]; exact hes) hcell gb hb hcm (by rw [hzs]; exact hcs) (by rw [hzs]; exact src) (by simpa using hrlv) (by rw [hzs]; simpa using hr) (by simpa using hroom) 0 (fun t h => h.elim)
     rwa [hzs] at this
    obtain ⟨v, W, g', k1, k2, k3⟩ := key 0
    have hall : ∀ ty, (Builtin.append_ #[46, 46] ty #[.slice (some ⟨b, 0, none⟩) rows.length cap, .slice (some ⟨vb, 0, none⟩) 1 vc]).run Tryz.prog w = .ok v W := fun ty => k1
    refine (xex w _ vb rows.length cap vc v W hall hle (by unfold maxLen at hcm; omega) (fun h => by cases h)).mono (fun e w' he => ?_)
    obtain ⟨rfl, rfl⟩ := he
    exact fin k2 k3
   ·have hu : UniOk g w 0 4 rows (.slice (some ⟨b, 0, none⟩) rows.length cap) := .inr ⟨b, cap, cur, e, rfl, gb, hb, hle, hcm, hcs, hes, hcell⟩
    obtain ⟨base', cap', olds, hv', _, hes', ho1, ho2⟩ := q5c (P := Tryz.prog) hu
    cases hv'
    exact more _ cap olds (by omega) hle (fun h => by cases h) hes ho1 ho2
 ·have hlt : i < rows.length := by omega
  have hne : rows ≠ [] := by rintro rfl; simp at hlt
  obtain ⟨b, cap, cur, e, rfl, gb, hb, hle, hcm, hcs, hes, hrl⟩ := xcm h0 hne
  have hq : cur.toList.length = cur.size := Array.length_toList
  have hqv : curv.toList.length = curv.size := Array.length_toList
  have hnb : vb ≠ b := by rintro rfl; rw [gb] at gv; cases gv
  have hrow4 : rows.length * 4 ≤ cap * 4 := Nat.mul_le_mul_right _ hle
  have hfl : rows.flatten.length = rows.length * 4 := xf hes
  have htake : (cur.toList.drop (i * 4)).take ((rows.length - i) * 4) = (cur.toList.take (rows.length * 4)).drop (i * 4) := by rw [q96]; congr 2; omega
  have hone1 : ∀ v ∈ (cur.toList.drop (i * 4)).take ((rows.length - i) * 4), v.oneCell' = true := by rw [htake]; exact (hrl.drop (i * 4)).ones
  have hone2 : ∀ v ∈ curv.toList.take 4, v.oneCell' = true := hrlv.ones
  have htk : cur.toList.take (i * 4) = (cur.toList.take (rows.length * 4)).take (i * 4) := by rw [List.take_take, Nat.min_eq_left (by omega)]
  have hnew : (rows.take i ++ [row] ++ rows.drop i).flatten = rows.flatten.take (i * 4) ++ row ++ rows.flatten.drop (i * 4) := by simp [flat_take hes, flat_drop hes]
  have hnl : (rows.take i ++ [row] ++ rows.drop i).length = rows.length + 1 := by simp; omega
  have hes2 : ∀ r ∈ rows.take i ++ [row] ++ rows.drop i, r.length = 4 := by
   intro r h
   simp only [List.append_assoc, List.mem_append, List.mem_singleton] at h
   rcases h with h | h | h
   ·exact hes r (List.mem_of_mem_take h)
   ·subst h; exact hr
   ·exact hes r (List.mem_of_mem_drop h)
  generalize hL : cur.toList.take (i * 4) ++ curv.toList.take 4 ++ (cur.toList.drop (i * 4)).take ((rows.length - i) * 4) = L
  have hLr : RL g w L (rows.take i ++ [row] ++ rows.drop i).flatten := by
   rw [← hL, hnew, htake, htk]
   exact ((hrl.take (i * 4)).append hrlv).append (hrl.drop (i * 4))
  by_cases hroom : rows.length + 1 ≤ cap
  ·obtain ⟨c1, hc1⟩ : ∃ c1, c1 = qfp cur ((i + 1) * 4) ((cur.toList.drop (i * 4)).take ((rows.length - i) * 4)) := ⟨_, rfl⟩
   refine (xew w b vb rows.length cap i vc cur curv e ev hb hhv hnb hlt hroom (by unfold maxLen at hcm; omega) hcs hvs4 hone1 hone2 c1 hc1).mono (fun ex W he => ?_)
   obtain ⟨rfl, rfl⟩ := he
   have ha4 : (curv.toList.take 4).length = 4 := by rw [List.length_take]; omega
   have hm : ((cur.toList.drop (i * 4)).take ((rows.length - i) * 4)).length = (rows.length - i) * 4 := by rw [List.length_take, List.length_drop]; omega
   obtain ⟨rest, hrest⟩ := q1o cur (i * 4) (curv.toList.take 4) ((cur.toList.drop (i * 4)).take ((rows.length - i) * 4)) ha4 (by omega)
   rw [show i * 4 + 4 = (i + 1) * 4 by omega, ← hc1, hL] at hrest
   have hs1 : c1.size = cur.size := by rw [hc1]; exact qd9 _ _ _ (by rw [hm]; omega)
   have hs2 : (qfp c1 (i * 4) (curv.toList.take 4)).size = cur.size := by rw [qd9 _ _ _ (by rw [ha4, hs1]; omega), hs1]
   have hh1 : (w.drew.setRow b c1).heap[b]? = some (.cells c1 e (0, 0)) := setRow_heap w.drew b cur c1 e (0, 0) hb
   have hh2 := setRow_heap (w.drew.setRow b c1) b c1 (qfp c1 (i * 4) (curv.toList.take 4)) e (0, 0) hh1
   have hq2 : Qt (fun _ => False) g w g ((w.drew.setRow b c1).setRow b (qfp c1 (i * 4) (curv.toList.take 4))) [0] [0] :=
    Qt.setUni hd rfl rfl rfl gb (by simp [World.setRow]) (fun k hk => by rw [setRow_other _ _ _ _ hk, setRow_other _ _ _ _ hk]; rfl)
   refine fin hq2 ?_
   rw [← hnl]
   exact qzn gb hh2 (by omega) hcm (by rw [hs2]; exact hcs) hes2 (hLr.quiet hd hq2) (qut hrest)
  ·refine (xj9 w b vb rows.length cap i vc cur curv e ev hb hhv hlt hle (by omega) (by omega) hcs hvs4 hone1 hone2).mono (fun ex W he => ?_)
   obtain ⟨G, R, c1, c2, rfl, hG1, hG2, hR, hc1, hc2, rfl⟩ := he
   have ha4 : (curv.toList.take 4).length = 4 := by rw [List.length_take]; omega
   have hm : ((cur.toList.drop (i * 4)).take ((rows.length - i) * 4)).length = (rows.length - i) * 4 := by rw [List.length_take, List.length_drop]; omega
   have hlt4 : (cur.toList.take (i * 4)).length = i * 4 := by rw [List.length_take]; omega
   have hRs : R.size = G * 4 := by
    rw [hR]
    simp only [Array.size_append, qd6, List.size_toArray, hlt4]
    simp
    omega
   obtain ⟨rest, hrest⟩ := q4t R (i * 4) (curv.toList.take 4) ((cur.toList.drop (i * 4)).take ((rows.length - i) * 4)) ha4 (by omega)
   have hRt : R.toList.take (i * 4) = cur.toList.take (i * 4) := by
    rw [hR]
    simp only [Array.toList_append, List.append_assoc]
    exact List.take_left' hlt4
   rw [show i * 4 + 4 = (i + 1) * 4 by omega, ← hc1, ← hc2, hRt, hL] at hrest
   have hs1 : c1.size = R.size := by rw [hc1]; exact qd9 _ _ _ (by rw [ha4]; omega)
   have hs2 : c2.size = R.size := by rw [hc2, qd9 _ _ _ (by rw [hm, hs1]; omega), hs1]
   have hn0 : (w.alloc (.cells R 163)).drew.heap[w.heap.size]? = some (.cells R 163 (0, 0)) := heap_alloc_new w _
   have hh1 : ((w.alloc (.cells R 163)).drew.setRow w.heap.size c1).drew.heap[w.heap.size]? = some (.cells c1 163 (0, 0)) := setRow_heap _ _ R c1 _ _ hn0
   have hh2 := setRow_heap _ w.heap.size c1 c2 _ _ hh1
   have hq2 : Qt (fun _ => False) g w (g.at w.heap.size (.uni 0)) (((w.alloc (.cells R 163)).drew.setRow w.heap.size c1).drew.setRow w.heap.size c2) [0] [0] :=
    Qt.addUni (W := ((w.alloc (.cells R 163)).drew.setRow w.heap.size c1).drew.setRow w.heap.size c2) hd rfl rfl rfl 0 (by rw [qrt, World.drew_heap', qrt]; exact Array.size_push _) (fun k hk => by
     rw [setRow_other _ _ _ _ (by omega)]
     show ((w.alloc (.cells R 163)).drew.setRow w.heap.size c1).heap[k]? = _
     rw [setRow_other _ _ _ _ (by omega)]
     exact heap_alloc_old w (.cells R 163) hk)
   refine fin hq2 ?_
   rw [← hnl]
   exact qzn (Ghost.at_same _ _ _) hh2 (by omega) hG2 (by rw [hs2, hRs]; exact Nat.le_refl _) hes2 (hLr.quiet hd hq2) (qut hrest)
end Go.Proofs.YtkcdbcbpbolgkaaGreatDoor
