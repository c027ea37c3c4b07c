/- Texts Fa, Fb, Gh, Gi, Gj, Gk, Gl, Gm, Gr, Gw, Gx. -/
import Derived.Test.YthcpckcgjplhiaaMdj
import Derived.Calls
import Derived.Orders
import Derived.Tactics
import Derived.Laws.AppendOwn
import Derived.Laws.Slices
import Derived.Laws.Closers25
import Derived.Laws.StructEq
import Derived.Laws.BytesString
import Derived.Laws.CopyRow
import Derived.IntWalk
import Derived.ProofKit
import Derived.OpenShut
import Derived.Carry
import Derived.Test.YthcpckcgjplhiaaProg
import Derived.KernelRfl
import Derived.Shelf.Spec.SlicesInsertGrow
/- slices.Insert at a struct: one element, into a slice that is ours alone. -/
namespace Go.Proofs.Ythcpckcgjplhiaa
open Go.Abs Go.RowKit Go.Lib
set_option linter.unusedSimpArgs false
set_option linter.unusedVariables false

theorem hov (w : World) (b vb off lb cb vc : Nat) (cur curv : Array Value) (e ev : TypeId) (hb : w.heap[b]? = some (.cells cur e (0, 0))) (hv : w.heap[vb]? = some (.cells curv ev (0, 0))) (hne : vb ≠ b) (h0 : cur.size ≠ 0) :
    (callFunc 113 #[.slice (some ⟨vb, 0, none⟩) 1 vc, .slice (some ⟨b, off, none⟩) lb cb]).run Try.prog w = .ok (.value (.bool false)) w := by
  rw [run_callFunc_extern Try.func113 rfl (by kernel_rfl) (by kernel_rfl) (e := Extern.SlicesOverlaps.overlaps #[72, 72] #[4]) (by kernel_rfl),
    Lib.run_overlaps_apart w 72 4 128 Try.underlying72 4 Try.sizeOf128 ⟨vb, 0, none⟩ ⟨b, off, none⟩ 1 vc lb cb hne ev e curv.size cur.size (by simp [World.shape?, hv]) (by simp [World.shape?, hb]) h0 (by simp [World.frozen?, hv]) (by simp [World.frozen?, hv])]
  rfl

set_option maxHeartbeats 2000000 in
set_option maxRecDepth 100000 in
theorem ins_shift (w : World) (b vb n c i vc : Nat) (cur curv : Array Value) (e ev : TypeId) (hb : w.heap[b]? = some (.cells cur e (0, 0))) (hv : w.heap[vb]? = some (.cells curv ev (0, 0))) (hne : vb ≠ b) (hi : i < n) (hr : n + 1 ≤ c) (hc : c ≤ 9223372036854775807)
    (hcs : c * 4 ≤ cur.size) (hvs : 4 ≤ curv.size) (h1 : ∀ v ∈ (cur.toList.drop (i * 4)).take ((n - i) * 4), v.oneCell' = true) (h2 : ∀ v ∈ curv.toList.take 4, v.oneCell' = true) (c1 : Array Value) (hc1 : c1 = putAt cur ((i + 1) * 4) ((cur.toList.drop (i * 4)).take ((n - i) * 4))) :
    Calls Try.prog 87 #[.slice (some ⟨b, 0, none⟩) n c, .int .i64 i, .slice (some ⟨vb, 0, none⟩) 1 vc] w fun ex w' =>
      ex = .returned (.slice (some ⟨b, 0, none⟩) (n + 1) c) ∧ w' = (w.drew.setRow b c1).setRow b (putAt c1 (i * 4) (curv.toList.take 4)) := by
  obtain ⟨i0, hi0, hz0, hzs, hzb⟩ := info_parts (P := Try.prog) (e := 128) (z := .agg #[.int .i64 0, .int .i64 0, .slice none 0 0, .slice none 0 0]) (size := 4) (bytes := 64) (by kernel_rfl)
  have hz2 : ¬ ((i : Int) = (n : Int)) := by omega
  have hz3 : ¬ ((c : Int) < (n : Int) + 1) := by omega
  have mixed := follows
  have hov' := fun lb cb => hov w b vb ((i + 1) * 4) lb cb vc cur curv e ev hb hv hne (by omega)
  have hwn : IntKind.i64.wrap ((n : Int) + 1) = (n : Int) + 1 := by rw [IntKind.wrap_i64]; omega
  have hwi : IntKind.i64.wrap ((i : Int) + 1) = (i : Int) + 1 := by rw [IntKind.wrap_i64]; omega
  have hb1 : (0 : Int) ≤ (i : Int) + 1 := by omega
  have hb3 : (i : Int) + 1 ≤ (n : Int) + 1 := by omega
  have htn : ((i : Int) + 1).toNat = i + 1 := by omega
  have htn2 : ((n : Int) + 1).toNat = n + 1 := by omega
  have u72 := run_underlying Try.underlying72
  have s128 := Try.sizeOf128
  have hb4 : (i : Int) ≤ (n : Int) + 1 := by omega
  have hci : ¬ (c = i) := by omega
  have hci1 : ¬ (c = i + 1) := by omega
  have hq : cur.toList.length = cur.size := Array.length_toList
  have hqv : curv.toList.length = curv.size := Array.length_toList
  have hle1 : (n - i) * 4 + (i + 1) * 4 ≤ c * 4 := by rw [← Nat.add_mul]; exact Nat.mul_le_mul_right _ (by omega)
  have hl1 : ((cur.toList.drop (i * 4)).take ((n - i) * 4)).length = (n - i) * 4 := by rw [List.length_take, List.length_drop]; omega
  have hcp1 : ∀ ty dc sc, (Builtin.copy_ #[72, 72] ty #[.slice (some ⟨b, (i + 1) * 4, none⟩) (n - i) dc, .slice (some ⟨b, i * 4, none⟩) (n + 1 - i) sc]).run Try.prog w.drew = .ok (.int .i64 ((n - i : Nat) : Int)) (w.drew.setRow b c1) := fun ty dc sc => by
    have := copy_rows (P := Try.prog) (u := 72) (ty := ty) Try.underlying72 hi0 w.drew b ((i + 1) * 4) (n - i) dc cur e hb b (i * 4) (n + 1 - i) sc cur e hb (n - i) (by simp only [Nat.min_def]; split <;> omega) (by rw [hzs]; omega) (by rw [hzs]; omega) (by rw [hzs]; exact h1)
    rw [hzs, ← hc1] at this
    exact this
  have hs1 : c1.size = cur.size := by rw [hc1]; exact putAt_size _ _ _ (by rw [hl1]; omega)
  have hcp2 : ∀ (W : World), W.heap = (w.drew.setRow b c1).heap → ∀ ty dc, (Builtin.copy_ #[72, 72] ty #[.slice (some ⟨b, i * 4, none⟩) (n + 1 - i) dc, .slice (some ⟨vb, 0, none⟩) 1 vc]).run Try.prog W = .ok (.int .i64 ((1 : Nat) : Int)) (W.setRow b (putAt c1 (i * 4) (curv.toList.take 4))) := fun W hW ty dc => by
    have hb' : W.heap[b]? = some (.cells c1 e (0, 0)) := by rw [hW]; exact setRow_heap w.drew b cur c1 e (0, 0) hb
    have hv' : W.heap[vb]? = some (.cells curv ev (0, 0)) := by rw [hW, setRow_other w.drew b vb c1 hne]; exact hv
    have := copy_rows (P := Try.prog) (u := 72) (ty := ty) Try.underlying72 hi0 W b (i * 4) (n + 1 - i) dc c1 e hb' vb 0 1 vc curv ev hv' 1 (by simp only [Nat.min_def]; split <;> omega) (by rw [hzs]; omega) (by rw [hzs]; omega) (by rw [hzs]; simpa using h2)
    rw [hzs] at this
    simpa using this
  go_enter Try.func87, Try.ntmps87
  go_wp2_with (simp only [hov'])
  go_region_law_o (refine step_copy_runI rfl _ _ 72 72 rfl _ _ (by simp [Act.eval, Act.put]) (by simp [Act.eval, Act.put]) (hcp1 _ _ _) ?_)
  go_wp2_with (at_builtin; refine wpList_copy_runI _ rfl _ _ 72 72 rfl _ _ rfl rfl (hcp2 _ rfl _ _) ?_)
  go_ret
  exact ⟨rfl, by rw [hc1]⟩

set_option maxHeartbeats 2000000 in
set_option maxRecDepth 100000 in
theorem ins_end (w : World) (sv : Option Addr) (vb n c vc : Nat) (r : Value) (W : World) (hrun : ∀ ty, (Builtin.append_ #[72, 72] ty #[.slice sv n c, .slice (some ⟨vb, 0, none⟩) 1 vc]).run Try.prog w = .ok r W) (hn : n ≤ c) (hc : c ≤ 9223372036854775807) (h0 : sv = none → c = 0) :
    Calls Try.prog 87 #[.slice sv n c, .int .i64 n, .slice (some ⟨vb, 0, none⟩) 1 vc] w fun ex w' => ex = .returned r ∧ w' = W := by
  have mixed := follows
  have u72 := run_underlying Try.underlying72
  have s128 := Try.sizeOf128
  cases sv with
  | none =>
    have hc0 := h0 rfl
    have hn0 : n = 0 := by omega
    subst hc0; subst hn0
    go_enter Try.func87, Try.ntmps87
    go_wp2_with (at_builtin; refine Lib.wpList_append_run _ rfl _ _ _ _ rfl _ _ rfl rfl _ _ (hrun _) ?_)
    go_ret
    exact ⟨rfl, rfl⟩
  | some ad =>
    go_enter Try.func87, Try.ntmps87
    go_wp2_with (at_builtin; refine Lib.wpList_append_run _ rfl _ _ _ _ rfl _ _ rfl rfl _ _ (hrun _) ?_)
    all_goals (go_ret; exact ⟨rfl, rfl⟩)

set_option maxHeartbeats 2000000 in
set_option maxRecDepth 100000 in
theorem ins_grow (w : World) (b vb n c i vc : Nat) (cur curv : Array Value) (e ev : TypeId) (hb : w.heap[b]? = some (.cells cur e (0, 0))) (hv : w.heap[vb]? = some (.cells curv ev (0, 0))) (hi : i < n) (hn : n ≤ c) (hr : c < n + 1) (hbig : (n + 1) * 64 ≤ 140737488355328)
    (hcs : c * 4 ≤ cur.size) (hvs : 4 ≤ curv.size) (h1 : ∀ v ∈ (cur.toList.drop (i * 4)).take ((n - i) * 4), v.oneCell' = true) (h2 : ∀ v ∈ curv.toList.take 4, v.oneCell' = true) :
    Calls Try.prog 87 #[.slice (some ⟨b, 0, none⟩) n c, .int .i64 i, .slice (some ⟨vb, 0, none⟩) 1 vc] w fun ex w' =>
      ∃ G R c1 c2, ex = .returned (.slice (some ⟨w.heap.size, 0, none⟩) (n + 1) G) ∧ n + 1 ≤ G ∧ G ≤ maxLen ∧ R = ((cur.toList.take (i * 4)).toArray ++ Builtin.zeroCells #[.int .i64 0, .int .i64 0, .slice none 0 0, .slice none 0 0] (n + 1 - i) ++ Builtin.zeroCells #[.int .i64 0, .int .i64 0, .slice none 0 0, .slice none 0 0] (G - (n + 1))) ∧
        c1 = putAt R (i * 4) (curv.toList.take 4) ∧ c2 = putAt c1 ((i + 1) * 4) ((cur.toList.drop (i * 4)).take ((n - i) * 4)) ∧ w' = (((w.alloc (.cells R 128)).drew.setRow w.heap.size c1).drew).setRow w.heap.size c2 := by
  have mixed := follows
  obtain ⟨i0, hi0, hz0, hzs, hzb⟩ := info_parts (P := Try.prog) (e := 128) (z := .agg #[.int .i64 0, .int .i64 0, .slice none 0 0, .slice none 0 0]) (size := 4) (bytes := 64) (by kernel_rfl)
  have u72 := run_underlying Try.underlying72
  have s128 := Try.sizeOf128
  have hz2 : ¬ ((i : Int) = (n : Int)) := by omega
  have hz3 : (c : Int) < (n : Int) + 1 := by omega
  have hwn : IntKind.i64.wrap ((n : Int) + 1) = (n : Int) + 1 := by rw [IntKind.wrap_i64]; omega
  have hwi : IntKind.i64.wrap ((i : Int) + 1) = (i : Int) + 1 := by rw [IntKind.wrap_i64]; omega
  have hkk : (n : Int) + 1 - (i : Int) = ((n + 1 - i : Nat) : Int) := by omega
  have hwk : IntKind.i64.wrap ((n : Int) + 1 - (i : Int)) = (n : Int) + 1 - (i : Int) := by rw [IntKind.wrap_i64]; omega
  have hik : i + (n + 1 - i) = n + 1 := by omega
  have hq : cur.toList.length = cur.size := Array.length_toList
  have hqv : curv.toList.length = curv.size := Array.length_toList
  have hle0 : i * 4 ≤ c * 4 := Nat.mul_le_mul_right _ (by omega)
  have hle1 : (n - i) * 4 + i * 4 ≤ c * 4 := by rw [← Nat.add_mul]; exact Nat.mul_le_mul_right _ (by omega)
  have hl1 : ((cur.toList.drop (i * 4)).take ((n - i) * 4)).length = (n - i) * 4 := by rw [List.length_take, List.length_drop]; omega
  have hold : (Builtin.firstCells i0.size i (.slice (some ⟨b, 0, none⟩) i c)).run Try.prog w.drew = .ok (cur.toList.take (i * 4)).toArray w.drew := by
    rw [hzs]
    refine run_firstCells_some w.drew 4 i ⟨b, 0, none⟩ i c _ (by rw [List.length_take]; omega) (fun j v hj => ?_)
    rw [List.getElem?_take] at hj
    split at hj
    · rw [Addr.add_lit, Nat.zero_add]
      have hb' : w.drew.heap[b]? = some (.cells cur e (0, 0)) := hb
      simpa [World.cell?, hb'] using hj
    · cases hj
  have hrz : ∀ ty, (Builtin.append_ #[72, 3] ty #[.slice (some ⟨b, 0, none⟩) i c, .int .i64 ((n : Int) + 1 - (i : Int))]).run Try.prog w =
      .ok (.slice (some ⟨w.heap.size, 0, none⟩) (n + 1) (grownCap w (n + 1) c 128)) (w.drew.alloc (.cells ((cur.toList.take (i * 4)).toArray ++ Builtin.zeroCells #[.int .i64 0, .int .i64 0, .slice none 0 0, .slice none 0 0] (n + 1 - i) ++ Builtin.zeroCells #[.int .i64 0, .int .i64 0, .slice none 0 0, .slice none 0 0] (grownCap w (n + 1) c 128 - (n + 1))) 128)) := fun ty => by
    have h := Lib.run_append_grow_zeros w 72 3 ty 128 i0 _ .i64 .i64 Try.underlying72 Try.underlying3 hi0 hz0 (some ⟨b, 0, none⟩) i c _ hold (n + 1 - i) (by omega) (by omega) (by omega) (by omega) (by rw [hzb]; omega) (by rw [hzb, hik]; exact growslice_fits hr hbig)
    rw [hik] at h
    rw [hkk]
    exact h
  have hGn : n + 1 ≤ grownCap w (n + 1) c 128 := grownCap_ge w _ _ _
  have hGm : grownCap w (n + 1) c 128 ≤ maxLen := grownCap_le_maxLen w (n + 1) c 128 (by unfold maxLen; omega)
  obtain ⟨G, hG⟩ : ∃ G, G = grownCap w (n + 1) c 128 := ⟨_, rfl⟩
  rw [← hG] at hrz hGn hGm
  obtain ⟨R, hR⟩ : ∃ R : Array Value, R = ((cur.toList.take (i * 4)).toArray ++ Builtin.zeroCells #[.int .i64 0, .int .i64 0, .slice none 0 0, .slice none 0 0] (n + 1 - i) ++ Builtin.zeroCells #[.int .i64 0, .int .i64 0, .slice none 0 0, .slice none 0 0] (G - (n + 1))) := ⟨_, rfl⟩
  rw [← hR] at hrz
  have hRs : R.size = G * 4 := by
    rw [hR]
    simp only [Array.size_append, size_zeros, List.size_toArray, List.length_take]
    rw [Nat.min_eq_left (by omega)]
    simp
    omega
  obtain ⟨c1, hc1⟩ : ∃ c1, c1 = putAt R (i * 4) (curv.toList.take 4) := ⟨_, rfl⟩
  obtain ⟨c2, hc2⟩ : ∃ c2, c2 = putAt c1 ((i + 1) * 4) ((cur.toList.drop (i * 4)).take ((n - i) * 4)) := ⟨_, rfl⟩
  have hs1 : c1.size = G * 4 := by rw [hc1, putAt_size _ _ _ (by rw [List.length_take]; omega), hRs]
  have hnb : b < w.heap.size := (Array.getElem?_eq_some_iff.1 hb).1
  have hnv : vb < w.heap.size := (Array.getElem?_eq_some_iff.1 hv).1
  have hnew : (w.drew.alloc (.cells R 128)).heap[w.heap.size]? = some (.cells R 128 (0, 0)) := heap_alloc_new w.drew _
  have hold2 : ∀ k, k < w.heap.size → (w.drew.alloc (.cells R 128)).heap[k]? = w.heap[k]? := fun k hk => heap_alloc_old w.drew (.cells R 128) hk
  have hcpA : ∀ (W : World), W.heap = (w.drew.alloc (.cells R 128)).heap → ∀ ty dc, (Builtin.copy_ #[72, 72] ty #[.slice (some ⟨w.heap.size, i * 4, none⟩) (n + 1 - i) dc, .slice (some ⟨vb, 0, none⟩) 1 vc]).run Try.prog W = .ok (.int .i64 ((1 : Nat) : Int)) (W.setRow w.heap.size c1) := fun W hW ty dc => by
    have := copy_rows (P := Try.prog) (u := 72) (ty := ty) Try.underlying72 hi0 W w.heap.size (i * 4) (n + 1 - i) dc R 128 (by rw [hW]; exact hnew) vb 0 1 vc curv ev (by rw [hW, hold2 vb hnv]; exact hv) 1 (by simp only [Nat.min_def]; split <;> omega) (by rw [hzs]; omega) (by rw [hzs]; omega) (by rw [hzs]; simpa using h2)
    rw [hzs] at this
    rw [hc1]
    simpa using this
  have hcpB : ∀ (W : World), W.heap = ((w.drew.alloc (.cells R 128)).setRow w.heap.size c1).heap → ∀ ty dc sc, (Builtin.copy_ #[72, 72] ty #[.slice (some ⟨w.heap.size, (i + 1) * 4, none⟩) (n - i) dc, .slice (some ⟨b, i * 4, none⟩) (n - i) sc]).run Try.prog W = .ok (.int .i64 ((n - i : Nat) : Int)) (W.setRow w.heap.size c2) := fun W hW ty dc sc => by
    have := copy_rows (P := Try.prog) (u := 72) (ty := ty) Try.underlying72 hi0 W w.heap.size ((i + 1) * 4) (n - i) dc c1 128 (by rw [hW]; exact setRow_heap _ _ R c1 _ _ hnew) b (i * 4) (n - i) sc cur e (by rw [hW, setRow_other _ _ _ _ (by omega), hold2 b hnb]; exact hb) (n - i) (by simp only [Nat.min_def]; split <;> omega) (by rw [hzs]; omega) (by rw [hzs]; omega) (by rw [hzs]; exact h1)
    rw [hzs, ← hc2] at this
    exact this
  have hb1 : (0 : Int) ≤ (i : Int) + 1 := by omega
  have hb3 : (i : Int) + 1 ≤ (n : Int) + 1 := by omega
  have hb4 : (i : Int) ≤ (n : Int) + 1 := by omega
  have hb5 : (i : Int) ≤ (n : Int) := by omega
  have hb6 : (i : Int) ≤ (c : Int) := by omega
  have htn : ((i : Int) + 1).toNat = i + 1 := by omega
  have htn2 : ((n : Int) + 1).toNat = n + 1 := by omega
  have hci : ¬ (c = i) := by omega
  have hGi : ¬ (G = i) := by omega
  have hGi1 : ¬ (G = i + 1) := by omega
  have hG63 : G ≤ 9223372036854775807 := by unfold maxLen at hGm; omega
  refine Calls.mono (R := fun ex w' => ex = .returned (.slice (some ⟨w.heap.size, 0, none⟩) (n + 1) G) ∧ w' = (((w.alloc (.cells R 128)).drew.setRow w.heap.size c1).drew).setRow w.heap.size c2) ?_ (fun ex w' h => ⟨G, R, c1, c2, h.1, hGn, hGm, hR, hc1, hc2, h.2⟩)
  clear hkk hik hold hR hG hRs hc1 hc2 hs1 hl1 hle0 hle1
  go_enter Try.func87, Try.ntmps87
  have e1 : ∀ ty dc, (Builtin.copy_ #[72, 72] ty #[.slice (some ⟨w.heap.size, i * 4, none⟩) (n + 1 - i) dc, .slice (some ⟨vb, 0, none⟩) 1 vc]).run Try.prog (w.alloc (.cells R 128)).drew = .ok (.int .i64 ((1 : Nat) : Int)) ((w.alloc (.cells R 128)).drew.setRow w.heap.size c1) := hcpA _ rfl
  have e2 : ∀ ty dc sc, (Builtin.copy_ #[72, 72] ty #[.slice (some ⟨w.heap.size, (i + 1) * 4, none⟩) (n - i) dc, .slice (some ⟨b, i * 4, none⟩) (n - i) sc]).run Try.prog (((w.alloc (.cells R 128)).drew.setRow w.heap.size c1).drew) = .ok (.int .i64 ((n - i : Nat) : Int)) ((((w.alloc (.cells R 128)).drew.setRow w.heap.size c1).drew).setRow w.heap.size c2) := hcpB _ rfl
  clear hcpA hcpB
  go_wp2_with (first
    | (at_builtin; refine Lib.wpList_append_run _ rfl _ _ _ _ rfl _ _ rfl rfl _ _ (hrz _) ?_)
    | (at_builtin; refine wpList_copy_runI _ rfl _ _ 72 72 rfl _ _ rfl rfl (e1 _ _) ?_))

  go_region_law_o (refine step_copy_runI rfl _ _ 72 72 rfl _ _ (by simp [Act.eval, Act.put]) (by simp [Act.eval, Act.put]) (e2 _ _ _) ?_)
  go_wp2
  go_ret
  exact ⟨rfl, rfl⟩
end Go.Proofs.Ythcpckcgjplhiaa

/- slices.Insert at a struct: its contract. -/
namespace Go.Proofs.Ythcpckcgjplhiaa
open Go.Abs Go.RowKit Go.Lib
set_option linter.unusedSimpArgs false
set_option linter.unusedVariables false

section
variable {P : Program} {g : Ghost} {w : World}

/-- One element, from a row. -/
theorem one_source {es vb vc : Nat} {curv : Array Value} {ev : TypeId} (hv : w.heap[vb]? = some (.cells curv ev (0, 0))) (h : es ≤ curv.size) :
    Go.Abs.Source P es (.slice (some ⟨vb, 0, none⟩) 1 vc) 1 w (curv.toList.take es) ∧ (Builtin.firstCells es 1 (.slice (some ⟨vb, 0, none⟩) 1 vc)).run P w.drew = .ok (curv.toList.take es).toArray w.drew := by
  have hq : curv.toList.length = curv.size := Array.length_toList
  have key : ∀ W : World, W.heap = w.heap → (Builtin.firstCells es 1 (.slice (some ⟨vb, 0, none⟩) 1 vc)).run P W = .ok (curv.toList.take es).toArray W := by
    intro W hW
    refine run_firstCells_some (P := P) W es 1 _ _ _ _ (by rw [List.length_take]; omega) (fun j v hj => ?_)
    rw [List.getElem?_take] at hj
    split at hj
    · rw [Addr.add_lit, Nat.zero_add]
      have hv' : W.heap[vb]? = some (.cells curv ev (0, 0)) := by rw [hW]; exact hv
      simpa [World.cell?, hv'] using hj
    · cases hj
  exact ⟨⟨by simp [Builtin.lenOf], key w rfl⟩, key w.drew rfl⟩
end

theorem drop_take' {α : Type} (l : List α) (a b : Nat) : (l.drop a).take b = (l.take (a + b)).drop a := by rw [List.drop_take]; congr 1; omega

theorem flat_take {es : Nat} : ∀ {rows : List (List D)}, (∀ r ∈ rows, r.length = es) → ∀ i, (rows.take i).flatten = rows.flatten.take (i * es)
  | [], _, i => by simp
  | r :: l, h, 0 => by simp
  | r :: l, h, i + 1 => by
    have hr : r.length = es := h r (by simp)
    rw [List.take_succ_cons, List.flatten_cons, List.flatten_cons, flat_take (fun x hx => h x (by simp [hx])) i, List.take_append, hr, Nat.succ_mul]
    rw [List.take_of_length_le (show r.length ≤ i * es + es by omega)]
    congr 2
    omega
theorem flat_drop {es : Nat} : ∀ {rows : List (List D)}, (∀ r ∈ rows, r.length = es) → ∀ i, (rows.drop i).flatten = rows.flatten.drop (i * es)
  | [], _, i => by simp
  | r :: l, h, 0 => by simp
  | r :: l, h, i + 1 => by
    have hr : r.length = es := h r (by simp)
    rw [List.drop_succ_cons, List.flatten_cons, flat_drop (fun x hx => h x (by simp [hx])) i, List.drop_append, hr, Nat.succ_mul]
    rw [List.drop_of_length_le (show r.length ≤ i * es + es by omega), List.nil_append]
    congr 1
    omega

theorem shift_prefix (cur : Array Value) (k : Nat) (a m : List Value) (ha : a.length = 4) (hk : k + 4 ≤ cur.size) : ∃ rest, (putAt (putAt cur (k + 4) m) k a).toList = cur.toList.take k ++ a ++ m ++ rest := by
  have hq : cur.toList.length = cur.size := Array.length_toList
  have hl : (cur.toList.take (k + 4)).length = k + 4 := by rw [List.length_take]; omega
  refine ⟨cur.toList.drop (k + 4 + m.length), ?_⟩
  simp only [putAt_list, ha]
  rw [List.append_assoc (cur.toList.take (k + 4)), List.take_append_of_le_length (by omega), List.take_take, Nat.min_eq_left (by omega), List.drop_left' hl]
  simp
theorem grow_prefix (cur : Array Value) (k : Nat) (a m : List Value) (ha : a.length = 4) (hk : k + 4 ≤ cur.size) : ∃ rest, (putAt (putAt cur k a) (k + 4) m).toList = cur.toList.take k ++ a ++ m ++ rest := by
  have hq : cur.toList.length = cur.size := Array.length_toList
  have hl : (cur.toList.take k ++ a).length = k + 4 := by simp [ha]; omega
  exact ⟨_, by simp only [putAt_list]; rw [List.take_left' hl]⟩
theorem prefix_get {c : Array Value} {L rest : List Value} (h : c.toList = L ++ rest) : ∀ (j : Nat) (u : Value), L[j]? = some u → c[j]? = some u := by
  intro j u hj
  have hlt : j < L.length := (List.getElem?_eq_some_iff.1 hj).1
  rw [← Array.getElem?_toList, h, List.getElem?_append_left hlt]
  exact hj

theorem setRow_size (w : World) (b : Nat) (c : Array Value) : (w.setRow b c).heap.size = w.heap.size := by simp [World.setRow]
theorem World.drew_heap' (w : World) : w.drew.heap = w.heap := rfl

set_option maxRecDepth 10000 in
set_option maxHeartbeats 1000000 in
theorem insert_ok (rows : List (List D)) (row : List D) (i : Nat) (hi : i ≤ rows.length) (hl : rows.length ≤ 1000) (hr : row.length = 4) :
    ACall Try.prog 87 [.uni 0 4 rows, .d (.int .i64 i), .uni 1 4 [row]] [] (.uni 0 4 (rows.take i ++ [row] ++ rows.drop i)) [] := by
  intro g w vs hd hlen hv ho
  obtain ⟨i0, hi0, hz0, hzs, hzb⟩ := info_parts (P := Try.prog) (e := 128) (z := .agg #[.int .i64 0, .int .i64 0, .slice none 0 0, .slice none 0 0]) (size := 4) (bytes := 64) (by kernel_rfl)
  match vs, hlen with
  | [v0, v1, v2], _ =>
  have h0 := (hv 0 v0 _ rfl rfl).2 (by simp [toksOf, ASlot.toks])
  have h1 : v1 = .int .i64 i := rv_int (hv 1 v1 _ rfl rfl)
  have h2 := (hv 2 v2 _ rfl rfl).2 (by simp [toksOf, ASlot.toks])
  subst h1
  obtain ⟨vb, vc, curv, ev, rfl, gv, hhv, _, _, hvs, _, hrlv⟩ := uni_row h2 (by simp)
  have hvs4 : 4 ≤ curv.size := by
    have : 1 ≤ vc := by simpa using (by assumption : [row].length ≤ vc)
    omega
  simp only [List.length_singleton, Nat.one_mul, List.flatten_cons, List.flatten_nil, List.append_nil] at hrlv
  obtain ⟨src, srcd⟩ := one_source (P := Try.prog) (vc := vc) hhv hvs4
  have fin : ∀ {g' : Ghost} {W : World} {v : Value} {rows' : List (List D)}, Qt (fun _ => False) g w g' W [0] [0] → RC g' W [0] v (.uni 0 4 rows') →
      ∃ v' g'' live', Ending.returned v = .returned v' ∧ G g w g'' W ∧ Dom g'' W ∧ (∀ t ∈ (ASlot.uni 0 4 rows').toks, t ∈ live') ∧ RS g'' W live' v' (.uni 0 4 rows') ∧ ObjsOk g'' W live' [] := by
    intro g' W v rows' hq hrc
    refine ⟨v, g', [0], rfl, hq.toG, hq.dom, by simp [ASlot.toks], rs_of_rc hrc, ⟨fun id o h => by simp at h, fun b b' id h1 h2 => ho.inj b b' id (hq.objB b id h1) (hq.objB b' id h2), fun b id h => ?_⟩⟩
    obtain ⟨o, ho', _⟩ := ho.ids b id (hq.objB b id h)
    simp at ho'
  by_cases hin : i = rows.length
  · subst hin
    rw [List.take_length, List.drop_length, List.append_nil]
    have more : ∀ (base : Option Addr) (cap : Nat) (olds : List Value), cap < rows.length + 1 → rows.length ≤ cap → (base = none → cap = 0) → (∀ r ∈ rows, r.length = 4) → RL g w olds rows.flatten →
        (Builtin.firstCells 4 rows.length (.slice base rows.length cap)).run Try.prog w.drew = .ok olds.toArray w.drew →
        Calls Try.prog 87 #[.slice base rows.length cap, .int .i64 rows.length, .slice (some ⟨vb, 0, none⟩) 1 vc] w fun e w' => ∃ v g' live', e = .returned v ∧ G g w g' w' ∧ Dom g' w' ∧ (∀ t ∈ (ASlot.uni 0 4 (rows ++ [row])).toks, t ∈ live') ∧ RS g' w' live' v (.uni 0 4 (rows ++ [row])) ∧ ObjsOk g' w' live' [] := by
      intro base cap olds hc hc0 hb0 hes ho1 ho2
      have key : ∀ ty, ∃ v w' g', (Builtin.append_ #[72, 72] ty #[.slice base rows.length cap, .slice (some ⟨vb, 0, none⟩) 1 vc]).run Try.prog w = .ok v w' ∧ Qt (fun _ => False) g w g' w' [0] [0] ∧ RC g' w' [0] v (.uni 0 4 (rows ++ [row])) := fun ty => by
        have := append_moreU (P := Try.prog) (T := fun _ => False) (live := [0]) (live' := [0]) (g := g) (w := w) (t := 72) (u := 72) (ty := ty) (r := [row]) (news := curv.toList.take 4) (x := .slice (some ⟨vb, 0, none⟩) 1 vc) hd Try.underlying72 hi0 hz0 (by rw [hzs]; rfl) (.inl ⟨_, Try.underlying72⟩) (by omega) (base := base) (sCap := cap) (l := rows) (olds := olds) (by rw [hzs]; exact hes) ho1 (by rw [hzs]; exact ho2) src.1 (by rw [hzs]; exact srcd) (by simpa using hrlv) (by rw [hzs]; simpa using hr) (by simpa using hc) (by simp; omega) (by rw [hzb]; simp; omega) 0 (fun t h => h.elim)
        rwa [hzs] at this
      obtain ⟨v, W, g', k1, k2, k3⟩ := key 0
      have hall : ∀ ty, (Builtin.append_ #[72, 72] ty #[.slice base rows.length cap, .slice (some ⟨vb, 0, none⟩) 1 vc]).run Try.prog w = .ok v W := fun ty => k1
      refine (ins_end w base vb rows.length cap vc v W hall hc0 (by omega) hb0).mono (fun e w' he => ?_)
      obtain ⟨rfl, rfl⟩ := he
      exact fin k2 k3
    rcases h0 with ⟨ad, rfl, hr0⟩ | ⟨b, cap, cur, e, rfl, gb, hb, hle, hcm, hcs, hes, hcell⟩
    · subst hr0
      refine more ad 0 [] (by simp) (by simp) (fun _ => rfl) (by simp) ⟨by simp, by simp, by simp⟩ ?_
      cases ad with
      | none => simp [Builtin.firstCells]
      | some a0 => exact run_firstCells_some (P := Try.prog) w.drew 4 0 a0 _ _ [] (by simp) (by simp)
    · by_cases hroom : rows.length + 1 ≤ cap
      · have key : ∀ ty, ∃ v w' g', (Builtin.append_ #[72, 72] ty #[.slice (some ⟨b, 0, none⟩) rows.length cap, .slice (some ⟨vb, 0, none⟩) 1 vc]).run Try.prog w = .ok v w' ∧ Qt (fun _ => False) g w g' w' [0] [0] ∧ RC g' w' [0] v (.uni 0 4 (rows ++ [row])) := fun ty => by
          have := append_fitsU (P := Try.prog) (T := fun _ => False) (live := [0]) (live' := [0]) (g := g) (w := w) (t := 72) (u := 72) (ty := ty) (r := [row]) (news := curv.toList.take 4) (x := .slice (some ⟨vb, 0, none⟩) 1 vc) hd Try.underlying72 hi0 (.inl ⟨_, Try.underlying72⟩) (l := rows) (by rw [hzs]; exact hes) hcell gb hb hcm (by rw [hzs]; exact hcs) (by rw [hzs]; exact src) (by simpa using hrlv) (by rw [hzs]; simpa using hr) (by simpa using hroom) 0 (fun t h => h.elim)
          rwa [hzs] at this
        obtain ⟨v, W, g', k1, k2, k3⟩ := key 0
        have hall : ∀ ty, (Builtin.append_ #[72, 72] ty #[.slice (some ⟨b, 0, none⟩) rows.length cap, .slice (some ⟨vb, 0, none⟩) 1 vc]).run Try.prog w = .ok v W := fun ty => k1
        refine (ins_end w _ vb rows.length cap vc v W hall hle (by unfold maxLen at hcm; omega) (fun h => by cases h)).mono (fun e w' he => ?_)
        obtain ⟨rfl, rfl⟩ := he
        exact fin k2 k3
      · have hu : UniOk g w 0 4 rows (.slice (some ⟨b, 0, none⟩) rows.length cap) := .inr ⟨b, cap, cur, e, rfl, gb, hb, hle, hcm, hcs, hes, hcell⟩
        obtain ⟨base', cap', olds, hv', _, hes', ho1, ho2⟩ := olds_uni (P := Try.prog) hu
        cases hv'
        exact more _ cap olds (by omega) hle (fun h => by cases h) hes ho1 ho2
  · have hlt : i < rows.length := by omega
    have hne : rows ≠ [] := by rintro rfl; simp at hlt
    obtain ⟨b, cap, cur, e, rfl, gb, hb, hle, hcm, hcs, hes, hrl⟩ := uni_row h0 hne
    have hq : cur.toList.length = cur.size := Array.length_toList
    have hqv : curv.toList.length = curv.size := Array.length_toList
    have hnb : vb ≠ b := by rintro rfl; rw [gb] at gv; cases gv
    have hrow4 : rows.length * 4 ≤ cap * 4 := Nat.mul_le_mul_right _ hle
    have hfl : rows.flatten.length = rows.length * 4 := flat_length hes
    have htake : (cur.toList.drop (i * 4)).take ((rows.length - i) * 4) = (cur.toList.take (rows.length * 4)).drop (i * 4) := by rw [drop_take']; congr 2; omega
    have hone1 : ∀ v ∈ (cur.toList.drop (i * 4)).take ((rows.length - i) * 4), v.oneCell' = true := by rw [htake]; exact (hrl.drop (i * 4)).ones
    have hone2 : ∀ v ∈ curv.toList.take 4, v.oneCell' = true := hrlv.ones
    have htk : cur.toList.take (i * 4) = (cur.toList.take (rows.length * 4)).take (i * 4) := by rw [List.take_take, Nat.min_eq_left (by omega)]
    have hnew : (rows.take i ++ [row] ++ rows.drop i).flatten = rows.flatten.take (i * 4) ++ row ++ rows.flatten.drop (i * 4) := by simp [flat_take hes, flat_drop hes]
    have hnl : (rows.take i ++ [row] ++ rows.drop i).length = rows.length + 1 := by simp; omega
    have hes2 : ∀ r ∈ rows.take i ++ [row] ++ rows.drop i, r.length = 4 := by
      intro r h
      simp only [List.append_assoc, List.mem_append, List.mem_singleton] at h
      rcases h with h | h | h
      · exact hes r (List.mem_of_mem_take h)
      · subst h; exact hr
      · exact hes r (List.mem_of_mem_drop h)
    generalize hL : cur.toList.take (i * 4) ++ curv.toList.take 4 ++ (cur.toList.drop (i * 4)).take ((rows.length - i) * 4) = L
    have hLr : RL g w L (rows.take i ++ [row] ++ rows.drop i).flatten := by
      rw [← hL, hnew, htake, htk]
      exact ((hrl.take (i * 4)).append hrlv).append (hrl.drop (i * 4))
    by_cases hroom : rows.length + 1 ≤ cap
    · obtain ⟨c1, hc1⟩ : ∃ c1, c1 = putAt cur ((i + 1) * 4) ((cur.toList.drop (i * 4)).take ((rows.length - i) * 4)) := ⟨_, rfl⟩
      refine (ins_shift w b vb rows.length cap i vc cur curv e ev hb hhv hnb hlt hroom (by unfold maxLen at hcm; omega) hcs hvs4 hone1 hone2 c1 hc1).mono (fun ex W he => ?_)
      obtain ⟨rfl, rfl⟩ := he
      have ha4 : (curv.toList.take 4).length = 4 := by rw [List.length_take]; omega
      have hm : ((cur.toList.drop (i * 4)).take ((rows.length - i) * 4)).length = (rows.length - i) * 4 := by rw [List.length_take, List.length_drop]; omega
      obtain ⟨rest, hrest⟩ := shift_prefix cur (i * 4) (curv.toList.take 4) ((cur.toList.drop (i * 4)).take ((rows.length - i) * 4)) ha4 (by omega)
      rw [show i * 4 + 4 = (i + 1) * 4 by omega, ← hc1, hL] at hrest
      have hs1 : c1.size = cur.size := by rw [hc1]; exact putAt_size _ _ _ (by rw [hm]; omega)
      have hs2 : (putAt c1 (i * 4) (curv.toList.take 4)).size = cur.size := by rw [putAt_size _ _ _ (by rw [ha4, hs1]; omega), hs1]
      have hh1 : (w.drew.setRow b c1).heap[b]? = some (.cells c1 e (0, 0)) := setRow_heap w.drew b cur c1 e (0, 0) hb
      have hh2 := setRow_heap (w.drew.setRow b c1) b c1 (putAt c1 (i * 4) (curv.toList.take 4)) e (0, 0) hh1
      have hq2 : Qt (fun _ => False) g w g ((w.drew.setRow b c1).setRow b (putAt c1 (i * 4) (curv.toList.take 4))) [0] [0] :=
        Qt.setUni hd rfl rfl rfl gb (by simp [World.setRow]) (fun k hk => by rw [setRow_other _ _ _ _ hk, setRow_other _ _ _ _ hk]; rfl)
      refine fin hq2 ?_
      rw [← hnl]
      exact rc_uni_of gb hh2 (by omega) hcm (by rw [hs2]; exact hcs) hes2 (hLr.quiet hd hq2) (prefix_get hrest)
    · refine (ins_grow w b vb rows.length cap i vc cur curv e ev hb hhv hlt hle (by omega) (by omega) hcs hvs4 hone1 hone2).mono (fun ex W he => ?_)
      obtain ⟨G, R, c1, c2, rfl, hG1, hG2, hR, hc1, hc2, rfl⟩ := he
      have ha4 : (curv.toList.take 4).length = 4 := by rw [List.length_take]; omega
      have hm : ((cur.toList.drop (i * 4)).take ((rows.length - i) * 4)).length = (rows.length - i) * 4 := by rw [List.length_take, List.length_drop]; omega
      have hlt4 : (cur.toList.take (i * 4)).length = i * 4 := by rw [List.length_take]; omega
      have hRs : R.size = G * 4 := by
        rw [hR]
        simp only [Array.size_append, size_zeros, List.size_toArray, hlt4]
        simp
        omega
      obtain ⟨rest, hrest⟩ := grow_prefix R (i * 4) (curv.toList.take 4) ((cur.toList.drop (i * 4)).take ((rows.length - i) * 4)) ha4 (by omega)
      have hRt : R.toList.take (i * 4) = cur.toList.take (i * 4) := by
        rw [hR]
        simp only [Array.toList_append, List.append_assoc]
        exact List.take_left' hlt4
      rw [show i * 4 + 4 = (i + 1) * 4 by omega, ← hc1, ← hc2, hRt, hL] at hrest
      have hs1 : c1.size = R.size := by rw [hc1]; exact putAt_size _ _ _ (by rw [ha4]; omega)
      have hs2 : c2.size = R.size := by rw [hc2, putAt_size _ _ _ (by rw [hm, hs1]; omega), hs1]
      have hn0 : (w.alloc (.cells R 128)).drew.heap[w.heap.size]? = some (.cells R 128 (0, 0)) := heap_alloc_new w _
      have hh1 : ((w.alloc (.cells R 128)).drew.setRow w.heap.size c1).drew.heap[w.heap.size]? = some (.cells c1 128 (0, 0)) := setRow_heap _ _ R c1 _ _ hn0
      have hh2 := setRow_heap _ w.heap.size c1 c2 _ _ hh1
      have hq2 : Qt (fun _ => False) g w (g.at w.heap.size (.uni 0)) (((w.alloc (.cells R 128)).drew.setRow w.heap.size c1).drew.setRow w.heap.size c2) [0] [0] :=
        Qt.addUni (W := ((w.alloc (.cells R 128)).drew.setRow w.heap.size c1).drew.setRow w.heap.size c2) hd rfl rfl rfl 0 (by rw [setRow_size, World.drew_heap', setRow_size]; exact Array.size_push _) (fun k hk => by
          rw [setRow_other _ _ _ _ (by omega)]
          show ((w.alloc (.cells R 128)).drew.setRow w.heap.size c1).heap[k]? = _
          rw [setRow_other _ _ _ _ (by omega)]
          exact heap_alloc_old w (.cells R 128) hk)
      refine fin hq2 ?_
      rw [← hnl]
      exact rc_uni_of (Ghost.at_same _ _ _) hh2 (by omega) hG2 (by rw [hs2, hRs]; exact Nat.le_refl _) hes2 (hLr.quiet hd hq2) (prefix_get hrest)
end Go.Proofs.Ythcpckcgjplhiaa

/- upgrade.Begin. -/
namespace Go.Proofs.Ythcpckcgjplhiaa
open Go.Abs
set_option linter.unusedSimpArgs false

section
variable {P : Program} {k0 o : Nat} {p : List (Nat × Nat)} {Q : SExit → St → Prop} {st : St}
noncomputable def s51br0 : List SOper := [
  ⟨some 2, .box 2 (.t 0), none⟩,
  ⟨some 4, .alloc 1 [(.d (.int .i64 0)), (.d .nilsl)], none⟩,
  ⟨some 5, .mov (.k (.d (.int .i64 0))), none⟩]
noncomputable def s51br1 : List SOper := [
  ⟨some 9, .load (some 2) (.t 2), none⟩,
  ⟨some 10, .call (.k (.d (.func (.func 59) [] []))) [(.t 9)], none⟩,
  ⟨some 11, .not (.t 10), none⟩,
  ⟨some 8, .mov (.t 11), none⟩]
noncomputable def s51br2 : List SOper := [
  ⟨some 12, .build [(.int .i64 0), .nilsl] [], none⟩,
  ⟨none, .store (some 2) (.t 4) (.t 12), none⟩,
  ⟨some 5, .mov (.k (.d (.int .i64 1))), none⟩]
noncomputable def s51br3 : List SOper := [
  ⟨some 14, .mov (.t 1), none⟩,
  ⟨some 15, .bin .lss (.t 14) (.k (.d (.int .i64 1))), none⟩,
  ⟨some 16, .mov (.t 15), none⟩,
  ⟨some 17, .mov (.t 1), some (16, false)⟩,
  ⟨some 18, .bin .gtr (.t 17) (.k (.d (.int .i64 32))), some (16, false)⟩,
  ⟨some 19, .pick (.t 16) (.k (.d (.bool true))) (.t 18), none⟩,
  ⟨some 13, .mov (.t 19), none⟩]
noncomputable def s51br4 : List SOper := [
  ⟨some 20, .build [(.int .i64 0), .nilsl] [], none⟩,
  ⟨none, .store (some 2) (.t 4) (.t 20), none⟩,
  ⟨some 5, .mov (.k (.d (.int .i64 2))), none⟩]
noncomputable def s51br5 : List SOper := [
  ⟨some 22, .load (some 2) (.t 2), none⟩,
  ⟨some 23, .mov (.t 1), none⟩,
  ⟨some 24, .call (.k (.d (.func (.func 85) [] []))) [(.t 22), (.t 23)], none⟩,
  ⟨some 21, .mov (.t 24), none⟩,
  ⟨some 25, .extract 0 (.t 21), none⟩,
  ⟨some 26, .extract 1 (.t 21), none⟩,
  ⟨some 6, .mov (.t 25), none⟩,
  ⟨some 7, .mov (.t 26), none⟩]
noncomputable def s51br6 : List SOper := [
  ⟨some 27, .mov (.t 7), none⟩]
noncomputable def s51br7 : List SOper := [
  ⟨some 28, .build [(.int .i64 0), .nilsl] [], none⟩,
  ⟨none, .store (some 2) (.t 4) (.t 28), none⟩,
  ⟨some 5, .mov (.k (.d (.int .i64 9))), none⟩]
noncomputable def s51br8 : List SOper := [
  ⟨some 29, .load (some 2) (.t 2), none⟩,
  ⟨some 30, .call (.k (.d (.func (.func 86) [] []))) [(.t 29)], none⟩,
  ⟨none, .store (some 2) (.t 2) (.t 30), none⟩]
noncomputable def s51br9 : List SOper := [
  ⟨some 31, .faddr 1 (.t 2), none⟩,
  ⟨some 32, .load none (.t 31), none⟩,
  ⟨some 33, .mov (.t 6), none⟩,
  ⟨some 34, .mov (.t 1), none⟩,
  ⟨some 35, .faddr 0 (.t 2), none⟩,
  ⟨some 36, .load none (.t 35), none⟩,
  ⟨some 37, .makeSlice false 1 1 [(.bool false)] (.t 36) (.t 36), none⟩,
  ⟨some 38, .faddr 0 (.t 2), none⟩,
  ⟨some 39, .load none (.t 38), none⟩,
  ⟨some 40, .makeSlice false 1 1 [(.bool false)] (.t 39) (.t 39), none⟩,
  ⟨some 41, .build [(.int .i64 0), (.int .i64 0), .nilsl, .nilsl] [(0, 1, (.t 34)), (1, 1, (.k (.d (.int .i64 1)))), (2, 1, (.t 37)), (3, 1, (.t 40))], none⟩,
  ⟨some 42, .buildSlice true 4 1 [(.int .i64 0), (.int .i64 0), .nilsl, .nilsl] [(0, 4, (.t 41))], none⟩,
  ⟨some 43, .call (.k (.d (.func (.func 87) [] []))) [(.t 32), (.t 33), (.t 42)], none⟩,
  ⟨some 44, .faddr 1 (.t 2), none⟩,
  ⟨none, .store none (.t 44) (.t 43), none⟩]
noncomputable def s51br10 : List SOper := [
  ⟨some 45, .load (some 2) (.t 2), none⟩,
  ⟨none, .store (some 2) (.t 4) (.t 45), none⟩,
  ⟨some 5, .mov (.k (.d (.int .i64 0))), none⟩]
noncomputable def s51b : SCode := (.seq (.region s51br0 2 []) (.seq (.block 0 (.seq (.region s51br1 0 []) (.cond (.t 8) (.seq (.region s51br2 0 []) (.pause .ret)) (.seq (.region s51br3 0 []) (.cond (.t 13) (.seq (.region s51br4 0 []) (.pause .ret)) .skip))))) (.seq (.region s51br5 0 []) (.seq (.seq (.region s51br6 0 []) (.cond (.t 27) (.seq (.region s51br7 0 []) (.pause .ret)) .skip)) (.seq (.region s51br8 5 []) (.seq (.pause (.region s51br9 0 [])) (.seq (.pause (.region s51br10 0 [])) (.pause .ret))))))))
theorem e51b : AWp P k0 s51b Q st = AWp P k0 (.seq (.region s51br0 2 []) (.seq (.block 0 (.seq (.region s51br1 0 []) (.cond (.t 8) (.seq (.region s51br2 0 []) (.pause .ret)) (.seq (.region s51br3 0 []) (.cond (.t 13) (.seq (.region s51br4 0 []) (.pause .ret)) .skip))))) (.seq (.region s51br5 0 []) (.seq (.seq (.region s51br6 0 []) (.cond (.t 27) (.seq (.region s51br7 0 []) (.pause .ret)) .skip)) (.seq (.region s51br8 5 []) (.seq (.pause (.region s51br9 0 [])) (.seq (.pause (.region s51br10 0 [])) (.pause .ret)))))))) Q st := rfl
theorem u51br0 : goReg P s51br0 o p Q st = goLit P (litOf s51br0.eq_1) o p Q st := goReg_of _
theorem u51br1 : goReg P s51br1 o p Q st = goLit P (litOf s51br1.eq_1) o p Q st := goReg_of _
theorem u51br2 : goReg P s51br2 o p Q st = goLit P (litOf s51br2.eq_1) o p Q st := goReg_of _
theorem u51br3 : goReg P s51br3 o p Q st = goLit P (litOf s51br3.eq_1) o p Q st := goReg_of _
theorem u51br4 : goReg P s51br4 o p Q st = goLit P (litOf s51br4.eq_1) o p Q st := goReg_of _
theorem u51br5 : goReg P s51br5 o p Q st = goLit P (litOf s51br5.eq_1) o p Q st := goReg_of _
theorem u51br6 : goReg P s51br6 o p Q st = goLit P (litOf s51br6.eq_1) o p Q st := goReg_of _
theorem u51br7 : goReg P s51br7 o p Q st = goLit P (litOf s51br7.eq_1) o p Q st := goReg_of _
theorem u51br8 : goReg P s51br8 o p Q st = goLit P (litOf s51br8.eq_1) o p Q st := goReg_of _
theorem u51br9 : goReg P s51br9 o p Q st = goLit P (litOf s51br9.eq_1) o p Q st := goReg_of _
theorem u51br10 : goReg P s51br10 o p Q st = goLit P (litOf s51br10.eq_1) o p Q st := goReg_of _
attribute [go_sem] u51br0 u51br1 u51br2 u51br3 u51br4 u51br5 u51br6 u51br7 u51br8 u51br9 u51br10 e51b
set_option maxRecDepth 100000 in
theorem F51b : FnIs Try.prog 51 Try.f51 [42] news s51b [.cell 4 (some 2), .tmp 5] 46 := ⟨follows, Try.func51, by kernel_rfl, by kernel_rfl, by kernel_rfl, by kernel_rfl⟩

end
theorem insert_body : (Try.prog.funcs[87]?).any (fun fn => fn.body.isSome && !(fn.name == "runtime.NumGoroutine")) = true := by rw [Try.func87]; rfl

theorem noToks_flatE : ∀ l : List En, noToks (flatE l) = true
  | [] => rfl
  | x :: l => by
    rw [flatE_cons]
    have := noToks_flatE l
    try simp only [this, go_sem, Nat.reduceAdd, Nat.reduceMul, Nat.reduceSub, Nat.reduceEqDiff, Nat.reduceLT, Nat.reduceLeDiff, Nat.reduceBEq, reduceIte, reduceCtorEq, Int.reduceAdd, Int.reduceLT, Int.reduceLE, Int.reduceGT, Int.reduceGE, Int.reduceEq, Int.reduceNe, Int.reduceBEq, Int.reduceBNe, Int.reduceToNat, Int.reduceNeg]
theorem ren_flatE (ι : List Nat) : ∀ l : List En, (flatE l).map (ASlot.ren1 ι) = flatE l
  | [] => rfl
  | x :: l => by
    rw [flatE_cons]
    have := ren_flatE ι l
    try simp only [List.map_cons, this, go_sem, Nat.reduceAdd, Nat.reduceMul, Nat.reduceSub, Nat.reduceEqDiff, Nat.reduceLT, Nat.reduceLeDiff, Nat.reduceBEq, reduceIte, reduceCtorEq, Int.reduceAdd, Int.reduceLT, Int.reduceLE, Int.reduceGT, Int.reduceGE, Int.reduceEq, Int.reduceNe, Int.reduceBEq, Int.reduceBNe, Int.reduceToNat, Int.reduceNeg]
attribute [go_sem] noToks_flatE ren_flatE
theorem en_len (l : List En) : ∀ r ∈ l.map encEn, r.length = 4 := by
  intro r hr
  obtain ⟨x, _, rfl⟩ := List.mem_map.1 hr
  rfl
theorem en_cell (l : List En) : ∀ d ∈ (l.map encEn).flatten, d.isCell = true := by
  intro d hd
  obtain ⟨r, hr, hd⟩ := List.mem_flatten.1 hd
  obtain ⟨x, _, rfl⟩ := List.mem_map.1 hr
  simp only [encEn, List.mem_cons, List.not_mem_nil, or_false] at hd
  rcases hd with rfl | rfl | rfl | rfl <;> rfl

def newE (roles s : Int) : En := ⟨s, 1, List.replicate roles.toNat false, List.replicate roles.toNat false⟩
def upBegin (m : Mg) (s : Int) : Mg × Int :=
  if !upValid m then (⟨0, []⟩, 1) else if decide (s < 1) || decide (s > 32) then (⟨0, []⟩, 2) else if (upFind m s).2 then (⟨0, []⟩, 9)
  else (⟨m.roles, m.ents.take (upFind m s).1 ++ [newE m.roles s] ++ m.ents.drop (upFind m s).1⟩, 0)

theorem upValid_roles {m : Mg} (h : upValid m = true) : 1 ≤ m.roles ∧ m.roles ≤ 6 := by
  simp only [upValid, Bool.and_eq_true, decide_eq_true_eq] at h
  exact h.2
theorem upFind_le (m : Mg) (s : Int) : (upFind m s).1 ≤ m.ents.length := by
  unfold upFind
  split
  · exact Nat.le_of_lt (idx_any (by assumption)).2
  · exact Nat.le_refl _

set_option maxRecDepth 10000 in
theorem upBegin_ok (m : Mg) (s : Int) (hm : m.Sm) : ACall Try.prog 51 [.d (.agg (encMg m)), .d (.int .i64 s)] [] (.tup [.d (.agg (encMg (upBegin m s).1)), .d (.int .i64 (upBegin m s).2)]) [] := by
  have hl := hm.1
  refine F51b.goT ?_
  try simp only [encMg, go_sem, Nat.reduceAdd, Nat.reduceMul, Nat.reduceSub, Nat.reduceEqDiff, Nat.reduceLT, Nat.reduceLeDiff, Nat.reduceBEq, reduceIte, reduceCtorEq, Int.reduceAdd, Int.reduceLT, Int.reduceLE, Int.reduceGT, Int.reduceGE, Int.reduceEq, Int.reduceNe, Int.reduceBEq, Int.reduceBNe, Int.reduceToNat, Int.reduceNeg]
  (repeat (with_reducible refine ob ?_)); first | refine cl F59 (upValid_ok m hm) ?_ | refine clF F59 (upValid_ok m hm) (fun _ => by simp only [encEn, encMg, go_sem, Nat.reduceAdd, Nat.reduceMul, Nat.reduceSub, Nat.reduceEqDiff, Nat.reduceLT, Nat.reduceLeDiff, Nat.reduceBEq, reduceIte, reduceCtorEq, Int.reduceAdd, Int.reduceLT, Int.reduceLE, Int.reduceGT, Int.reduceGE, Int.reduceEq, Int.reduceNe, Int.reduceBEq, Int.reduceBNe, Int.reduceToNat, Int.reduceNeg]) ?_
  try (refine ev ?_; try exact True.intro)
  (repeat (with_reducible refine ob ?_)); refine iff_ _ (fun h => ?_) (fun h => ?_)
  · have hb : upBegin m s = (⟨0, []⟩, 1) := by simp only [upBegin, h, if_true]
    try simp only [hb, List.map_nil, go_sem, Nat.reduceAdd, Nat.reduceMul, Nat.reduceSub, Nat.reduceEqDiff, Nat.reduceLT, Nat.reduceLeDiff, Nat.reduceBEq, reduceIte, reduceCtorEq, Int.reduceAdd, Int.reduceLT, Int.reduceLE, Int.reduceGT, Int.reduceGE, Int.reduceEq, Int.reduceNe, Int.reduceBEq, Int.reduceBNe, Int.reduceToNat, Int.reduceNeg]
    refine pu ?_
    try (refine ev ?_; try exact True.intro)
  have hv : upValid m = true := by simpa using h
  obtain ⟨hr1, hr2⟩ := upValid_roles hv
  try (refine ev ?_; try exact True.intro)
  (repeat (with_reducible refine ob ?_)); refine iff_ _ (fun h => ?_) (fun h => ?_)
  · have hb : upBegin m s = (⟨0, []⟩, 2) := by simp only [upBegin, hv, h]; rfl
    try simp only [hb, List.map_nil, go_sem, Nat.reduceAdd, Nat.reduceMul, Nat.reduceSub, Nat.reduceEqDiff, Nat.reduceLT, Nat.reduceLeDiff, Nat.reduceBEq, reduceIte, reduceCtorEq, Int.reduceAdd, Int.reduceLT, Int.reduceLE, Int.reduceGT, Int.reduceGE, Int.reduceEq, Int.reduceNe, Int.reduceBEq, Int.reduceBNe, Int.reduceToNat, Int.reduceNeg]
    refine pu ?_
    try (refine ev ?_; try exact True.intro)
  have hs := h
  try (refine ev ?_; try exact True.intro)
  (repeat (with_reducible refine ob ?_)); first | refine cl F85 (upFind_ok m s hm) ?_ | refine clF F85 (upFind_ok m s hm) (fun _ => by simp only [encEn, encMg, go_sem, Nat.reduceAdd, Nat.reduceMul, Nat.reduceSub, Nat.reduceEqDiff, Nat.reduceLT, Nat.reduceLeDiff, Nat.reduceBEq, reduceIte, reduceCtorEq, Int.reduceAdd, Int.reduceLT, Int.reduceLE, Int.reduceGT, Int.reduceGE, Int.reduceEq, Int.reduceNe, Int.reduceBEq, Int.reduceBNe, Int.reduceToNat, Int.reduceNeg]) ?_
  try (refine ev ?_; try exact True.intro)
  (repeat (with_reducible refine ob ?_)); refine iff_ _ (fun h => ?_) (fun h => ?_)
  · have hb : upBegin m s = (⟨0, []⟩, 9) := by simp only [upBegin, hv, hs, h]; rfl
    try simp only [hb, List.map_nil, go_sem, Nat.reduceAdd, Nat.reduceMul, Nat.reduceSub, Nat.reduceEqDiff, Nat.reduceLT, Nat.reduceLeDiff, Nat.reduceBEq, reduceIte, reduceCtorEq, Int.reduceAdd, Int.reduceLT, Int.reduceLE, Int.reduceGT, Int.reduceGE, Int.reduceEq, Int.reduceNe, Int.reduceBEq, Int.reduceBNe, Int.reduceToNat, Int.reduceNeg]
    refine pu ?_
    try (refine ev ?_; try exact True.intro)
  have hb : upBegin m s = (⟨m.roles, m.ents.take (upFind m s).1 ++ [newE m.roles s] ++ m.ents.drop (upFind m s).1⟩, 0) := by simp only [upBegin, hv, hs, h]; rfl
  try simp only [hb, go_sem, Nat.reduceAdd, Nat.reduceMul, Nat.reduceSub, Nat.reduceEqDiff, Nat.reduceLT, Nat.reduceLeDiff, Nat.reduceBEq, reduceIte, reduceCtorEq, Int.reduceAdd, Int.reduceLT, Int.reduceLE, Int.reduceGT, Int.reduceGE, Int.reduceEq, Int.reduceNe, Int.reduceBEq, Int.reduceBNe, Int.reduceToNat, Int.reduceNeg]
  refine clO [2, 3, 4] F86u (copied_ok m hm) ?_ (hfit := by first | exact ⟨matchA_refl, trivial⟩ | simp only [encMg, go_sem, Nat.reduceAdd, Nat.reduceMul, Nat.reduceSub, Nat.reduceEqDiff, Nat.reduceLT, Nat.reduceLeDiff, Nat.reduceBEq, reduceIte, reduceCtorEq, Int.reduceAdd, Int.reduceLT, Int.reduceLE, Int.reduceGT, Int.reduceGE, Int.reduceEq, Int.reduceNe, Int.reduceBEq, Int.reduceBNe, Int.reduceToNat, Int.reduceNeg])
  try (refine ev ?_; try exact True.intro)
  refine pu_o2u (.cell 0 1) 4 4 (m.ents.map encEn) ?_ rfl (en_len _) (en_cell _) (D.okWR_noPtr (noPtrR_En _)) (hn := by show (0 : Nat) ≠ 4; decide) (hp := by simp only [List.length_map]; rfl)
  refine pu ?_
  try (refine ev ?_; try exact True.intro)
  (repeat (with_reducible refine ob ?_))
  have hrow : encEn (newE m.roles s) = [.int .i64 s, .int .i64 1, .sl 1 (List.replicate m.roles.toNat [.bool false]), .sl 1 (List.replicate m.roles.toNat [.bool false])] := by simp only [encEn, newE, List.map_replicate, encB]
  have hnew : (m.ents.map encEn).take (upFind m s).1 ++ [encEn (newE m.roles s)] ++ (m.ents.map encEn).drop (upFind m s).1 = (m.ents.take (upFind m s).1 ++ [newE m.roles s] ++ m.ents.drop (upFind m s).1).map encEn := by simp
  have hins := insert_ok (m.ents.map encEn) (encEn (newE m.roles s)) (upFind m s).1 (by rw [List.length_map]; exact upFind_le m s) (by rw [List.length_map]; exact hl) rfl
  rw [hnew] at hins
  refine callO_any hins insert_body rfl ⟨by try simp only [hrow, go_sem, Nat.reduceAdd, Nat.reduceMul, Nat.reduceSub, Nat.reduceEqDiff, Nat.reduceLT, Nat.reduceLeDiff, Nat.reduceBEq, reduceIte, reduceCtorEq, Int.reduceAdd, Int.reduceLT, Int.reduceLE, Int.reduceGT, Int.reduceGE, Int.reduceEq, Int.reduceNe, Int.reduceBEq, Int.reduceBNe, Int.reduceToNat, Int.reduceNeg], by try simp only [noPtrR_En, encEn_noPtr, go_sem, Nat.reduceAdd, Nat.reduceMul, Nat.reduceSub, Nat.reduceEqDiff, Nat.reduceLT, Nat.reduceLeDiff, Nat.reduceBEq, reduceIte, reduceCtorEq, Int.reduceAdd, Int.reduceLT, Int.reduceLE, Int.reduceGT, Int.reduceGE, Int.reduceEq, Int.reduceNe, Int.reduceBEq, Int.reduceBNe, Int.reduceToNat, Int.reduceNeg], by simp only [handed]; simp, by simp only [handed]; simp⟩ (by simp [ASlot.toks]) (by simp [ASlot.toks]) ?_
  try (refine ev ?_; try exact True.intro)
  (repeat (with_reducible refine ob ?_))
  refine pu_u2own (.cell 0 1) 640 4 ((m.ents.take (upFind m s).1 ++ [newE m.roles s] ++ m.ents.drop (upFind m s).1).map encEn) ?_
  refine pu ?_
  try (refine ev ?_; try exact True.intro)
  refine pu ?_
  try (refine ev ?_; try exact True.intro)
  trace_state
end Go.Proofs.Ythcpckcgjplhiaa

/- upgrade.Report. -/
namespace Go.Proofs.Ythcpckcgjplhiaa
open Go.Abs
set_option linter.unusedSimpArgs false

section
variable {P : Program} {k0 o : Nat} {p : List (Nat × Nat)} {Q : SExit → St → Prop} {st : St}
noncomputable def s52br0 : List SOper := [
  ⟨some 2, .box 3 (.t 0), none⟩,
  ⟨some 3, .box 2 (.t 1), none⟩,
  ⟨some 4, .alloc 1 [(.d (.int .i64 0)), (.d .nilsl)], none⟩,
  ⟨some 5, .mov (.k (.d (.int .i64 0))), none⟩]
noncomputable def s52br1 : List SOper := [
  ⟨some 10, .load (some 2) (.t 2), none⟩,
  ⟨some 11, .call (.k (.d (.func (.func 59) [] []))) [(.t 10)], none⟩,
  ⟨some 12, .not (.t 11), none⟩,
  ⟨some 13, .mov (.t 12), none⟩,
  ⟨some 14, .faddr 0 (.t 3), some (13, false)⟩,
  ⟨some 15, .load none (.t 14), some (13, false)⟩,
  ⟨some 16, .bin .neq (.t 15) (.k (.d (.int .i64 4))), some (13, false)⟩,
  ⟨some 17, .pick (.t 13) (.k (.d (.bool true))) (.t 16), none⟩,
  ⟨some 18, .mov (.t 17), none⟩,
  ⟨some 19, .load (some 9) (.t 3), some (18, false)⟩,
  ⟨some 20, .call (.k (.d (.func (.func 47) [] []))) [(.t 19)], some (18, false)⟩,
  ⟨some 21, .not (.t 20), some (18, false)⟩,
  ⟨some 22, .pick (.t 18) (.k (.d (.bool true))) (.t 21), none⟩,
  ⟨some 23, .mov (.t 22), none⟩,
  ⟨some 24, .faddr 3 (.t 3), some (23, false)⟩,
  ⟨some 25, .load none (.t 24), some (23, false)⟩,
  ⟨some 26, .faddr 0 (.t 2), some (23, false)⟩,
  ⟨some 27, .load none (.t 26), some (23, false)⟩,
  ⟨some 28, .bin .geq (.t 25) (.t 27), some (23, false)⟩,
  ⟨some 29, .pick (.t 23) (.k (.d (.bool true))) (.t 28), none⟩]
noncomputable def s52br2 : List SOper := [
  ⟨some 30, .build [(.int .i64 0), .nilsl] [], none⟩,
  ⟨none, .store (some 2) (.t 4) (.t 30), none⟩,
  ⟨some 5, .mov (.k (.d (.int .i64 1))), none⟩]
noncomputable def s52br3 : List SOper := [
  ⟨some 32, .load (some 2) (.t 2), none⟩,
  ⟨some 33, .faddr 1 (.t 3), none⟩,
  ⟨some 34, .load none (.t 33), none⟩,
  ⟨some 35, .call (.k (.d (.func (.func 85) [] []))) [(.t 32), (.t 34)], none⟩,
  ⟨some 31, .mov (.t 35), none⟩,
  ⟨some 36, .extract 0 (.t 31), none⟩,
  ⟨some 37, .extract 1 (.t 31), none⟩,
  ⟨some 6, .mov (.t 36), none⟩,
  ⟨some 7, .mov (.t 37), none⟩]
noncomputable def s52br4 : List SOper := [
  ⟨some 38, .mov (.t 7), none⟩,
  ⟨some 39, .not (.t 38), none⟩]
noncomputable def s52br5 : List SOper := [
  ⟨some 40, .build [(.int .i64 0), .nilsl] [], none⟩,
  ⟨none, .store (some 2) (.t 4) (.t 40), none⟩,
  ⟨some 5, .mov (.k (.d (.int .i64 8))), none⟩]
noncomputable def s52br6 : List SOper := [
  ⟨some 41, .load (some 2) (.t 2), none⟩,
  ⟨some 42, .call (.k (.d (.func (.func 86) [] []))) [(.t 41)], none⟩,
  ⟨none, .store (some 2) (.t 2) (.t 42), none⟩]
noncomputable def s52br7 : List SOper := [
  ⟨some 43, .faddr 1 (.t 2), none⟩,
  ⟨some 44, .load none (.t 43), none⟩,
  ⟨some 45, .mov (.t 6), none⟩,
  ⟨some 46, .iaddr 4 (.t 44) (.t 45), none⟩,
  ⟨some 8, .mov (.t 46), none⟩]
noncomputable def s52br8 : List SOper := [
  ⟨some 47, .mov (.t 8), none⟩,
  ⟨some 48, .nilCheck (.t 47), none⟩,
  ⟨some 49, .faddr 2 (.t 48), none⟩,
  ⟨some 50, .load none (.t 49), none⟩,
  ⟨some 9, .mov (.t 50), none⟩]
noncomputable def s52br9 : List SOper := [
  ⟨some 51, .faddr 6 (.t 3), none⟩,
  ⟨some 52, .load none (.t 51), none⟩,
  ⟨some 53, .bin .eql (.t 52) (.k (.d (.int .i64 2))), none⟩]
noncomputable def s52br10 : List SOper := [
  ⟨some 54, .mov (.t 8), none⟩,
  ⟨some 55, .nilCheck (.t 54), none⟩,
  ⟨some 56, .faddr 3 (.t 55), none⟩,
  ⟨some 57, .load none (.t 56), none⟩,
  ⟨some 9, .mov (.t 57), none⟩]
noncomputable def s52br11 : List SOper := [
  ⟨some 59, .mov (.t 9), none⟩,
  ⟨some 60, .faddr 3 (.t 3), none⟩,
  ⟨some 61, .load none (.t 60), none⟩,
  ⟨some 62, .iaddr 1 (.t 59) (.t 61), none⟩,
  ⟨some 63, .load none (.t 62), none⟩,
  ⟨some 58, .mov (.t 63), none⟩]
noncomputable def s52br12 : List SOper := [
  ⟨some 64, .build [(.int .i64 0), .nilsl] [], none⟩,
  ⟨none, .store (some 2) (.t 4) (.t 64), none⟩,
  ⟨some 5, .mov (.k (.d (.int .i64 21))), none⟩]
noncomputable def s52br13 : List SOper := [
  ⟨some 66, .faddr 6 (.t 3), none⟩,
  ⟨some 67, .load none (.t 66), none⟩,
  ⟨some 68, .bin .eql (.t 67) (.k (.d (.int .i64 2))), none⟩,
  ⟨some 69, .mov (.t 68), none⟩,
  ⟨some 70, .mov (.t 8), some (69, true)⟩,
  ⟨some 71, .nilCheck (.t 70), some (69, true)⟩,
  ⟨some 72, .faddr 1 (.t 71), some (69, true)⟩,
  ⟨some 73, .load none (.t 72), some (69, true)⟩,
  ⟨some 74, .bin .eql (.t 73) (.k (.d (.int .i64 1))), some (69, true)⟩,
  ⟨some 75, .pick (.t 69) (.t 74) (.k (.d (.bool false))), none⟩,
  ⟨some 65, .mov (.t 75), none⟩]
noncomputable def s52br14 : List SOper := [
  ⟨some 76, .build [(.int .i64 0), .nilsl] [], none⟩,
  ⟨none, .store (some 2) (.t 4) (.t 76), none⟩,
  ⟨some 5, .mov (.k (.d (.int .i64 7))), none⟩]
noncomputable def s52br15 : List SOper := [
  ⟨some 77, .mov (.t 9), none⟩,
  ⟨some 78, .faddr 3 (.t 3), none⟩,
  ⟨some 79, .load none (.t 78), none⟩,
  ⟨some 80, .iaddr 1 (.t 77) (.t 79), none⟩,
  ⟨none, .store none (.t 80) (.k (.d (.bool true))), none⟩]
noncomputable def s52br16 : List SOper := [
  ⟨some 81, .mov (.t 8), none⟩,
  ⟨some 82, .mov (.t 8), none⟩,
  ⟨some 83, .nilCheck (.t 82), none⟩,
  ⟨some 84, .load (some 4) (.t 83), none⟩,
  ⟨some 85, .call (.k (.d (.func (.func 88) [] []))) [(.t 84)], none⟩,
  ⟨some 86, .nilCheck (.t 81), none⟩,
  ⟨some 87, .faddr 1 (.t 86), none⟩,
  ⟨none, .store none (.t 87) (.t 85), none⟩]
noncomputable def s52br17 : List SOper := [
  ⟨some 88, .load (some 2) (.t 2), none⟩,
  ⟨none, .store (some 2) (.t 4) (.t 88), none⟩,
  ⟨some 5, .mov (.k (.d (.int .i64 0))), none⟩]
noncomputable def s52b : SCode := (.seq (.region s52br0 3 []) (.seq (.seq (.region s52br1 0 []) (.cond (.t 29) (.seq (.region s52br2 0 []) (.pause .ret)) .skip)) (.seq (.region s52br3 0 []) (.seq (.seq (.region s52br4 0 []) (.cond (.t 39) (.seq (.region s52br5 0 []) (.pause .ret)) .skip)) (.seq (.region s52br6 5 []) (.seq (.region s52br7 0 []) (.seq (.region s52br8 0 []) (.seq (.seq (.region s52br9 0 []) (.cond (.t 53) (.region s52br10 0 []) .skip)) (.seq (.block 0 (.seq (.region s52br11 0 []) (.cond (.t 58) (.seq (.region s52br12 0 []) (.pause .ret)) (.seq (.region s52br13 0 []) (.cond (.t 65) (.seq (.region s52br14 0 []) (.pause .ret)) .skip))))) (.seq (.region s52br15 0 []) (.seq (.pause (.region s52br16 0 [])) (.seq (.region s52br17 0 []) (.pause .ret)))))))))))))
theorem e52b : AWp P k0 s52b Q st = AWp P k0 (.seq (.region s52br0 3 []) (.seq (.seq (.region s52br1 0 []) (.cond (.t 29) (.seq (.region s52br2 0 []) (.pause .ret)) .skip)) (.seq (.region s52br3 0 []) (.seq (.seq (.region s52br4 0 []) (.cond (.t 39) (.seq (.region s52br5 0 []) (.pause .ret)) .skip)) (.seq (.region s52br6 5 []) (.seq (.region s52br7 0 []) (.seq (.region s52br8 0 []) (.seq (.seq (.region s52br9 0 []) (.cond (.t 53) (.region s52br10 0 []) .skip)) (.seq (.block 0 (.seq (.region s52br11 0 []) (.cond (.t 58) (.seq (.region s52br12 0 []) (.pause .ret)) (.seq (.region s52br13 0 []) (.cond (.t 65) (.seq (.region s52br14 0 []) (.pause .ret)) .skip))))) (.seq (.region s52br15 0 []) (.seq (.pause (.region s52br16 0 [])) (.seq (.region s52br17 0 []) (.pause .ret))))))))))))) Q st := rfl
theorem u52br0 : goReg P s52br0 o p Q st = goLit P (litOf s52br0.eq_1) o p Q st := goReg_of _
theorem u52br1 : goReg P s52br1 o p Q st = goLit P (litOf s52br1.eq_1) o p Q st := goReg_of _
theorem u52br2 : goReg P s52br2 o p Q st = goLit P (litOf s52br2.eq_1) o p Q st := goReg_of _
theorem u52br3 : goReg P s52br3 o p Q st = goLit P (litOf s52br3.eq_1) o p Q st := goReg_of _
theorem u52br4 : goReg P s52br4 o p Q st = goLit P (litOf s52br4.eq_1) o p Q st := goReg_of _
theorem u52br5 : goReg P s52br5 o p Q st = goLit P (litOf s52br5.eq_1) o p Q st := goReg_of _
theorem u52br6 : goReg P s52br6 o p Q st = goLit P (litOf s52br6.eq_1) o p Q st := goReg_of _
theorem u52br7 : goReg P s52br7 o p Q st = goLit P (litOf s52br7.eq_1) o p Q st := goReg_of _
theorem u52br8 : goReg P s52br8 o p Q st = goLit P (litOf s52br8.eq_1) o p Q st := goReg_of _
theorem u52br9 : goReg P s52br9 o p Q st = goLit P (litOf s52br9.eq_1) o p Q st := goReg_of _
theorem u52br10 : goReg P s52br10 o p Q st = goLit P (litOf s52br10.eq_1) o p Q st := goReg_of _
theorem u52br11 : goReg P s52br11 o p Q st = goLit P (litOf s52br11.eq_1) o p Q st := goReg_of _
theorem u52br12 : goReg P s52br12 o p Q st = goLit P (litOf s52br12.eq_1) o p Q st := goReg_of _
theorem u52br13 : goReg P s52br13 o p Q st = goLit P (litOf s52br13.eq_1) o p Q st := goReg_of _
theorem u52br14 : goReg P s52br14 o p Q st = goLit P (litOf s52br14.eq_1) o p Q st := goReg_of _
theorem u52br15 : goReg P s52br15 o p Q st = goLit P (litOf s52br15.eq_1) o p Q st := goReg_of _
theorem u52br16 : goReg P s52br16 o p Q st = goLit P (litOf s52br16.eq_1) o p Q st := goReg_of _
theorem u52br17 : goReg P s52br17 o p Q st = goLit P (litOf s52br17.eq_1) o p Q st := goReg_of _
attribute [go_sem] u52br0 u52br1 u52br2 u52br3 u52br4 u52br5 u52br6 u52br7 u52br8 u52br9 u52br10 u52br11 u52br12 u52br13 u52br14 u52br15 u52br16 u52br17 e52b
set_option maxRecDepth 100000 in
theorem F52b : FnIs Try.prog 52 Try.f52 [] news s52b [.cell 4 (some 2), .tmp 5] 89 := ⟨follows, Try.func52, by kernel_rfl, by kernel_rfl, by kernel_rfl, by kernel_rfl⟩

end

def repMark (p : Pk) (x : En) : En :=
  if p.label == 2 then { x with opened := x.opened.set p.from_.toNat true } else { x with moved := x.moved.set p.from_.toNat true }
def repSet (x : En) : En := { x with phase := upPhase x }
def repMarks (p : Pk) (x : En) : List Bool := if p.label == 2 then x.opened else x.moved
def upReport (m : Mg) (p : Pk) : Mg × Int :=
  if !upValid m || p.kind != 4 || !packetValid p || decide (p.from_ ≥ m.roles) then (⟨0, []⟩, 1)
  else if !(upFind m p.sess).2 then (⟨0, []⟩, 8)
  else if (repMarks p (m.ents.getD (upFind m p.sess).1 default)).getD p.from_.toNat false then (⟨0, []⟩, 21)
  else if p.label == 2 && (m.ents.getD (upFind m p.sess).1 default).phase == 1 then (⟨0, []⟩, 7)
  else (⟨m.roles, m.ents.set (upFind m p.sess).1 (repSet (repMark p (m.ents.getD (upFind m p.sess).1 default)))⟩, 0)

theorem noToks_set {s : ASlot} (hs : noToks [s] = true) : ∀ (l : List ASlot) (i : Nat), noToks l = true → noToks (l.set i s) = true
  | [], _, h => h
  | _ :: l, 0, h => by
    rw [List.set_cons_zero]
    simp only [noToks, Bool.and_eq_true] at h hs ⊢
    exact ⟨hs.1, h.2⟩
  | x :: l, i + 1, h => by
    rw [List.set_cons_succ]
    simp only [noToks, Bool.and_eq_true] at h ⊢
    exact ⟨h.1, noToks_set hs l i h.2⟩
theorem noToks_refA {l : List En} {k a b : Nat} {x : En} : noToks (refA (flatE l) k a b x) = true := noToks_set rfl _ _ (noToks_set rfl _ _ (noToks_flatE l))
theorem noToks_bits : ∀ l : List Bool, noToks (l.map fun b => .d (.bool b)) = true
  | [] => rfl
  | x :: l => by
    have := noToks_bits l
    try simp only [List.map_cons, this, go_sem, Nat.reduceAdd, Nat.reduceMul, Nat.reduceSub, Nat.reduceEqDiff, Nat.reduceLT, Nat.reduceLeDiff, Nat.reduceBEq, reduceIte, reduceCtorEq, Int.reduceAdd, Int.reduceLT, Int.reduceLE, Int.reduceGT, Int.reduceGE, Int.reduceEq, Int.reduceNe, Int.reduceBEq, Int.reduceBNe, Int.reduceToNat, Int.reduceNeg]
theorem ren_bits (ι : List Nat) (l : List Bool) : (l.map fun b => ASlot.d (.bool b)).map (ASlot.ren1 ι) = l.map fun b => .d (.bool b) := by
  rw [List.map_map]; rfl
theorem ren_refA {l : List En} {k : Nat} {x : En} (ι : List Nat) (a b : Nat) : (refA (flatE l) k a b x).map (ASlot.ren1 ι) = refA (flatE l) k (ι.getD a 0) (ι.getD b 0) x := by
  rw [refA, List.map_set, List.map_set, ren_flatE]
  rfl
attribute [go_sem] noToks_refA noToks_bits ren_bits ren_refA

theorem refA_k {l : List En} {k a b j : Nat} {x : En} (hk : k < l.length) (hj : j < 2) : (refA (flatE l) k a b x).getD (k * 4 + j) .bad = .d ((encEn l[k]).getD j .nilsl) := by
  rw [List.getD_eq_getElem?_getD, refA, List.getElem?_set_ne (by omega), List.getElem?_set_ne (by omega), flatE_get l k j hk (by omega)]; rfl
theorem refA_k1 {l : List En} {k a b : Nat} {x : En} (hk : k < l.length) : (refA (flatE l) k a b x).getD (k * 4 + 1) .bad = .d (.int .i64 l[k].phase) := refA_k hk (by decide)
theorem refA_k2 {l : List En} {k a b : Nat} {x : En} (hk : k < l.length) : (refA (flatE l) k a b x).getD (k * 4 + 2) .bad = .d (.ref a 0 1 x.moved.length) := by
  have hf := flatE_len l
  rw [List.getD_eq_getElem?_getD, refA, List.getElem?_set_ne (by omega), List.getElem?_set_self (by omega)]; rfl
theorem refA_k3 {l : List En} {k a b : Nat} {x : En} (hk : k < l.length) : (refA (flatE l) k a b x).getD (k * 4 + 3) .bad = .d (.ref b 0 1 x.opened.length) := by
  have hf := flatE_len l
  rw [List.getD_eq_getElem?_getD, refA, List.getElem?_set_self (by rw [List.length_set]; omega)]; rfl
theorem bits_get {l : List Bool} {i : Nat} (h : i < l.length) : (l.map fun b => ASlot.d (.bool b)).getD i .bad = .d (.bool (l.getD i false)) := by
  rw [List.getD_eq_getElem?_getD, List.getElem?_map, List.getD_eq_getElem?_getD, List.getElem?_eq_getElem h]; rfl
theorem bits_set (l : List Bool) (i : Nat) (b : Bool) : (l.map fun b => ASlot.d (.bool b)).set i (.d (.bool b)) = (l.set i b).map fun b => .d (.bool b) := by rw [List.map_set]
theorem repOk {m : Mg} {p : Pk} (h : (!upValid m || p.kind != 4 || !packetValid p || decide (p.from_ ≥ m.roles)) = false) : upValid m = true ∧ p.kind = 4 ∧ packetValid p = true ∧ p.from_ < m.roles ∧ 0 ≤ p.from_ := by
  simp only [Bool.or_eq_false_iff, Bool.not_eq_false', bne_eq_false_iff_eq, decide_eq_false_iff_not] at h
  obtain ⟨⟨⟨h1, h2⟩, h3⟩, h4⟩ := h
  refine ⟨h1, h2, h3, by omega, ?_⟩
  simp [packetValid, order, role, h2] at h3
  omega
theorem upValid_at {m : Mg} (h : upValid m = true) {k : Nat} (hk : k < m.ents.length) : (m.ents[k].moved.length : Int) = m.roles ∧ (m.ents[k].opened.length : Int) = m.roles ∧ m.ents[k].phase = upPhase m.ents[k] := by
  simp only [upValid, Bool.and_eq_true] at h
  have := allTo_iff.1 h.1 k hk
  simp only [enBad, getD_lt hk, Bool.not_eq_true', Bool.or_eq_false_iff, bne_eq_false_iff_eq] at this
  exact ⟨this.1.1.1.2, this.1.1.2, this.2⟩

theorem frz_sl (id es e : Nat) (rows r : List (List D)) (h : D.noPtrR r = true) : ((ASlot.d (.sl e r)).frz id es rows).only (neId id) = .d (.sl e r) := by simp only [ASlot.frz, D.frz, ASlot.only, ASlot.okS, D.okW, D.okWR_noPtr h, if_true]
theorem frz_flatE (id es : Nat) (rows : List (List D)) : ∀ l : List En, (flatE l).map (fun s => (s.frz id es rows).only (neId id)) = flatE l
  | [] => rfl
  | x :: l => by
    rw [flatE_cons, List.map_cons, List.map_cons, List.map_cons, List.map_cons, frz_flatE id es rows l, frz_sl _ _ _ _ _ (noPtrR_B _), frz_sl _ _ _ _ _ (noPtrR_B _)]
    rfl
theorem frz_set2 (l : List En) (i j : Nat) (u v : ASlot) (id es : Nat) (rows : List (List D)) : (((flatE l).set i u).set j v).map (fun s => (s.frz id es rows).only (neId id)) = ((flatE l).set i ((u.frz id es rows).only (neId id))).set j ((v.frz id es rows).only (neId id)) := by
  rw [List.map_set, List.map_set, frz_flatE]
theorem frz_refA (l : List En) (k a b : Nat) (x : En) (id es : Nat) (rows : List (List D)) : (refA (flatE l) k a b x).map (fun s => (s.frz id es rows).only (neId id)) =
    ((flatE l).set (k * 4 + 2) (((ASlot.d (.ref a 0 1 x.moved.length)).frz id es rows).only (neId id))).set (k * 4 + 3) (((ASlot.d (.ref b 0 1 x.opened.length)).frz id es rows).only (neId id)) := frz_set2 ..
theorem frz_bits (l : List Bool) (id es : Nat) (rows : List (List D)) : (l.map fun b => ASlot.d (.bool b)).map (fun s => (s.frz id es rows).only (neId id)) = l.map fun b => .d (.bool b) := by
  rw [List.map_map]; rfl
theorem bits_cellD (l : List Bool) : (l.map fun b => ASlot.d (.bool b)).map ASlot.cellD = (l.map encB).flatten := by
  induction l with
  | nil => rfl
  | cons b l ih => simp only [List.map_cons, List.flatten_cons, encB, List.cons_append, List.nil_append, ih]; rfl
theorem bits_all (l : List Bool) : (l.map fun b => ASlot.d (.bool b)).all ASlot.isCellD = true := by
  rw [List.all_map]
  exact List.all_eq_true.2 fun b _ => rfl
theorem bits_len (l : List Bool) : ∀ r ∈ l.map encB, r.length = 1 := by
  intro r hr
  obtain ⟨x, _, rfl⟩ := List.mem_map.1 hr
  rfl
theorem flatE_cellD (l : List En) : (flatE l).map ASlot.cellD = (l.map encEn).flatten := by
  induction l with
  | nil => rfl
  | cons x l ih => rw [flatE_cons]; simp only [List.map_cons, List.flatten_cons, encEn, List.cons_append, List.nil_append, ih]; rfl
theorem flatE_all (l : List En) : (flatE l).all ASlot.isCellD = true := by
  induction l with
  | nil => rfl
  | cons x l ih => rw [flatE_cons]; simp only [List.all_cons, ih]; rfl
theorem flatE_mark : ∀ (l : List En) (k : Nat) (y : En) (hk : k < l.length), y.sess = l[k].sess → y.phase = l[k].phase →
    ((flatE l).set (k * 4 + 2) (.d (.sl 1 (y.moved.map encB)))).set (k * 4 + 3) (.d (.sl 1 (y.opened.map encB))) = flatE (l.set k y)
  | x :: l, 0, y, _, h1, h2 => by
    simp only [List.getElem_cons_zero] at h1 h2
    rw [List.set_cons_zero, flatE_cons, flatE_cons, h1, h2]; rfl
  | x :: l, k + 1, y, hk, h1, h2 => by
    rw [List.set_cons_succ, flatE_cons, flatE_cons, ← flatE_mark l k y (by simpa using hk) (by simpa using h1) (by simpa using h2), show (k + 1) * 4 + 2 = (k * 4 + 2) + 1 + 1 + 1 + 1 by omega, show (k + 1) * 4 + 3 = (k * 4 + 3) + 1 + 1 + 1 + 1 by omega]
    simp only [List.set_cons_succ]
theorem flatE_phase : ∀ (l : List En) (k : Nat) (y : En), k < l.length → (flatE (l.set k y)).set (k * 4 + 1) (.d (.int .i64 (upPhase y))) = flatE (l.set k (repSet y))
  | x :: l, 0, y, _ => by
    rw [List.set_cons_zero, List.set_cons_zero, flatE_cons, flatE_cons]; rfl
  | x :: l, k + 1, y, hk => by
    rw [List.set_cons_succ, List.set_cons_succ, flatE_cons, flatE_cons, ← flatE_phase l k y (by simpa using hk), show (k + 1) * 4 + 1 = (k * 4 + 1) + 1 + 1 + 1 + 1 by omega]
    simp only [List.set_cons_succ]
theorem flatE_take : ∀ (l : List En) (k : Nat) (y : En), k < l.length → ((flatE (l.set k y)).drop (k * 4)).take 4 = [.d (.int .i64 y.sess), .d (.int .i64 y.phase), .d (.sl 1 (y.moved.map encB)), .d (.sl 1 (y.opened.map encB))]
  | x :: l, 0, y, _ => by
    rw [List.set_cons_zero, flatE_cons]; rfl
  | x :: l, k + 1, y, hk => by
    rw [List.set_cons_succ, flatE_cons, ← flatE_take l k y (by simpa using hk), show (k + 1) * 4 = k * 4 + 1 + 1 + 1 + 1 by omega]
    simp only [List.drop_succ_cons]

theorem upFind_lt {m : Mg} {s : Int} (h : (upFind m s).2 = true) : (upFind m s).1 < m.ents.length := by
  unfold upFind at h ⊢
  split at h
  · rename_i h1
    rw [if_pos h1]
    exact (idx_any h1).2
  · cases h

set_option maxRecDepth 10000 in
theorem upReport_ok (m : Mg) (p : Pk) (hm : m.Sm) (hp : p.Sm) : ACall Try.prog 52 [.d (.agg (encMg m)), .d (.agg (encPk p))] [] (.tup [.d (.agg (encMg (upReport m p).1)), .d (.int .i64 (upReport m p).2)]) [] := by
  have hl := hm.1
  refine F52b.goT ?_
  try simp only [encMg, encPk, go_sem, Nat.reduceAdd, Nat.reduceMul, Nat.reduceSub, Nat.reduceEqDiff, Nat.reduceLT, Nat.reduceLeDiff, Nat.reduceBEq, reduceIte, reduceCtorEq, Int.reduceAdd, Int.reduceLT, Int.reduceLE, Int.reduceGT, Int.reduceGE, Int.reduceEq, Int.reduceNe, Int.reduceBEq, Int.reduceBNe, Int.reduceToNat, Int.reduceNeg]
  (repeat (with_reducible refine ob ?_)); first | refine cl F59 (upValid_ok m hm) ?_ | refine clF F59 (upValid_ok m hm) (fun _ => by simp only [encEn, encMg, encPk, go_sem, Nat.reduceAdd, Nat.reduceMul, Nat.reduceSub, Nat.reduceEqDiff, Nat.reduceLT, Nat.reduceLeDiff, Nat.reduceBEq, reduceIte, reduceCtorEq, Int.reduceAdd, Int.reduceLT, Int.reduceLE, Int.reduceGT, Int.reduceGE, Int.reduceEq, Int.reduceNe, Int.reduceBEq, Int.reduceBNe, Int.reduceToNat, Int.reduceNeg]) ?_
  try (refine ev ?_; try exact True.intro)
  (repeat (with_reducible refine ob ?_))
  (repeat (with_reducible refine ob ?_)); first | refine cl F47 (packetValid_ok p hp.v hp.c) ?_ | refine clF F47 (packetValid_ok p hp.v hp.c) (fun _ => by simp only [encEn, encMg, encPk, go_sem, Nat.reduceAdd, Nat.reduceMul, Nat.reduceSub, Nat.reduceEqDiff, Nat.reduceLT, Nat.reduceLeDiff, Nat.reduceBEq, reduceIte, reduceCtorEq, Int.reduceAdd, Int.reduceLT, Int.reduceLE, Int.reduceGT, Int.reduceGE, Int.reduceEq, Int.reduceNe, Int.reduceBEq, Int.reduceBNe, Int.reduceToNat, Int.reduceNeg]) ?_
  try (refine ev ?_; try exact True.intro)
  (repeat (with_reducible refine ob ?_)); refine iff_ _ (fun h => ?_) (fun h => ?_)
  · have hb : upReport m p = (⟨0, []⟩, 1) := by simp only [upReport, h, if_true]
    try simp only [hb, List.map_nil, go_sem, Nat.reduceAdd, Nat.reduceMul, Nat.reduceSub, Nat.reduceEqDiff, Nat.reduceLT, Nat.reduceLeDiff, Nat.reduceBEq, reduceIte, reduceCtorEq, Int.reduceAdd, Int.reduceLT, Int.reduceLE, Int.reduceGT, Int.reduceGE, Int.reduceEq, Int.reduceNe, Int.reduceBEq, Int.reduceBNe, Int.reduceToNat, Int.reduceNeg]
    refine pu ?_
    try (refine ev ?_; try exact True.intro)
  have h0 := h
  try (refine ev ?_; try exact True.intro)
  (repeat (with_reducible refine ob ?_)); first | refine cl F85 (upFind_ok m p.sess hm) ?_ | refine clF F85 (upFind_ok m p.sess hm) (fun _ => by simp only [encEn, encMg, encPk, go_sem, Nat.reduceAdd, Nat.reduceMul, Nat.reduceSub, Nat.reduceEqDiff, Nat.reduceLT, Nat.reduceLeDiff, Nat.reduceBEq, reduceIte, reduceCtorEq, Int.reduceAdd, Int.reduceLT, Int.reduceLE, Int.reduceGT, Int.reduceGE, Int.reduceEq, Int.reduceNe, Int.reduceBEq, Int.reduceBNe, Int.reduceToNat, Int.reduceNeg]) ?_
  try (refine ev ?_; try exact True.intro)
  (repeat (with_reducible refine ob ?_)); refine iff_ _ (fun h => ?_) (fun h => ?_)
  · have hb : upReport m p = (⟨0, []⟩, 8) := by simp only [upReport, h0, h]; rfl
    try simp only [hb, List.map_nil, go_sem, Nat.reduceAdd, Nat.reduceMul, Nat.reduceSub, Nat.reduceEqDiff, Nat.reduceLT, Nat.reduceLeDiff, Nat.reduceBEq, reduceIte, reduceCtorEq, Int.reduceAdd, Int.reduceLT, Int.reduceLE, Int.reduceGT, Int.reduceGE, Int.reduceEq, Int.reduceNe, Int.reduceBEq, Int.reduceBNe, Int.reduceToNat, Int.reduceNeg]
    refine pu ?_
    try (refine ev ?_; try exact True.intro)
  have h1 := h
  have hk : (upFind m p.sess).1 < m.ents.length := upFind_lt (by simpa using h)
  have hx := hm.2 _ (List.getElem_mem hk)
  obtain ⟨r1, r2, r3, r4, r5⟩ := repOk h0
  obtain ⟨v1, v2, _⟩ := upValid_at r1 hk
  have h7 := copiedAt_ok m hm _ hk
  have hfl := flatE_len m.ents
  have hu : upReport m p = (if (repMarks p m.ents[(upFind m p.sess).1]).getD p.from_.toNat false then (⟨0, []⟩, 21)
      else if p.label == 2 && m.ents[(upFind m p.sess).1].phase == 1 then (⟨0, []⟩, 7)
      else (⟨m.roles, m.ents.set (upFind m p.sess).1 (repSet (repMark p m.ents[(upFind m p.sess).1]))⟩, 0)) := by
    simp only [upReport, h0, h1, getD_lt hk]; rfl
  rw [hu]
  clear hu
  try (refine ev ?_; try exact True.intro)
  refine clO [3, 4, 5, 6, 7] F86v h7 ?_ (hfit := by first | exact ⟨matchA_refl, trivial⟩ | simp only [encMg, go_sem, Nat.reduceAdd, Nat.reduceMul, Nat.reduceSub, Nat.reduceEqDiff, Nat.reduceLT, Nat.reduceLeDiff, Nat.reduceBEq, reduceIte, reduceCtorEq, Int.reduceAdd, Int.reduceLT, Int.reduceLE, Int.reduceGT, Int.reduceGE, Int.reduceEq, Int.reduceNe, Int.reduceBEq, Int.reduceBNe, Int.reduceToNat, Int.reduceNeg])
  clear h7
  generalize (upFind m p.sess).1 = k at hk hx v1 v2 ⊢
  try (refine ev ?_; try exact True.intro)
  (repeat (with_reducible refine ob ?_))
  refine iff_ _ (fun hl2 => ?_) (fun hl2 => ?_)
  · simp only [repMarks, repMark, hl2, if_true, Bool.true_and]
    try simp only [refA_k2 hk, refA_k3 hk, go_sem, Nat.reduceAdd, Nat.reduceMul, Nat.reduceSub, Nat.reduceEqDiff, Nat.reduceLT, Nat.reduceLeDiff, Nat.reduceBEq, reduceIte, reduceCtorEq, Int.reduceAdd, Int.reduceLT, Int.reduceLE, Int.reduceGT, Int.reduceGE, Int.reduceEq, Int.reduceNe, Int.reduceBEq, Int.reduceBNe, Int.reduceToNat, Int.reduceNeg]
    (repeat (with_reducible refine ob ?_))
    try simp only [refA_k2 hk, refA_k3 hk, Nat.mul_one, bits_get (l := m.ents[k].opened) (i := p.from_.toNat) (by omega), go_sem, Nat.reduceAdd, Nat.reduceMul, Nat.reduceSub, Nat.reduceEqDiff, Nat.reduceLT, Nat.reduceLeDiff, Nat.reduceBEq, reduceIte, reduceCtorEq, Int.reduceAdd, Int.reduceLT, Int.reduceLE, Int.reduceGT, Int.reduceGE, Int.reduceEq, Int.reduceNe, Int.reduceBEq, Int.reduceBNe, Int.reduceToNat, Int.reduceNeg]
    refine iff_ _ (fun h3 => ?_) (fun h3 => ?_)
    · try simp only [h3, List.map_nil, go_sem, Nat.reduceAdd, Nat.reduceMul, Nat.reduceSub, Nat.reduceEqDiff, Nat.reduceLT, Nat.reduceLeDiff, Nat.reduceBEq, reduceIte, reduceCtorEq, Int.reduceAdd, Int.reduceLT, Int.reduceLE, Int.reduceGT, Int.reduceGE, Int.reduceEq, Int.reduceNe, Int.reduceBEq, Int.reduceBNe, Int.reduceToNat, Int.reduceNeg]
      refine pu ?_
      try (refine ev ?_; try exact True.intro)
    try simp only [refA_k1 hk, go_sem, Nat.reduceAdd, Nat.reduceMul, Nat.reduceSub, Nat.reduceEqDiff, Nat.reduceLT, Nat.reduceLeDiff, Nat.reduceBEq, reduceIte, reduceCtorEq, Int.reduceAdd, Int.reduceLT, Int.reduceLE, Int.reduceGT, Int.reduceGE, Int.reduceEq, Int.reduceNe, Int.reduceBEq, Int.reduceBNe, Int.reduceToNat, Int.reduceNeg]
    (repeat (with_reducible refine ob ?_))
    refine iff_ _ (fun h4 => ?_) (fun h4 => ?_)
    · have h4' : (m.ents[k].phase == 1) = true := by simpa [hl2] using h4
      try simp only [h3, h4', hl2, List.map_nil, go_sem, Nat.reduceAdd, Nat.reduceMul, Nat.reduceSub, Nat.reduceEqDiff, Nat.reduceLT, Nat.reduceLeDiff, Nat.reduceBEq, reduceIte, reduceCtorEq, Int.reduceAdd, Int.reduceLT, Int.reduceLE, Int.reduceGT, Int.reduceGE, Int.reduceEq, Int.reduceNe, Int.reduceBEq, Int.reduceBNe, Int.reduceToNat, Int.reduceNeg]
      refine pu ?_
      try (refine ev ?_; try exact True.intro)
    have h4' : (m.ents[k].phase == 1) = false := by simpa [hl2] using h4
    simp only [h3, h4', Bool.false_eq_true, if_false]
    try simp only [h3, hl2, Nat.mul_one, bits_set, go_sem, Nat.reduceAdd, Nat.reduceMul, Nat.reduceSub, Nat.reduceEqDiff, Nat.reduceLT, Nat.reduceLeDiff, Nat.reduceBEq, reduceIte, reduceCtorEq, Int.reduceAdd, Int.reduceLT, Int.reduceLE, Int.reduceGT, Int.reduceGE, Int.reduceEq, Int.reduceNe, Int.reduceBEq, Int.reduceBNe, Int.reduceToNat, Int.reduceNeg]
    (repeat (with_reducible refine ob ?_))
    have hy : ∀ y : En, y = { m.ents[k] with opened := m.ents[k].opened.set p.from_.toNat true } → y.Sm := by rintro y rfl; exact ⟨by simpa using hx.1, by simpa using hx.2⟩
    generalize hyd : { m.ents[k] with opened := m.ents[k].opened.set p.from_.toNat true } = y at hy ⊢
    have hys : y.sess = m.ents[k].sess := by rw [← hyd]
    have hyp : y.phase = m.ents[k].phase := by rw [← hyd]
    have hym : m.ents[k].moved = y.moved := by rw [← hyd]
    have hyo : m.ents[k].opened.set p.from_.toNat true = y.opened := by rw [← hyd]
    have hml : m.ents[k].moved.length = y.moved.length := by simp [← hyd]
    have hol : m.ents[k].opened.length = y.opened.length := by simp [← hyd]
    simp only [hml, hol, hym, hyo]
    refine pu_frz 6 1 (y.moved.map encB) ?_ (bits_cellD _) (bits_all _) (bits_len _) (D.okWR_noPtr (noPtrR_B _))
    simp only [frz_mk, Fr.mapS, List.map_cons, List.map_nil, AObj.mapS, frz_refA, hml, hol, frz_bits, List.set_cons_zero, List.set_cons_succ]
    try (refine ev ?_; try exact True.intro)
    refine pu_frz 7 1 (y.opened.map encB) ?_ (bits_cellD _) (bits_all _) (bits_len _) (D.okWR_noPtr (noPtrR_B _))
    simp only [frz_mk, Fr.mapS, List.map_cons, List.map_nil, AObj.mapS, frz_set2, frz_sl _ _ _ _ _ (noPtrR_B _), List.set_cons_zero, List.set_cons_succ]
    try simp only [flatE_mark m.ents k y hk hys hyp, go_sem, Nat.reduceAdd, Nat.reduceMul, Nat.reduceSub, Nat.reduceEqDiff, Nat.reduceLT, Nat.reduceLeDiff, Nat.reduceBEq, reduceIte, reduceCtorEq, Int.reduceAdd, Int.reduceLT, Int.reduceLE, Int.reduceGT, Int.reduceGE, Int.reduceEq, Int.reduceNe, Int.reduceBEq, Int.reduceBNe, Int.reduceToNat, Int.reduceNeg]
    refine pu ?_
    try simp only [flatE_take m.ents k y hk, List.length_set, go_sem, Nat.reduceAdd, Nat.reduceMul, Nat.reduceSub, Nat.reduceEqDiff, Nat.reduceLT, Nat.reduceLeDiff, Nat.reduceBEq, reduceIte, reduceCtorEq, Int.reduceAdd, Int.reduceLT, Int.reduceLE, Int.reduceGT, Int.reduceGE, Int.reduceEq, Int.reduceNe, Int.reduceBEq, Int.reduceBNe, Int.reduceToNat, Int.reduceNeg]
    (repeat (with_reducible refine ob ?_))
    (repeat (with_reducible refine ob ?_)); first | refine cl F88 (upPhase_ok y (hy y rfl)) ?_ | refine clF F88 (upPhase_ok y (hy y rfl)) (fun _ => by simp only [encEn, encMg, encPk, go_sem, Nat.reduceAdd, Nat.reduceMul, Nat.reduceSub, Nat.reduceEqDiff, Nat.reduceLT, Nat.reduceLeDiff, Nat.reduceBEq, reduceIte, reduceCtorEq, Int.reduceAdd, Int.reduceLT, Int.reduceLE, Int.reduceGT, Int.reduceGE, Int.reduceEq, Int.reduceNe, Int.reduceBEq, Int.reduceBNe, Int.reduceToNat, Int.reduceNeg]) ?_
    try simp only [List.length_set, flatE_phase m.ents k y hk, go_sem, Nat.reduceAdd, Nat.reduceMul, Nat.reduceSub, Nat.reduceEqDiff, Nat.reduceLT, Nat.reduceLeDiff, Nat.reduceBEq, reduceIte, reduceCtorEq, Int.reduceAdd, Int.reduceLT, Int.reduceLE, Int.reduceGT, Int.reduceGE, Int.reduceEq, Int.reduceNe, Int.reduceBEq, Int.reduceBNe, Int.reduceToNat, Int.reduceNeg]
    (repeat (with_reducible refine ob ?_))
    try simp only [flatE_phase m.ents k y hk, go_sem, Nat.reduceAdd, Nat.reduceMul, Nat.reduceSub, Nat.reduceEqDiff, Nat.reduceLT, Nat.reduceLeDiff, Nat.reduceBEq, reduceIte, reduceCtorEq, Int.reduceAdd, Int.reduceLT, Int.reduceLE, Int.reduceGT, Int.reduceGE, Int.reduceEq, Int.reduceNe, Int.reduceBEq, Int.reduceBNe, Int.reduceToNat, Int.reduceNeg]
    refine pu_frz 5 4 ((m.ents.set k (repSet y)).map encEn) ?_ (flatE_cellD _) (flatE_all _) (en_len _) (D.okWR_noPtr (noPtrR_En _))
    refine pu ?_
    try simp only [List.length_set, List.length_map, go_sem, Nat.reduceAdd, Nat.reduceMul, Nat.reduceSub, Nat.reduceEqDiff, Nat.reduceLT, Nat.reduceLeDiff, Nat.reduceBEq, reduceIte, reduceCtorEq, Int.reduceAdd, Int.reduceLT, Int.reduceLE, Int.reduceGT, Int.reduceGE, Int.reduceEq, Int.reduceNe, Int.reduceBEq, Int.reduceBNe, Int.reduceToNat, Int.reduceNeg]
  · simp only [repMarks, repMark, hl2, Bool.false_and, Bool.false_eq_true, if_false]
    try simp only [refA_k2 hk, refA_k3 hk, go_sem, Nat.reduceAdd, Nat.reduceMul, Nat.reduceSub, Nat.reduceEqDiff, Nat.reduceLT, Nat.reduceLeDiff, Nat.reduceBEq, reduceIte, reduceCtorEq, Int.reduceAdd, Int.reduceLT, Int.reduceLE, Int.reduceGT, Int.reduceGE, Int.reduceEq, Int.reduceNe, Int.reduceBEq, Int.reduceBNe, Int.reduceToNat, Int.reduceNeg]
    (repeat (with_reducible refine ob ?_))
    try simp only [refA_k2 hk, refA_k3 hk, Nat.mul_one, bits_get (l := m.ents[k].moved) (i := p.from_.toNat) (by omega), go_sem, Nat.reduceAdd, Nat.reduceMul, Nat.reduceSub, Nat.reduceEqDiff, Nat.reduceLT, Nat.reduceLeDiff, Nat.reduceBEq, reduceIte, reduceCtorEq, Int.reduceAdd, Int.reduceLT, Int.reduceLE, Int.reduceGT, Int.reduceGE, Int.reduceEq, Int.reduceNe, Int.reduceBEq, Int.reduceBNe, Int.reduceToNat, Int.reduceNeg]
    refine iff_ _ (fun h3 => ?_) (fun h3 => ?_)
    · try simp only [h3, List.map_nil, go_sem, Nat.reduceAdd, Nat.reduceMul, Nat.reduceSub, Nat.reduceEqDiff, Nat.reduceLT, Nat.reduceLeDiff, Nat.reduceBEq, reduceIte, reduceCtorEq, Int.reduceAdd, Int.reduceLT, Int.reduceLE, Int.reduceGT, Int.reduceGE, Int.reduceEq, Int.reduceNe, Int.reduceBEq, Int.reduceBNe, Int.reduceToNat, Int.reduceNeg]
      refine pu ?_
      try (refine ev ?_; try exact True.intro)
    try simp only [refA_k1 hk, go_sem, Nat.reduceAdd, Nat.reduceMul, Nat.reduceSub, Nat.reduceEqDiff, Nat.reduceLT, Nat.reduceLeDiff, Nat.reduceBEq, reduceIte, reduceCtorEq, Int.reduceAdd, Int.reduceLT, Int.reduceLE, Int.reduceGT, Int.reduceGE, Int.reduceEq, Int.reduceNe, Int.reduceBEq, Int.reduceBNe, Int.reduceToNat, Int.reduceNeg]
    (repeat (with_reducible refine ob ?_))
    try simp only [hl2, Bool.false_and, go_sem, Nat.reduceAdd, Nat.reduceMul, Nat.reduceSub, Nat.reduceEqDiff, Nat.reduceLT, Nat.reduceLeDiff, Nat.reduceBEq, reduceIte, reduceCtorEq, Int.reduceAdd, Int.reduceLT, Int.reduceLE, Int.reduceGT, Int.reduceGE, Int.reduceEq, Int.reduceNe, Int.reduceBEq, Int.reduceBNe, Int.reduceToNat, Int.reduceNeg]
    (repeat (with_reducible refine ob ?_)); refine no_ ?_
    simp only [h3, Bool.false_eq_true, if_false]
    try simp only [h3, hl2, Nat.mul_one, bits_set, go_sem, Nat.reduceAdd, Nat.reduceMul, Nat.reduceSub, Nat.reduceEqDiff, Nat.reduceLT, Nat.reduceLeDiff, Nat.reduceBEq, reduceIte, reduceCtorEq, Int.reduceAdd, Int.reduceLT, Int.reduceLE, Int.reduceGT, Int.reduceGE, Int.reduceEq, Int.reduceNe, Int.reduceBEq, Int.reduceBNe, Int.reduceToNat, Int.reduceNeg]
    (repeat (with_reducible refine ob ?_))
    have hy : ∀ y : En, y = { m.ents[k] with moved := m.ents[k].moved.set p.from_.toNat true } → y.Sm := by rintro y rfl; exact ⟨by simpa using hx.1, by simpa using hx.2⟩
    generalize hyd : { m.ents[k] with moved := m.ents[k].moved.set p.from_.toNat true } = y at hy ⊢
    have hys : y.sess = m.ents[k].sess := by rw [← hyd]
    have hyp : y.phase = m.ents[k].phase := by rw [← hyd]
    have hym : m.ents[k].moved.set p.from_.toNat true = y.moved := by rw [← hyd]
    have hyo : m.ents[k].opened = y.opened := by rw [← hyd]
    have hml : m.ents[k].moved.length = y.moved.length := by simp [← hyd]
    have hol : m.ents[k].opened.length = y.opened.length := by simp [← hyd]
    simp only [hml, hol, hym, hyo]
    refine pu_frz 6 1 (y.moved.map encB) ?_ (bits_cellD _) (bits_all _) (bits_len _) (D.okWR_noPtr (noPtrR_B _))
    simp only [frz_mk, Fr.mapS, List.map_cons, List.map_nil, AObj.mapS, frz_refA, hml, hol, frz_bits, List.set_cons_zero, List.set_cons_succ]
    try (refine ev ?_; try exact True.intro)
    refine pu_frz 7 1 (y.opened.map encB) ?_ (bits_cellD _) (bits_all _) (bits_len _) (D.okWR_noPtr (noPtrR_B _))
    simp only [frz_mk, Fr.mapS, List.map_cons, List.map_nil, AObj.mapS, frz_set2, frz_sl _ _ _ _ _ (noPtrR_B _), List.set_cons_zero, List.set_cons_succ]
    try simp only [flatE_mark m.ents k y hk hys hyp, go_sem, Nat.reduceAdd, Nat.reduceMul, Nat.reduceSub, Nat.reduceEqDiff, Nat.reduceLT, Nat.reduceLeDiff, Nat.reduceBEq, reduceIte, reduceCtorEq, Int.reduceAdd, Int.reduceLT, Int.reduceLE, Int.reduceGT, Int.reduceGE, Int.reduceEq, Int.reduceNe, Int.reduceBEq, Int.reduceBNe, Int.reduceToNat, Int.reduceNeg]
    refine pu ?_
    try simp only [flatE_take m.ents k y hk, List.length_set, go_sem, Nat.reduceAdd, Nat.reduceMul, Nat.reduceSub, Nat.reduceEqDiff, Nat.reduceLT, Nat.reduceLeDiff, Nat.reduceBEq, reduceIte, reduceCtorEq, Int.reduceAdd, Int.reduceLT, Int.reduceLE, Int.reduceGT, Int.reduceGE, Int.reduceEq, Int.reduceNe, Int.reduceBEq, Int.reduceBNe, Int.reduceToNat, Int.reduceNeg]
    (repeat (with_reducible refine ob ?_))
    (repeat (with_reducible refine ob ?_)); first | refine cl F88 (upPhase_ok y (hy y rfl)) ?_ | refine clF F88 (upPhase_ok y (hy y rfl)) (fun _ => by simp only [encEn, encMg, encPk, go_sem, Nat.reduceAdd, Nat.reduceMul, Nat.reduceSub, Nat.reduceEqDiff, Nat.reduceLT, Nat.reduceLeDiff, Nat.reduceBEq, reduceIte, reduceCtorEq, Int.reduceAdd, Int.reduceLT, Int.reduceLE, Int.reduceGT, Int.reduceGE, Int.reduceEq, Int.reduceNe, Int.reduceBEq, Int.reduceBNe, Int.reduceToNat, Int.reduceNeg]) ?_
    try simp only [List.length_set, flatE_phase m.ents k y hk, go_sem, Nat.reduceAdd, Nat.reduceMul, Nat.reduceSub, Nat.reduceEqDiff, Nat.reduceLT, Nat.reduceLeDiff, Nat.reduceBEq, reduceIte, reduceCtorEq, Int.reduceAdd, Int.reduceLT, Int.reduceLE, Int.reduceGT, Int.reduceGE, Int.reduceEq, Int.reduceNe, Int.reduceBEq, Int.reduceBNe, Int.reduceToNat, Int.reduceNeg]
    (repeat (with_reducible refine ob ?_))
    try simp only [flatE_phase m.ents k y hk, go_sem, Nat.reduceAdd, Nat.reduceMul, Nat.reduceSub, Nat.reduceEqDiff, Nat.reduceLT, Nat.reduceLeDiff, Nat.reduceBEq, reduceIte, reduceCtorEq, Int.reduceAdd, Int.reduceLT, Int.reduceLE, Int.reduceGT, Int.reduceGE, Int.reduceEq, Int.reduceNe, Int.reduceBEq, Int.reduceBNe, Int.reduceToNat, Int.reduceNeg]
    refine pu_frz 5 4 ((m.ents.set k (repSet y)).map encEn) ?_ (flatE_cellD _) (flatE_all _) (en_len _) (D.okWR_noPtr (noPtrR_En _))
    refine pu ?_
    try simp only [List.length_set, List.length_map, go_sem, Nat.reduceAdd, Nat.reduceMul, Nat.reduceSub, Nat.reduceEqDiff, Nat.reduceLT, Nat.reduceLeDiff, Nat.reduceBEq, reduceIte, reduceCtorEq, Int.reduceAdd, Int.reduceLT, Int.reduceLE, Int.reduceGT, Int.reduceGE, Int.reduceEq, Int.reduceNe, Int.reduceBEq, Int.reduceBNe, Int.reduceToNat, Int.reduceNeg]
end Go.Proofs.Ythcpckcgjplhiaa

/- Orders of the reference; the example that every statement checks first; UpgradeOrders. -/
namespace Go.Proofs.Ythcpckcgjplhiaa
open Go.Abs
set_option linter.unusedSimpArgs false

section
variable {P : Program} {k0 o : Nat} {p : List (Nat × Nat)} {Q : SExit → St → Prop} {st : St}
noncomputable def s41r0 : List SOper := [
  ⟨some 0, .mov (.k (.d (.bool false))), none⟩]
noncomputable def s41r1 : List SOper := [
  ⟨some 10, .call (.k (.d (.func (.func 48) [] []))) [(.k (.d (.int .i64 2)))], none⟩,
  ⟨some 9, .mov (.t 10), none⟩,
  ⟨some 11, .extract 0 (.t 9), none⟩,
  ⟨some 12, .extract 1 (.t 9), none⟩,
  ⟨some 1, .alloc 1 [(.d (.int .i64 0)), (.d .nilsl)], none⟩,
  ⟨none, .store (some 2) (.t 1) (.t 11), none⟩,
  ⟨some 2, .mov (.t 12), none⟩]
noncomputable def s41r2 : List SOper := [
  ⟨some 14, .load (some 2) (.t 1), none⟩,
  ⟨some 15, .call (.k (.d (.func (.func 51) [] []))) [(.t 14), (.k (.d (.int .i64 5)))], none⟩,
  ⟨some 13, .mov (.t 15), none⟩,
  ⟨some 16, .extract 0 (.t 13), none⟩,
  ⟨some 17, .extract 1 (.t 13), none⟩,
  ⟨none, .store (some 2) (.t 1) (.t 16), none⟩,
  ⟨some 3, .mov (.t 17), none⟩]
noncomputable def s41r3 : List SOper := [
  ⟨some 18, .load (some 2) (.t 1), none⟩,
  ⟨some 19, .call (.k (.d (.func (.func 43) [] []))) [(.t 18)], none⟩,
  ⟨some 4, .mov (.t 19), none⟩]
noncomputable def s41r4 : List SOper := [
  ⟨some 21, .load (some 2) (.t 1), none⟩,
  ⟨some 22, .call (.k (.d (.func (.func 53) [] []))) [(.k (.d (.int .i64 5))), (.k (.d (.int .i64 1))), (.k (.d (.int .i64 1)))], none⟩,
  ⟨some 23, .call (.k (.d (.func (.func 52) [] []))) [(.t 21), (.t 22)], none⟩,
  ⟨some 20, .mov (.t 23), none⟩,
  ⟨some 24, .extract 0 (.t 20), none⟩,
  ⟨some 25, .extract 1 (.t 20), none⟩,
  ⟨none, .store (some 2) (.t 1) (.t 24), none⟩,
  ⟨some 5, .mov (.t 25), none⟩]
noncomputable def s41r5 : List SOper := [
  ⟨some 26, .load (some 2) (.t 1), none⟩,
  ⟨some 27, .call (.k (.d (.func (.func 43) [] []))) [(.t 26)], none⟩,
  ⟨some 6, .mov (.t 27), none⟩]
noncomputable def s41r6 : List SOper := [
  ⟨some 29, .load (some 2) (.t 1), none⟩,
  ⟨some 30, .call (.k (.d (.func (.func 53) [] []))) [(.k (.d (.int .i64 5))), (.k (.d (.int .i64 0))), (.k (.d (.int .i64 1)))], none⟩,
  ⟨some 31, .call (.k (.d (.func (.func 52) [] []))) [(.t 29), (.t 30)], none⟩,
  ⟨some 28, .mov (.t 31), none⟩,
  ⟨some 32, .extract 0 (.t 28), none⟩,
  ⟨some 33, .extract 1 (.t 28), none⟩,
  ⟨none, .store (some 2) (.t 1) (.t 32), none⟩,
  ⟨some 7, .mov (.t 33), none⟩]
noncomputable def s41r7 : List SOper := [
  ⟨some 34, .load (some 2) (.t 1), none⟩,
  ⟨some 35, .call (.k (.d (.func (.func 43) [] []))) [(.t 34)], none⟩,
  ⟨some 8, .mov (.t 35), none⟩]
noncomputable def s41r8 : List SOper := [
  ⟨some 36, .mov (.t 2), none⟩,
  ⟨some 37, .bin .eql (.t 36) (.k (.d (.int .i64 0))), none⟩,
  ⟨some 38, .mov (.t 37), none⟩,
  ⟨some 39, .mov (.t 3), some (38, true)⟩,
  ⟨some 40, .bin .eql (.t 39) (.k (.d (.int .i64 0))), some (38, true)⟩,
  ⟨some 41, .pick (.t 38) (.t 40) (.k (.d (.bool false))), none⟩,
  ⟨some 42, .mov (.t 41), none⟩,
  ⟨some 43, .mov (.t 5), some (42, true)⟩,
  ⟨some 44, .bin .eql (.t 43) (.k (.d (.int .i64 0))), some (42, true)⟩,
  ⟨some 45, .pick (.t 42) (.t 44) (.k (.d (.bool false))), none⟩,
  ⟨some 46, .mov (.t 45), none⟩,
  ⟨some 47, .mov (.t 7), some (46, true)⟩,
  ⟨some 48, .bin .eql (.t 47) (.k (.d (.int .i64 0))), some (46, true)⟩,
  ⟨some 49, .pick (.t 46) (.t 48) (.k (.d (.bool false))), none⟩,
  ⟨some 50, .mov (.t 49), none⟩,
  ⟨some 51, .mov (.t 4), some (50, true)⟩,
  ⟨some 52, .len (.t 51), some (50, true)⟩,
  ⟨some 53, .bin .eql (.t 52) (.k (.d (.int .i64 2))), some (50, true)⟩,
  ⟨some 54, .pick (.t 50) (.t 53) (.k (.d (.bool false))), none⟩,
  ⟨some 55, .mov (.t 54), none⟩,
  ⟨some 56, .mov (.t 6), some (55, true)⟩,
  ⟨some 57, .len (.t 56), some (55, true)⟩,
  ⟨some 58, .bin .eql (.t 57) (.k (.d (.int .i64 1))), some (55, true)⟩,
  ⟨some 59, .pick (.t 55) (.t 58) (.k (.d (.bool false))), none⟩,
  ⟨some 60, .mov (.t 59), none⟩,
  ⟨some 61, .mov (.t 6), some (60, true)⟩,
  ⟨some 62, .iaddr 9 (.t 61) (.k (.d (.int .i64 0))), some (60, true)⟩,
  ⟨some 63, .faddr 3 (.t 62), some (60, true)⟩,
  ⟨some 64, .load none (.t 63), some (60, true)⟩,
  ⟨some 65, .bin .eql (.t 64) (.k (.d (.int .i64 0))), some (60, true)⟩,
  ⟨some 66, .pick (.t 60) (.t 65) (.k (.d (.bool false))), none⟩,
  ⟨some 67, .mov (.t 66), none⟩,
  ⟨some 68, .mov (.t 8), some (67, true)⟩,
  ⟨some 69, .len (.t 68), some (67, true)⟩,
  ⟨some 70, .bin .eql (.t 69) (.k (.d (.int .i64 2))), some (67, true)⟩,
  ⟨some 71, .pick (.t 67) (.t 70) (.k (.d (.bool false))), none⟩,
  ⟨some 72, .mov (.t 71), none⟩,
  ⟨some 73, .mov (.t 8), some (72, true)⟩,
  ⟨some 74, .iaddr 9 (.t 73) (.k (.d (.int .i64 0))), some (72, true)⟩,
  ⟨some 75, .faddr 6 (.t 74), some (72, true)⟩,
  ⟨some 76, .load none (.t 75), some (72, true)⟩,
  ⟨some 77, .bin .eql (.t 76) (.k (.d (.int .i64 2))), some (72, true)⟩,
  ⟨some 78, .pick (.t 72) (.t 77) (.k (.d (.bool false))), none⟩,
  ⟨some 0, .mov (.t 78), none⟩]
noncomputable def s41 : SCode := (.seq (.region s41r0 0 []) (.seq (.region s41r1 1 []) (.seq (.region s41r2 0 []) (.seq (.region s41r3 0 []) (.seq (.region s41r4 0 [(0, 1)]) (.seq (.region s41r5 0 []) (.seq (.region s41r6 0 [(0, 1)]) (.seq (.region s41r7 0 []) (.seq (.region s41r8 0 []) .ret)))))))))
theorem e41 : AWp P k0 s41 Q st = AWp P k0 (.seq (.region s41r0 0 []) (.seq (.region s41r1 1 []) (.seq (.region s41r2 0 []) (.seq (.region s41r3 0 []) (.seq (.region s41r4 0 [(0, 1)]) (.seq (.region s41r5 0 []) (.seq (.region s41r6 0 [(0, 1)]) (.seq (.region s41r7 0 []) (.seq (.region s41r8 0 []) .ret))))))))) Q st := rfl
theorem u41r0 : goReg P s41r0 o p Q st = goLit P (litOf s41r0.eq_1) o p Q st := goReg_of _
theorem u41r1 : goReg P s41r1 o p Q st = goLit P (litOf s41r1.eq_1) o p Q st := goReg_of _
theorem u41r2 : goReg P s41r2 o p Q st = goLit P (litOf s41r2.eq_1) o p Q st := goReg_of _
theorem u41r3 : goReg P s41r3 o p Q st = goLit P (litOf s41r3.eq_1) o p Q st := goReg_of _
theorem u41r4 : goReg P s41r4 o p Q st = goLit P (litOf s41r4.eq_1) o p Q st := goReg_of _
theorem u41r5 : goReg P s41r5 o p Q st = goLit P (litOf s41r5.eq_1) o p Q st := goReg_of _
theorem u41r6 : goReg P s41r6 o p Q st = goLit P (litOf s41r6.eq_1) o p Q st := goReg_of _
theorem u41r7 : goReg P s41r7 o p Q st = goLit P (litOf s41r7.eq_1) o p Q st := goReg_of _
theorem u41r8 : goReg P s41r8 o p Q st = goLit P (litOf s41r8.eq_1) o p Q st := goReg_of _
attribute [go_sem] u41r0 u41r1 u41r2 u41r3 u41r4 u41r5 u41r6 u41r7 u41r8 e41
set_option maxRecDepth 100000 in
theorem F41 : FnIs Try.prog 41 Try.f41 [] news s41 [.tmp 0] 79 := ⟨follows, Try.func41, by kernel_rfl, by kernel_rfl, by kernel_rfl, by kernel_rfl⟩

noncomputable def s7r0 : List SOper := [
  ⟨some 1, .box 1 (.t 0), none⟩,
  ⟨some 2, .mov (.k (.d (.bool false))), none⟩]
noncomputable def s7r1 : List SOper := [
  ⟨some 6, .call (.k (.d (.func (.func 41) [] []))) [], none⟩,
  ⟨some 7, .not (.t 6), none⟩]
noncomputable def s7r2 : List SOper := [
  ⟨some 2, .mov (.k (.d (.bool false))), none⟩]
noncomputable def s7r3 : List SOper := [
  ⟨some 8, .load (some 2) (.t 1), none⟩,
  ⟨some 9, .call (.k (.d (.func (.func 42) [] []))) [(.t 8)], none⟩,
  ⟨some 10, .not (.t 9), none⟩]
noncomputable def s7r4 : List SOper := [
  ⟨some 2, .mov (.k (.d (.bool true))), none⟩]
noncomputable def s7r5 : List SOper := [
  ⟨some 11, .load (some 2) (.t 1), none⟩,
  ⟨some 12, .call (.k (.d (.func (.func 44) [] []))) [(.t 11)], none⟩,
  ⟨some 13, .call (.k (.d (.func (.func 43) [] []))) [(.t 12)], none⟩,
  ⟨some 14, .load (some 2) (.t 1), none⟩,
  ⟨some 15, .call (.k (.d (.func (.func 45) [] []))) [(.t 14)], none⟩,
  ⟨some 3, .mov (.t 13), none⟩,
  ⟨some 4, .mov (.t 15), none⟩]
noncomputable def s7r6 : List SOper := [
  ⟨some 16, .mov (.t 3), none⟩,
  ⟨some 17, .len (.t 16), none⟩,
  ⟨some 18, .mov (.t 4), none⟩,
  ⟨some 19, .len (.t 18), none⟩,
  ⟨some 20, .bin .neq (.t 17) (.t 19), none⟩]
noncomputable def s7r7 : List SOper := [
  ⟨some 2, .mov (.k (.d (.bool false))), none⟩]
noncomputable def s7r8 : List SOper := [
  ⟨some 5, .mov (.k (.d (.int .i64 0))), none⟩]
noncomputable def s7r9 : List SOper := [
  ⟨some 21, .mov (.t 5), none⟩,
  ⟨some 22, .mov (.t 3), none⟩,
  ⟨some 23, .len (.t 22), none⟩,
  ⟨some 24, .bin .lss (.t 21) (.t 23), none⟩]
noncomputable def s7r10 : List SOper := [
  ⟨some 27, .mov (.t 3), none⟩,
  ⟨some 28, .mov (.t 5), none⟩,
  ⟨some 29, .iaddr 9 (.t 27) (.t 28), none⟩,
  ⟨some 30, .load (some 9) (.t 29), none⟩,
  ⟨some 31, .mov (.t 4), none⟩,
  ⟨some 32, .mov (.t 5), none⟩,
  ⟨some 33, .iaddr 9 (.t 31) (.t 32), none⟩,
  ⟨some 34, .load (some 9) (.t 33), none⟩,
  ⟨some 35, .call (.k (.d (.func (.func 46) [] []))) [(.t 30), (.t 34)], none⟩,
  ⟨some 36, .not (.t 35), none⟩,
  ⟨some 37, .mov (.t 36), none⟩,
  ⟨some 38, .mov (.t 3), some (37, false)⟩,
  ⟨some 39, .mov (.t 5), some (37, false)⟩,
  ⟨some 40, .iaddr 9 (.t 38) (.t 39), some (37, false)⟩,
  ⟨some 41, .load (some 9) (.t 40), some (37, false)⟩,
  ⟨some 42, .call (.k (.d (.func (.func 47) [] []))) [(.t 41)], some (37, false)⟩,
  ⟨some 43, .not (.t 42), some (37, false)⟩,
  ⟨some 44, .pick (.t 37) (.k (.d (.bool true))) (.t 43), none⟩]
noncomputable def s7r11 : List SOper := [
  ⟨some 2, .mov (.k (.d (.bool false))), none⟩]
noncomputable def s7r12 : List SOper := [
  ⟨some 25, .mov (.t 5), none⟩,
  ⟨some 26, .bin .add (.t 25) (.k (.d (.int .i64 1))), none⟩,
  ⟨some 5, .mov (.t 26), none⟩]
noncomputable def s7l13 : SCode := (.seq (.seq (.region s7r9 0 []) (.cond (.t 24) .skip (.exit 0))) (.seq (.block 1 (.seq (.region s7r10 0 []) (.cond (.t 44) (.seq (.region s7r11 0 []) .ret) .skip))) (.region s7r12 0 [])))
theorem e7l13 : AWp P k0 s7l13 Q st = AWp P k0 (.seq (.seq (.region s7r9 0 []) (.cond (.t 24) .skip (.exit 0))) (.seq (.block 1 (.seq (.region s7r10 0 []) (.cond (.t 44) (.seq (.region s7r11 0 []) .ret) .skip))) (.region s7r12 0 []))) Q st := rfl
noncomputable def s7r14 : List SOper := [
  ⟨some 2, .mov (.k (.d (.bool true))), none⟩]
noncomputable def s7 : SCode := (.seq (.region s7r0 1 []) (.seq (.seq (.region s7r1 0 []) (.cond (.t 7) (.seq (.region s7r2 0 []) .ret) .skip)) (.seq (.seq (.region s7r3 0 []) (.cond (.t 10) (.seq (.region s7r4 0 []) .ret) .skip)) (.seq (.region s7r5 0 [(1, 3), (2, 3)]) (.seq (.seq (.region s7r6 0 []) (.cond (.t 20) (.seq (.region s7r7 0 []) .ret) .skip)) (.seq (.seq (.region s7r8 0 []) (.block 0 (.loop s7l13))) (.seq (.region s7r14 0 []) .ret)))))))
theorem e7 : AWp P k0 s7 Q st = AWp P k0 (.seq (.region s7r0 1 []) (.seq (.seq (.region s7r1 0 []) (.cond (.t 7) (.seq (.region s7r2 0 []) .ret) .skip)) (.seq (.seq (.region s7r3 0 []) (.cond (.t 10) (.seq (.region s7r4 0 []) .ret) .skip)) (.seq (.region s7r5 0 [(1, 3), (2, 3)]) (.seq (.seq (.region s7r6 0 []) (.cond (.t 20) (.seq (.region s7r7 0 []) .ret) .skip)) (.seq (.seq (.region s7r8 0 []) (.block 0 (.loop s7l13))) (.seq (.region s7r14 0 []) .ret))))))) Q st := rfl
theorem u7r0 : goReg P s7r0 o p Q st = goLit P (litOf s7r0.eq_1) o p Q st := goReg_of _
theorem u7r1 : goReg P s7r1 o p Q st = goLit P (litOf s7r1.eq_1) o p Q st := goReg_of _
theorem u7r2 : goReg P s7r2 o p Q st = goLit P (litOf s7r2.eq_1) o p Q st := goReg_of _
theorem u7r3 : goReg P s7r3 o p Q st = goLit P (litOf s7r3.eq_1) o p Q st := goReg_of _
theorem u7r4 : goReg P s7r4 o p Q st = goLit P (litOf s7r4.eq_1) o p Q st := goReg_of _
theorem u7r5 : goReg P s7r5 o p Q st = goLit P (litOf s7r5.eq_1) o p Q st := goReg_of _
theorem u7r6 : goReg P s7r6 o p Q st = goLit P (litOf s7r6.eq_1) o p Q st := goReg_of _
theorem u7r7 : goReg P s7r7 o p Q st = goLit P (litOf s7r7.eq_1) o p Q st := goReg_of _
theorem u7r8 : goReg P s7r8 o p Q st = goLit P (litOf s7r8.eq_1) o p Q st := goReg_of _
theorem u7r9 : goReg P s7r9 o p Q st = goLit P (litOf s7r9.eq_1) o p Q st := goReg_of _
theorem u7r10 : goReg P s7r10 o p Q st = goLit P (litOf s7r10.eq_1) o p Q st := goReg_of _
theorem u7r11 : goReg P s7r11 o p Q st = goLit P (litOf s7r11.eq_1) o p Q st := goReg_of _
theorem u7r12 : goReg P s7r12 o p Q st = goLit P (litOf s7r12.eq_1) o p Q st := goReg_of _
theorem u7r14 : goReg P s7r14 o p Q st = goLit P (litOf s7r14.eq_1) o p Q st := goReg_of _
attribute [go_sem] u7r0 u7r1 u7r2 u7r3 u7r4 u7r5 u7r6 u7r7 u7r8 u7r9 u7r10 u7r11 u7r12 e7l13 u7r14 e7
set_option maxRecDepth 100000 in
theorem F7 : FnIs Try.prog 7 Try.f7 [] news s7 [.tmp 2] 45 := ⟨follows, Try.func7, by kernel_rfl, by kernel_rfl, by kernel_rfl, by kernel_rfl⟩

noncomputable def s53r0 : List SOper := [
  ⟨some 6, .alloc 1 [(.d (.int .i64 0)), (.d (.int .i64 0)), (.d (.int .i64 0)), (.d (.int .i64 0)), (.d (.int .i64 0)), (.d (.int .i64 0)), (.d (.int .i64 0)), (.d .nilsl), (.d .nilsl)], none⟩]
noncomputable def s53r1 : List SOper := [
  ⟨some 7, .mov (.t 0), none⟩,
  ⟨some 8, .mov (.t 1), none⟩,
  ⟨some 9, .mov (.t 2), none⟩,
  ⟨some 10, .build [(.int .i64 0), (.int .i64 0), (.int .i64 0), (.int .i64 0), (.int .i64 0), (.int .i64 0), (.int .i64 0), .nilsl, .nilsl] [(0, 1, (.k (.d (.int .i64 4)))), (1, 1, (.t 7)), (3, 1, (.t 8)), (6, 1, (.t 9))], none⟩,
  ⟨none, .store (some 9) (.t 6) (.t 10), none⟩]
noncomputable def s53 : SCode := (.seq (.region s53r0 1 []) (.seq (.region s53r1 0 []) .ret))
theorem e53 : AWp P k0 s53 Q st = AWp P k0 (.seq (.region s53r0 1 []) (.seq (.region s53r1 0 []) .ret)) Q st := rfl
theorem u53r0 : goReg P s53r0 o p Q st = goLit P (litOf s53r0.eq_1) o p Q st := goReg_of _
theorem u53r1 : goReg P s53r1 o p Q st = goLit P (litOf s53r1.eq_1) o p Q st := goReg_of _
attribute [go_sem] u53r0 u53r1 e53
set_option maxRecDepth 100000 in
theorem F53 : FnIs Try.prog 53 Try.f53 [] news s53 [.cell 6 (some 9)] 11 := ⟨follows, Try.func53, by kernel_rfl, by kernel_rfl, by kernel_rfl, by kernel_rfl⟩

end

theorem upValid_at2 {m : Mg} (h : upValid m = true) {k : Nat} (hk : k < m.ents.length) : 1 ≤ m.ents[k].sess ∧ m.ents[k].sess ≤ 32 ∧ m.ents[k].phase ≠ 0 := by
  simp only [upValid, Bool.and_eq_true] at h
  have := allTo_iff.1 h.1 k hk
  simp only [enBad, getD_lt hk, Bool.not_eq_true', Bool.or_eq_false_iff, bne_eq_false_iff_eq, decide_eq_false_iff_not, beq_eq_false_iff_ne] at this
  obtain ⟨⟨⟨⟨⟨⟨h1, h2⟩, _⟩, _⟩, _⟩, h3⟩, _⟩ := this
  exact ⟨by omega, by omega, h3⟩

theorem ref_step (x : En) (n r : Nat) (h1 : x.moved.length = n) (h2 : x.opened.length = n) (h3 : x.phase = upPhase x) (h0 : x.phase ≠ 0) (hr : r < n) :
    ordAt x.sess (enLabel x) (enMarks x) r = (if x.phase == 1 && !x.moved.getD r false then [ordPk x.sess r 1] else []) ++ (if x.phase == 2 && !x.opened.getD r false then [ordPk x.sess r 2] else []) := by
  have hm : r < x.moved.length := by omega
  have ho : r < x.opened.length := by omega
  have hp : x.phase = 1 ∨ x.phase = 2 ∨ x.phase = 3 := by
    have h4 : upPhase x = 0 ∨ upPhase x = 1 ∨ upPhase x = 2 ∨ upPhase x = 3 := by
      unfold upPhase
      cases hasB false x.moved <;> cases hasB false x.opened <;> cases hasB true x.opened <;> simp
    omega
  rcases hp with hp | hp | hp
  · simp [ordAt, enLabel, enMarks, hp, List.getD, hm, ho]
    cases x.moved[r] <;> simp
  · simp [ordAt, enLabel, enMarks, hp, List.getD, hm, ho]
    cases x.opened[r] <;> simp
  · have ha : x.opened.all idB = true := by
      rw [hp] at h3
      simp only [upPhase, hasB_false] at h3
      cases hq : x.opened.all idB with
      | true => rfl
      | false =>
        rw [hq] at h3
        simp at h3
        split at h3
        · simp at h3
        · split at h3 <;> simp at h3
    have hb : x.opened[r] = true := by
      rw [List.all_eq_true] at ha
      exact ha _ (List.getElem_mem ho)
    simp [ordAt, enLabel, enMarks, hp, List.getD, ho, hb]

def SrO (m : Mg) (i : { i : Nat // i ≤ m.ents.length }) : St :=
  ⟨[(1, true, .d (.ptr 0 0)), (2, true, .d .nilsl), (3, true, .own 0 9 ((ordersTo m i.val).map encPk)), (4, true, .d (.int .i64 (i.val : Nat)))], [mgObj m], [0], 1⟩
def SrI (m : Mg) (i : Nat) (x : En) (n : Nat) (r : { r : Nat // r ≤ n }) : St :=
  ⟨[(1, true, .d (.ptr 0 0)), (2, true, .d .nilsl), (3, true, .own 0 9 ((ordersTo m i ++ ordTo x.sess (enLabel x) (enMarks x) r.val).map encPk)), (4, true, .d (.int .i64 (i : Nat))), (5, true, .d (.ptr 1 0)), (6, true, .d (.int .i64 (r.val : Nat)))], [mgObj m, enObj x], [0], 1⟩

theorem refOrdI (m : Mg) (hm : m.Sm) (i n : Nat) (hn : (n : Int) = m.roles) (hi : i < m.ents.length) (x : En) (hx : x.Sm) (h1 : x.moved.length = n) (h2 : x.opened.length = n) (h3 : x.phase = upPhase x) (h0 : x.phase ≠ 0) (Q : SExit → St → Prop) (st : St) (hw : Weak 0 st (SrI m i x n ⟨0, Nat.zero_le _⟩))
    (hQ : ∀ b : Bool, Q .normal ⟨(25, true, .d (.bool b)) :: (24, true, .d (.int .i64 m.roles)) :: (23, true, .d (.ptr 0 0)) :: (22, true, .d (.int .i64 n)) :: (SrI m i x n ⟨n, Nat.le_refl _⟩).fr, [mgObj m, enObj x], [0], 5⟩) : AWp Try.prog 0 (.block 2 (.loop s45l14)) Q st := by
  have hol := ordersTo_len m hm i (by omega)
  have hl := hm.1
  have hn1 : n ≤ 1000 := by have := hx.1; omega
  try (refine ev ?_; try exact True.intro)
  refine AWp_loop (SrI m i x n) (fun r => n - r.val) ⟨0, Nat.zero_le _⟩ hw (fun r => ?_)
  obtain ⟨r, hr⟩ := r
  have hlt := ordTo_len x.sess (enLabel x) (enMarks x) r
  try simp only [SrI, mgObj, enObj, ← hn, go_sem, Nat.reduceAdd, Nat.reduceMul, Nat.reduceSub, Nat.reduceEqDiff, Nat.reduceLT, Nat.reduceLeDiff, Nat.reduceBEq, reduceIte, reduceCtorEq, Int.reduceAdd, Int.reduceLT, Int.reduceLE, Int.reduceGT, Int.reduceGE, Int.reduceEq, Int.reduceNe, Int.reduceBEq, Int.reduceBNe, Int.reduceToNat, Int.reduceNeg]
  (repeat (with_reducible refine ob ?_)); refine iff_ _ (fun h => ?_) (fun h => ?_)
  · have hil : r < n := by simpa using h
    have hst := ref_step x n r h1 h2 h3 h0 hil
    have hm1 : r < x.moved.length := by omega
    have ho1 : r < x.opened.length := by omega
    rw [getD_lt hm1, getD_lt ho1] at hst
    simp only [getD_map encB x.moved hm1, encB, go_sem, Nat.reduceAdd, Nat.reduceMul, Nat.reduceSub, Nat.reduceEqDiff, Nat.reduceLT, Nat.reduceLeDiff, Nat.reduceBEq, reduceIte, reduceCtorEq, Int.reduceAdd, Int.reduceLT, Int.reduceLE, Int.reduceGT, Int.reduceGE, Int.reduceEq, Int.reduceNe, Int.reduceBEq, Int.reduceBNe, Int.reduceToNat, Int.reduceNeg]
    (repeat (with_reducible refine ob ?_))
    refine iff_ _ (fun c1 => ?_) (fun c1 => ?_)
    · rw [c1] at hst
      have c2 : (x.phase == 2 && !x.opened[r]) = false := by
        simp only [Bool.and_eq_true, beq_iff_eq] at c1
        simp [c1.1]
      rw [c2] at hst
      simp only [if_true, Bool.false_eq_true, if_false, List.append_nil] at hst
      try (refine ev ?_; try exact True.intro)
      (repeat (with_reducible refine ob ?_))
      simp only [getD_map encB x.opened ho1, encB, go_sem, Nat.reduceAdd, Nat.reduceMul, Nat.reduceSub, Nat.reduceEqDiff, Nat.reduceLT, Nat.reduceLeDiff, Nat.reduceBEq, reduceIte, reduceCtorEq, Int.reduceAdd, Int.reduceLT, Int.reduceLE, Int.reduceGT, Int.reduceGE, Int.reduceEq, Int.reduceNe, Int.reduceBEq, Int.reduceBNe, Int.reduceToNat, Int.reduceNeg]
      (repeat (with_reducible refine ob ?_))
      refine AWp_cond false rfl ?_ (fun h => Bool.noConfusion h) (fun _ => ?_)
      · try simp only [c2, go_sem, Nat.reduceAdd, Nat.reduceMul, Nat.reduceSub, Nat.reduceEqDiff, Nat.reduceLT, Nat.reduceLeDiff, Nat.reduceBEq, reduceIte, reduceCtorEq, Int.reduceAdd, Int.reduceLT, Int.reduceLE, Int.reduceGT, Int.reduceGE, Int.reduceEq, Int.reduceNe, Int.reduceBEq, Int.reduceBNe, Int.reduceToNat, Int.reduceNeg]
      try (refine ev ?_; try exact True.intro)
      refine ⟨⟨r + 1, hil⟩, ?_, by dsimp only; omega⟩
      try simp only [SrI, mgObj, enObj, ordTo_succ, hst, ← List.append_assoc, List.map_append, List.map_cons, List.map_nil, ordPk, encPk, wrap_succ (show r < 9223372036854775807 by omega), go_sem, Nat.reduceAdd, Nat.reduceMul, Nat.reduceSub, Nat.reduceEqDiff, Nat.reduceLT, Nat.reduceLeDiff, Nat.reduceBEq, reduceIte, reduceCtorEq, Int.reduceAdd, Int.reduceLT, Int.reduceLE, Int.reduceGT, Int.reduceGE, Int.reduceEq, Int.reduceNe, Int.reduceBEq, Int.reduceBNe, Int.reduceToNat, Int.reduceNeg]
      exact hn
    · rw [c1] at hst
      try (refine ev ?_; try exact True.intro)
      simp only [getD_map encB x.opened ho1, encB, go_sem, Nat.reduceAdd, Nat.reduceMul, Nat.reduceSub, Nat.reduceEqDiff, Nat.reduceLT, Nat.reduceLeDiff, Nat.reduceBEq, reduceIte, reduceCtorEq, Int.reduceAdd, Int.reduceLT, Int.reduceLE, Int.reduceGT, Int.reduceGE, Int.reduceEq, Int.reduceNe, Int.reduceBEq, Int.reduceBNe, Int.reduceToNat, Int.reduceNeg]
      (repeat (with_reducible refine ob ?_))
      refine iff_ _ (fun c2 => ?_) (fun c2 => ?_)
      · rw [c2] at hst
        simp only [if_true, Bool.false_eq_true, if_false, List.nil_append] at hst
        try (refine ev ?_; try exact True.intro)
        (repeat (with_reducible refine ob ?_))
        refine ⟨⟨r + 1, hil⟩, ?_, by dsimp only; omega⟩
        try simp only [SrI, mgObj, enObj, ordTo_succ, hst, ← List.append_assoc, List.map_append, List.map_cons, List.map_nil, ordPk, encPk, wrap_succ (show r < 9223372036854775807 by omega), go_sem, Nat.reduceAdd, Nat.reduceMul, Nat.reduceSub, Nat.reduceEqDiff, Nat.reduceLT, Nat.reduceLeDiff, Nat.reduceBEq, reduceIte, reduceCtorEq, Int.reduceAdd, Int.reduceLT, Int.reduceLE, Int.reduceGT, Int.reduceGE, Int.reduceEq, Int.reduceNe, Int.reduceBEq, Int.reduceBNe, Int.reduceToNat, Int.reduceNeg]
        exact hn
      · rw [c2] at hst
        simp only [Bool.false_eq_true, if_false, List.nil_append] at hst
        try (refine ev ?_; try exact True.intro)
        refine ⟨⟨r + 1, hil⟩, ?_, by dsimp only; omega⟩
        try simp only [SrI, mgObj, enObj, ordTo_succ, hst, List.append_nil, wrap_succ (show r < 9223372036854775807 by omega), go_sem, Nat.reduceAdd, Nat.reduceMul, Nat.reduceSub, Nat.reduceEqDiff, Nat.reduceLT, Nat.reduceLeDiff, Nat.reduceBEq, reduceIte, reduceCtorEq, Int.reduceAdd, Int.reduceLT, Int.reduceLE, Int.reduceGT, Int.reduceGE, Int.reduceEq, Int.reduceNe, Int.reduceBEq, Int.reduceBNe, Int.reduceToNat, Int.reduceNeg]
        exact hn
  · have hil : r = n := by have : n ≤ r := by simpa using h
                           omega
    subst hil
    try (refine ev ?_; try exact True.intro)
    simp only [SrI, mgObj, enObj, ← hn] at hQ
    exact hQ _

set_option maxRecDepth 10000 in
theorem refOrders_ok (m : Mg) (hm : m.Sm) : ACall Try.prog 45 [.d (.agg (encMg m))] [] (.d (.sl 9 ((upOrders m).map encPk))) [] := by
  have hl := hm.1
  refine F45.go ?_
  try simp only [encMg, go_sem, Nat.reduceAdd, Nat.reduceMul, Nat.reduceSub, Nat.reduceEqDiff, Nat.reduceLT, Nat.reduceLeDiff, Nat.reduceBEq, reduceIte, reduceCtorEq, Int.reduceAdd, Int.reduceLT, Int.reduceLE, Int.reduceGT, Int.reduceGE, Int.reduceEq, Int.reduceNe, Int.reduceBEq, Int.reduceBNe, Int.reduceToNat, Int.reduceNeg]
  (repeat (with_reducible refine ob ?_)); first | refine cl F60 (valid53_ok m hm) ?_ | refine clF F60 (valid53_ok m hm) (fun _ => by simp only [encEn, encMg, encPk, go_sem, Nat.reduceAdd, Nat.reduceMul, Nat.reduceSub, Nat.reduceEqDiff, Nat.reduceLT, Nat.reduceLeDiff, Nat.reduceBEq, reduceIte, reduceCtorEq, Int.reduceAdd, Int.reduceLT, Int.reduceLE, Int.reduceGT, Int.reduceGE, Int.reduceEq, Int.reduceNe, Int.reduceBEq, Int.reduceBNe, Int.reduceToNat, Int.reduceNeg]) ?_
  try (refine ev ?_; try exact True.intro)
  refine iff_ _ (fun hv => ?_) (fun hv => ?_)
  · have hu : upOrders m = [] := by simp at hv; simp [upOrders, hv]
    try simp only [hu, List.map_nil, go_sem, Nat.reduceAdd, Nat.reduceMul, Nat.reduceSub, Nat.reduceEqDiff, Nat.reduceLT, Nat.reduceLeDiff, Nat.reduceBEq, reduceIte, reduceCtorEq, Int.reduceAdd, Int.reduceLT, Int.reduceLE, Int.reduceGT, Int.reduceGE, Int.reduceEq, Int.reduceNe, Int.reduceBEq, Int.reduceBNe, Int.reduceToNat, Int.reduceNeg]
  have hu : upOrders m = ordersTo m m.ents.length := by simp at hv; simp [upOrders, hv]
  have hvv : upValid m = true := by simpa using hv
  have hro := upValid_roles hvv
  rw [hu]
  try (refine ev ?_; try exact True.intro)
  refine AWp_loop (SrO m) (fun i => m.ents.length - i.val) ⟨0, Nat.zero_le _⟩ ?_ (fun i => ?_)
  · try simp only [SrO, mgObj, ordersTo0, List.map_nil, go_sem, Nat.reduceAdd, Nat.reduceMul, Nat.reduceSub, Nat.reduceEqDiff, Nat.reduceLT, Nat.reduceLeDiff, Nat.reduceBEq, reduceIte, reduceCtorEq, Int.reduceAdd, Int.reduceLT, Int.reduceLE, Int.reduceGT, Int.reduceGE, Int.reduceEq, Int.reduceNe, Int.reduceBEq, Int.reduceBNe, Int.reduceToNat, Int.reduceNeg]
  obtain ⟨i, hi⟩ := i
  try simp only [SrO, mgObj, go_sem, Nat.reduceAdd, Nat.reduceMul, Nat.reduceSub, Nat.reduceEqDiff, Nat.reduceLT, Nat.reduceLeDiff, Nat.reduceBEq, reduceIte, reduceCtorEq, Int.reduceAdd, Int.reduceLT, Int.reduceLE, Int.reduceGT, Int.reduceGE, Int.reduceEq, Int.reduceNe, Int.reduceBEq, Int.reduceBNe, Int.reduceToNat, Int.reduceNeg]
  (repeat (with_reducible refine ob ?_)); refine iff_ _ (fun h => ?_) (fun h => ?_)
  · have hil : i < m.ents.length := by simpa using h
    have hx := hm.2 _ (List.getElem_mem hil)
    obtain ⟨a1, a2, a3⟩ := upValid_at hvv hil
    obtain ⟨_, _, a4⟩ := upValid_at2 hvv hil
    have hml : (enMarks m.ents[i]).length = m.roles.toNat := by unfold enMarks; split <;> omega
    simp only [getD_map encEn m.ents hil, encEn, go_sem, Nat.reduceAdd, Nat.reduceMul, Nat.reduceSub, Nat.reduceEqDiff, Nat.reduceLT, Nat.reduceLeDiff, Nat.reduceBEq, reduceIte, reduceCtorEq, Int.reduceAdd, Int.reduceLT, Int.reduceLE, Int.reduceGT, Int.reduceGE, Int.reduceEq, Int.reduceNe, Int.reduceBEq, Int.reduceBNe, Int.reduceToNat, Int.reduceNeg]
    (repeat (with_reducible refine ob ?_))
    refine refOrdI m hm i m.roles.toNat (by omega) hil m.ents[i] hx (by omega) (by omega) a3 a4 _ _ ?_ (fun b => ?_)
    · try simp only [SrI, mgObj, enObj, ordTo0, List.append_nil, go_sem, Nat.reduceAdd, Nat.reduceMul, Nat.reduceSub, Nat.reduceEqDiff, Nat.reduceLT, Nat.reduceLeDiff, Nat.reduceBEq, reduceIte, reduceCtorEq, Int.reduceAdd, Int.reduceLT, Int.reduceLE, Int.reduceGT, Int.reduceGE, Int.reduceEq, Int.reduceNe, Int.reduceBEq, Int.reduceBNe, Int.reduceToNat, Int.reduceNeg]
    · try simp only [SrI, mgObj, enObj, go_sem, Nat.reduceAdd, Nat.reduceMul, Nat.reduceSub, Nat.reduceEqDiff, Nat.reduceLT, Nat.reduceLeDiff, Nat.reduceBEq, reduceIte, reduceCtorEq, Int.reduceAdd, Int.reduceLT, Int.reduceLE, Int.reduceGT, Int.reduceGE, Int.reduceEq, Int.reduceNe, Int.reduceBEq, Int.reduceBNe, Int.reduceToNat, Int.reduceNeg]
      refine ⟨⟨i + 1, hil⟩, ?_, by dsimp only; omega⟩
      have he : (enMarks m.ents[i]).length = m.roles.toNat := hml
      try simp only [SrO, mgObj, ordersTo_succ, getD_lt hil, enOrd, hml, wrap_succ (show i < 9223372036854775807 by omega), go_sem, Nat.reduceAdd, Nat.reduceMul, Nat.reduceSub, Nat.reduceEqDiff, Nat.reduceLT, Nat.reduceLeDiff, Nat.reduceBEq, reduceIte, reduceCtorEq, Int.reduceAdd, Int.reduceLT, Int.reduceLE, Int.reduceGT, Int.reduceGE, Int.reduceEq, Int.reduceNe, Int.reduceBEq, Int.reduceBNe, Int.reduceToNat, Int.reduceNeg]
  · have hil : i = m.ents.length := by have : m.ents.length ≤ i := by simpa using h
                                       omega
    subst hil
    try (refine ev ?_; try exact True.intro)

def repPk (s r label : Int) : Pk := ⟨4, s, 0, r, 0, 0, label, [], []⟩
theorem repPk_sm (s r label : Int) : (repPk s r label).Sm := ⟨Nat.zero_le _, Nat.zero_le _⟩
theorem report53_ok (s r label : Int) : ACall Try.prog 53 [.d (.int .i64 s), .d (.int .i64 r), .d (.int .i64 label)] [] (.d (.agg (encPk (repPk s r label)))) [] := by
  refine F53.go ?_
  try simp only [encPk, repPk, List.map_nil, go_sem, Nat.reduceAdd, Nat.reduceMul, Nat.reduceSub, Nat.reduceEqDiff, Nat.reduceLT, Nat.reduceLeDiff, Nat.reduceBEq, reduceIte, reduceCtorEq, Int.reduceAdd, Int.reduceLT, Int.reduceLE, Int.reduceGT, Int.reduceGE, Int.reduceEq, Int.reduceNe, Int.reduceBEq, Int.reduceBNe, Int.reduceToNat, Int.reduceNeg]

theorem b1 : upBegin ⟨2, []⟩ 5 = (⟨2, [⟨5, 1, [false, false], [false, false]⟩]⟩, 0) := by decide
theorem b2 : upOrders ⟨2, [⟨5, 1, [false, false], [false, false]⟩]⟩ = [ordPk 5 0 1, ordPk 5 1 1] := by decide
theorem b3 : upReport ⟨2, [⟨5, 1, [false, false], [false, false]⟩]⟩ (repPk 5 1 1) = (⟨2, [⟨5, 1, [false, true], [false, false]⟩]⟩, 0) := by decide
theorem b4 : upOrders ⟨2, [⟨5, 1, [false, true], [false, false]⟩]⟩ = [ordPk 5 0 1] := by decide
theorem b5 : upReport ⟨2, [⟨5, 1, [false, true], [false, false]⟩]⟩ (repPk 5 0 1) = (⟨2, [⟨5, 2, [true, true], [false, false]⟩]⟩, 0) := by decide
theorem b6 : upOrders ⟨2, [⟨5, 2, [true, true], [false, false]⟩]⟩ = [ordPk 5 0 2, ordPk 5 1 2] := by decide
theorem smOne (x : En) (h : x.moved.length ≤ 1000) (k : x.opened.length ≤ 1000) : (⟨2, [x]⟩ : Mg).Sm := ⟨by simp, by intro y hy; simp only [List.mem_singleton] at hy; subst hy; exact ⟨h, k⟩⟩
theorem smNil (n : Int) : (⟨n, []⟩ : Mg).Sm := ⟨by simp, by simp⟩

set_option maxRecDepth 10000 in
theorem awake53_ok : ACall Try.prog 41 [] [] (.d (.bool true)) [] := by
  have c0 := upNew_ok 2
  have c1 := upBegin_ok ⟨2, []⟩ 5 (smNil 2)
  have c2 := upOrders_ok ⟨2, [⟨5, 1, [false, false], [false, false]⟩]⟩ (smOne _ (by simp) (by simp))
  have c3 := upReport_ok ⟨2, [⟨5, 1, [false, false], [false, false]⟩]⟩ (repPk 5 1 1) (smOne _ (by simp) (by simp)) (repPk_sm _ _ _)
  have c4 := upOrders_ok ⟨2, [⟨5, 1, [false, true], [false, false]⟩]⟩ (smOne _ (by simp) (by simp))
  have c5 := upReport_ok ⟨2, [⟨5, 1, [false, true], [false, false]⟩]⟩ (repPk 5 0 1) (smOne _ (by simp) (by simp)) (repPk_sm _ _ _)
  have c6 := upOrders_ok ⟨2, [⟨5, 2, [true, true], [false, false]⟩]⟩ (smOne _ (by simp) (by simp))
  have n0 : upNew 2 = (⟨2, []⟩, 0) := by decide
  rw [n0] at c0; rw [b1] at c1; rw [b2] at c2; rw [b3] at c3; rw [b4] at c4; rw [b5] at c5; rw [b6] at c6
  refine F41.go ?_
  try (refine ev ?_; try exact True.intro)
  (repeat (with_reducible refine ob ?_)); first | refine cl F48 (c0) ?_ | refine clF F48 (c0) (fun _ => by simp only [encEn, encMg, encPk, go_sem, Nat.reduceAdd, Nat.reduceMul, Nat.reduceSub, Nat.reduceEqDiff, Nat.reduceLT, Nat.reduceLeDiff, Nat.reduceBEq, reduceIte, reduceCtorEq, Int.reduceAdd, Int.reduceLT, Int.reduceLE, Int.reduceGT, Int.reduceGE, Int.reduceEq, Int.reduceNe, Int.reduceBEq, Int.reduceBNe, Int.reduceToNat, Int.reduceNeg]) ?_
  try simp only [encMg, List.map_nil, go_sem, Nat.reduceAdd, Nat.reduceMul, Nat.reduceSub, Nat.reduceEqDiff, Nat.reduceLT, Nat.reduceLeDiff, Nat.reduceBEq, reduceIte, reduceCtorEq, Int.reduceAdd, Int.reduceLT, Int.reduceLE, Int.reduceGT, Int.reduceGE, Int.reduceEq, Int.reduceNe, Int.reduceBEq, Int.reduceBNe, Int.reduceToNat, Int.reduceNeg]
  (repeat (with_reducible refine ob ?_)); first | refine cl F51b (c1) ?_ | refine clF F51b (c1) (fun _ => by simp only [encEn, encMg, encPk, go_sem, Nat.reduceAdd, Nat.reduceMul, Nat.reduceSub, Nat.reduceEqDiff, Nat.reduceLT, Nat.reduceLeDiff, Nat.reduceBEq, reduceIte, reduceCtorEq, Int.reduceAdd, Int.reduceLT, Int.reduceLE, Int.reduceGT, Int.reduceGE, Int.reduceEq, Int.reduceNe, Int.reduceBEq, Int.reduceBNe, Int.reduceToNat, Int.reduceNeg]) ?_
  try simp only [encMg, go_sem, Nat.reduceAdd, Nat.reduceMul, Nat.reduceSub, Nat.reduceEqDiff, Nat.reduceLT, Nat.reduceLeDiff, Nat.reduceBEq, reduceIte, reduceCtorEq, Int.reduceAdd, Int.reduceLT, Int.reduceLE, Int.reduceGT, Int.reduceGE, Int.reduceEq, Int.reduceNe, Int.reduceBEq, Int.reduceBNe, Int.reduceToNat, Int.reduceNeg]
  (repeat (with_reducible refine ob ?_)); first | refine cl F43 (c2) ?_ | refine clF F43 (c2) (fun _ => by simp only [encEn, encMg, encPk, go_sem, Nat.reduceAdd, Nat.reduceMul, Nat.reduceSub, Nat.reduceEqDiff, Nat.reduceLT, Nat.reduceLeDiff, Nat.reduceBEq, reduceIte, reduceCtorEq, Int.reduceAdd, Int.reduceLT, Int.reduceLE, Int.reduceGT, Int.reduceGE, Int.reduceEq, Int.reduceNe, Int.reduceBEq, Int.reduceBNe, Int.reduceToNat, Int.reduceNeg]) ?_
  try simp only [encMg, go_sem, Nat.reduceAdd, Nat.reduceMul, Nat.reduceSub, Nat.reduceEqDiff, Nat.reduceLT, Nat.reduceLeDiff, Nat.reduceBEq, reduceIte, reduceCtorEq, Int.reduceAdd, Int.reduceLT, Int.reduceLE, Int.reduceGT, Int.reduceGE, Int.reduceEq, Int.reduceNe, Int.reduceBEq, Int.reduceBNe, Int.reduceToNat, Int.reduceNeg]
  (repeat (with_reducible refine ob ?_)); first | refine cl F53 (report53_ok 5 1 1) ?_ | refine clF F53 (report53_ok 5 1 1) (fun _ => by simp only [encEn, encMg, encPk, go_sem, Nat.reduceAdd, Nat.reduceMul, Nat.reduceSub, Nat.reduceEqDiff, Nat.reduceLT, Nat.reduceLeDiff, Nat.reduceBEq, reduceIte, reduceCtorEq, Int.reduceAdd, Int.reduceLT, Int.reduceLE, Int.reduceGT, Int.reduceGE, Int.reduceEq, Int.reduceNe, Int.reduceBEq, Int.reduceBNe, Int.reduceToNat, Int.reduceNeg]) ?_
  try (refine ev ?_; try exact True.intro)
  (repeat (with_reducible refine ob ?_)); first | refine cl F52b (c3) ?_ | refine clF F52b (c3) (fun _ => by simp only [encEn, encMg, encPk, go_sem, Nat.reduceAdd, Nat.reduceMul, Nat.reduceSub, Nat.reduceEqDiff, Nat.reduceLT, Nat.reduceLeDiff, Nat.reduceBEq, reduceIte, reduceCtorEq, Int.reduceAdd, Int.reduceLT, Int.reduceLE, Int.reduceGT, Int.reduceGE, Int.reduceEq, Int.reduceNe, Int.reduceBEq, Int.reduceBNe, Int.reduceToNat, Int.reduceNeg]) ?_
  try simp only [encMg, go_sem, Nat.reduceAdd, Nat.reduceMul, Nat.reduceSub, Nat.reduceEqDiff, Nat.reduceLT, Nat.reduceLeDiff, Nat.reduceBEq, reduceIte, reduceCtorEq, Int.reduceAdd, Int.reduceLT, Int.reduceLE, Int.reduceGT, Int.reduceGE, Int.reduceEq, Int.reduceNe, Int.reduceBEq, Int.reduceBNe, Int.reduceToNat, Int.reduceNeg]
  clear c0 c1 c2 c3
  (repeat (with_reducible refine ob ?_)); first | refine cl F43 (c4) ?_ | refine clF F43 (c4) (fun _ => by simp only [encEn, encMg, encPk, go_sem, Nat.reduceAdd, Nat.reduceMul, Nat.reduceSub, Nat.reduceEqDiff, Nat.reduceLT, Nat.reduceLeDiff, Nat.reduceBEq, reduceIte, reduceCtorEq, Int.reduceAdd, Int.reduceLT, Int.reduceLE, Int.reduceGT, Int.reduceGE, Int.reduceEq, Int.reduceNe, Int.reduceBEq, Int.reduceBNe, Int.reduceToNat, Int.reduceNeg]) ?_
  try simp only [encMg, go_sem, Nat.reduceAdd, Nat.reduceMul, Nat.reduceSub, Nat.reduceEqDiff, Nat.reduceLT, Nat.reduceLeDiff, Nat.reduceBEq, reduceIte, reduceCtorEq, Int.reduceAdd, Int.reduceLT, Int.reduceLE, Int.reduceGT, Int.reduceGE, Int.reduceEq, Int.reduceNe, Int.reduceBEq, Int.reduceBNe, Int.reduceToNat, Int.reduceNeg]
  (repeat (with_reducible refine ob ?_)); first | refine cl F53 (report53_ok 5 0 1) ?_ | refine clF F53 (report53_ok 5 0 1) (fun _ => by simp only [encEn, encMg, encPk, go_sem, Nat.reduceAdd, Nat.reduceMul, Nat.reduceSub, Nat.reduceEqDiff, Nat.reduceLT, Nat.reduceLeDiff, Nat.reduceBEq, reduceIte, reduceCtorEq, Int.reduceAdd, Int.reduceLT, Int.reduceLE, Int.reduceGT, Int.reduceGE, Int.reduceEq, Int.reduceNe, Int.reduceBEq, Int.reduceBNe, Int.reduceToNat, Int.reduceNeg]) ?_
  try (refine ev ?_; try exact True.intro)
  (repeat (with_reducible refine ob ?_)); first | refine cl F52b (c5) ?_ | refine clF F52b (c5) (fun _ => by simp only [encEn, encMg, encPk, go_sem, Nat.reduceAdd, Nat.reduceMul, Nat.reduceSub, Nat.reduceEqDiff, Nat.reduceLT, Nat.reduceLeDiff, Nat.reduceBEq, reduceIte, reduceCtorEq, Int.reduceAdd, Int.reduceLT, Int.reduceLE, Int.reduceGT, Int.reduceGE, Int.reduceEq, Int.reduceNe, Int.reduceBEq, Int.reduceBNe, Int.reduceToNat, Int.reduceNeg]) ?_
  try simp only [encMg, go_sem, Nat.reduceAdd, Nat.reduceMul, Nat.reduceSub, Nat.reduceEqDiff, Nat.reduceLT, Nat.reduceLeDiff, Nat.reduceBEq, reduceIte, reduceCtorEq, Int.reduceAdd, Int.reduceLT, Int.reduceLE, Int.reduceGT, Int.reduceGE, Int.reduceEq, Int.reduceNe, Int.reduceBEq, Int.reduceBNe, Int.reduceToNat, Int.reduceNeg]
  (repeat (with_reducible refine ob ?_)); first | refine cl F43 (c6) ?_ | refine clF F43 (c6) (fun _ => by simp only [encEn, encMg, encPk, go_sem, Nat.reduceAdd, Nat.reduceMul, Nat.reduceSub, Nat.reduceEqDiff, Nat.reduceLT, Nat.reduceLeDiff, Nat.reduceBEq, reduceIte, reduceCtorEq, Int.reduceAdd, Int.reduceLT, Int.reduceLE, Int.reduceGT, Int.reduceGE, Int.reduceEq, Int.reduceNe, Int.reduceBEq, Int.reduceBNe, Int.reduceToNat, Int.reduceNeg]) ?_
  try simp only [encMg, go_sem, Nat.reduceAdd, Nat.reduceMul, Nat.reduceSub, Nat.reduceEqDiff, Nat.reduceLT, Nat.reduceLeDiff, Nat.reduceBEq, reduceIte, reduceCtorEq, Int.reduceAdd, Int.reduceLT, Int.reduceLE, Int.reduceGT, Int.reduceGE, Int.reduceEq, Int.reduceNe, Int.reduceBEq, Int.reduceBNe, Int.reduceToNat, Int.reduceNeg]
  (repeat (with_reducible refine ob ?_))
  try simp only [encPk, ordPk, go_sem, Nat.reduceAdd, Nat.reduceMul, Nat.reduceSub, Nat.reduceEqDiff, Nat.reduceLT, Nat.reduceLeDiff, Nat.reduceBEq, reduceIte, reduceCtorEq, Int.reduceAdd, Int.reduceLT, Int.reduceLE, Int.reduceGT, Int.reduceGE, Int.reduceEq, Int.reduceNe, Int.reduceBEq, Int.reduceBNe, Int.reduceToNat, Int.reduceNeg]
end Go.Proofs.Ythcpckcgjplhiaa

/- UpgradeOrders. -/
namespace Go.Proofs.Ythcpckcgjplhiaa
open Go.Abs
set_option linter.unusedSimpArgs false

theorem fewM_sm {m : Mg} (h : fewM m = true) : m.Sm := by
  simp only [fewM, Bool.and_eq_true, decide_eq_true_eq, List.all_eq_true] at h
  refine ⟨by omega, fun x hx => ?_⟩
  have := h.1 x hx
  simp only [fewE, Bool.not_eq_true', Bool.or_eq_false_iff, decide_eq_false_iff_not] at this
  exact ⟨by omega, by omega⟩

theorem ordPk_sm (s r label : Int) : (ordPk s r label).Sm := ⟨Nat.zero_le _, Nat.zero_le _⟩
theorem mem_ordTo {s label : Int} {marks : List Bool} {n : Nat} {p : Pk} (h : p ∈ ordTo s label marks n) : ∃ r, r < n ∧ r < marks.length ∧ p = ordPk s r label := by
  simp only [ordTo, List.mem_flatMap, List.mem_range] at h
  obtain ⟨r, hr, hp⟩ := h
  unfold ordAt at hp
  split at hp
  · simp at hp
  · rename_i hq
    refine ⟨r, hr, ?_, by simpa using hp⟩
    rcases Nat.lt_or_ge r marks.length with h | h
    · exact h
    · simp [List.getD, h] at hq
theorem mem_orders {m : Mg} {p : Pk} (h : p ∈ upOrders m) : ∃ s r label : Int, p = ordPk s r label ∧ 1 ≤ s ∧ s ≤ 32 ∧ 0 ≤ r ∧ r < 6 ∧ (label = 1 ∨ label = 2) := by
  unfold upOrders at h
  split at h
  · rename_i hv
    simp only [ordersTo, List.mem_flatMap, List.mem_range] at h
    obtain ⟨i, hi, hp⟩ := h
    rw [getD_lt hi] at hp
    obtain ⟨r, hr, _, rfl⟩ := mem_ordTo hp
    obtain ⟨a1, a2, _⟩ := upValid_at hv hi
    obtain ⟨b1, b2, _⟩ := upValid_at2 hv hi
    have hro := upValid_roles hv
    have hml : ((enMarks m.ents[i]).length : Int) = m.roles := by unfold enMarks; split <;> omega
    exact ⟨_, r, _, rfl, b1, b2, by omega, by omega, by unfold enLabel; split <;> simp⟩
  · simp at h
theorem orders_sm {m : Mg} {p : Pk} (h : p ∈ upOrders m) : p.Sm := by
  obtain ⟨s, r, label, rfl, _⟩ := mem_orders h
  exact ordPk_sm _ _ _
theorem orders_valid {m : Mg} {p : Pk} (h : p ∈ upOrders m) : packetValid p = true := by
  obtain ⟨s, r, label, rfl, h1, h2, h3, h4, h5⟩ := mem_orders h
  rcases h5 with rfl | rfl <;> simp [packetValid, kindOk, order, role, bare, ordPk, h1, h2, h3, h4]
theorem orders_len {m : Mg} (hm : m.Sm) : (upOrders m).length ≤ 1000000 := by
  unfold upOrders
  split
  · have := ordersTo_len m hm _ (Nat.le_refl _)
    have := hm.1
    omega
  · simp

def Slaw (l : List Pk) (i : { i : Nat // i ≤ l.length }) : St :=
  ⟨[(2, true, .d (.bool false)), (3, true, .d (.sl 9 (l.map encPk))), (4, true, .d (.sl 9 (l.map encPk))), (5, true, .d (.int .i64 (i.val : Nat)))], [], [], 1⟩

set_option maxRecDepth 10000 in
theorem upgradeOrders_ok (m : Mg) (hm : m.ents.length ≤ maxLen) : ACall Try.prog 7 [.d (.agg (encMg m))] [] (.d (.bool true)) [] := by
  refine F7.go ?_
  try simp only [encMg, go_sem, Nat.reduceAdd, Nat.reduceMul, Nat.reduceSub, Nat.reduceEqDiff, Nat.reduceLT, Nat.reduceLeDiff, Nat.reduceBEq, reduceIte, reduceCtorEq, Int.reduceAdd, Int.reduceLT, Int.reduceLE, Int.reduceGT, Int.reduceGE, Int.reduceEq, Int.reduceNe, Int.reduceBEq, Int.reduceBNe, Int.reduceToNat, Int.reduceNeg]
  (repeat (with_reducible refine ob ?_)); first | refine cl F41 (awake53_ok) ?_ | refine clF F41 (awake53_ok) (fun _ => by simp only [encEn, encMg, encPk, go_sem, Nat.reduceAdd, Nat.reduceMul, Nat.reduceSub, Nat.reduceEqDiff, Nat.reduceLT, Nat.reduceLeDiff, Nat.reduceBEq, reduceIte, reduceCtorEq, Int.reduceAdd, Int.reduceLT, Int.reduceLE, Int.reduceGT, Int.reduceGE, Int.reduceEq, Int.reduceNe, Int.reduceBEq, Int.reduceBNe, Int.reduceToNat, Int.reduceNeg]) ?_
  try (refine ev ?_; try exact True.intro)
  (repeat (with_reducible refine ob ?_)); refine no_ ?_
  try (refine ev ?_; try exact True.intro)
  (repeat (with_reducible refine ob ?_)); first | refine cl F42 (fewM_ok m hm) ?_ | refine clF F42 (fewM_ok m hm) (fun _ => by simp only [encEn, encMg, encPk, go_sem, Nat.reduceAdd, Nat.reduceMul, Nat.reduceSub, Nat.reduceEqDiff, Nat.reduceLT, Nat.reduceLeDiff, Nat.reduceBEq, reduceIte, reduceCtorEq, Int.reduceAdd, Int.reduceLT, Int.reduceLE, Int.reduceGT, Int.reduceGE, Int.reduceEq, Int.reduceNe, Int.reduceBEq, Int.reduceBNe, Int.reduceToNat, Int.reduceNeg]) ?_
  try (refine ev ?_; try exact True.intro)
  (repeat (with_reducible refine ob ?_)); refine iff_ _ (fun h => ?_) (fun h => ?_)
  · try (refine ev ?_; try exact True.intro)
  have hf : fewM m = true := by simpa using h
  have sm := fewM_sm hf
  have hll := orders_len sm
  try (refine ev ?_; try exact True.intro)
  (repeat (with_reducible refine ob ?_)); first | refine cl F44 (to53_ok m sm.1) ?_ | refine clF F44 (to53_ok m sm.1) (fun _ => by simp only [encEn, encMg, encPk, go_sem, Nat.reduceAdd, Nat.reduceMul, Nat.reduceSub, Nat.reduceEqDiff, Nat.reduceLT, Nat.reduceLeDiff, Nat.reduceBEq, reduceIte, reduceCtorEq, Int.reduceAdd, Int.reduceLT, Int.reduceLE, Int.reduceGT, Int.reduceGE, Int.reduceEq, Int.reduceNe, Int.reduceBEq, Int.reduceBNe, Int.reduceToNat, Int.reduceNeg]) ?_
  try simp only [encMg, go_sem, Nat.reduceAdd, Nat.reduceMul, Nat.reduceSub, Nat.reduceEqDiff, Nat.reduceLT, Nat.reduceLeDiff, Nat.reduceBEq, reduceIte, reduceCtorEq, Int.reduceAdd, Int.reduceLT, Int.reduceLE, Int.reduceGT, Int.reduceGE, Int.reduceEq, Int.reduceNe, Int.reduceBEq, Int.reduceBNe, Int.reduceToNat, Int.reduceNeg]
  (repeat (with_reducible refine ob ?_)); first | refine cl F43 (upOrders_ok m sm) ?_ | refine clF F43 (upOrders_ok m sm) (fun _ => by simp only [encEn, encMg, encPk, go_sem, Nat.reduceAdd, Nat.reduceMul, Nat.reduceSub, Nat.reduceEqDiff, Nat.reduceLT, Nat.reduceLeDiff, Nat.reduceBEq, reduceIte, reduceCtorEq, Int.reduceAdd, Int.reduceLT, Int.reduceLE, Int.reduceGT, Int.reduceGE, Int.reduceEq, Int.reduceNe, Int.reduceBEq, Int.reduceBNe, Int.reduceToNat, Int.reduceNeg]) ?_
  try simp only [encMg, go_sem, Nat.reduceAdd, Nat.reduceMul, Nat.reduceSub, Nat.reduceEqDiff, Nat.reduceLT, Nat.reduceLeDiff, Nat.reduceBEq, reduceIte, reduceCtorEq, Int.reduceAdd, Int.reduceLT, Int.reduceLE, Int.reduceGT, Int.reduceGE, Int.reduceEq, Int.reduceNe, Int.reduceBEq, Int.reduceBNe, Int.reduceToNat, Int.reduceNeg]
  (repeat (with_reducible refine ob ?_)); first | refine cl F45 (refOrders_ok m sm) ?_ | refine clF F45 (refOrders_ok m sm) (fun _ => by simp only [encEn, encMg, encPk, go_sem, Nat.reduceAdd, Nat.reduceMul, Nat.reduceSub, Nat.reduceEqDiff, Nat.reduceLT, Nat.reduceLeDiff, Nat.reduceBEq, reduceIte, reduceCtorEq, Int.reduceAdd, Int.reduceLT, Int.reduceLE, Int.reduceGT, Int.reduceGE, Int.reduceEq, Int.reduceNe, Int.reduceBEq, Int.reduceBNe, Int.reduceToNat, Int.reduceNeg]) ?_
  try (refine ev ?_; try exact True.intro)
  (repeat (with_reducible refine ob ?_)); refine no_ ?_
  try (refine ev ?_; try exact True.intro)
  refine AWp_loop (Slaw (upOrders m)) (fun i => (upOrders m).length - i.val) ⟨0, Nat.zero_le _⟩ ?_ (fun i => ?_)
  · try simp only [Slaw, go_sem, Nat.reduceAdd, Nat.reduceMul, Nat.reduceSub, Nat.reduceEqDiff, Nat.reduceLT, Nat.reduceLeDiff, Nat.reduceBEq, reduceIte, reduceCtorEq, Int.reduceAdd, Int.reduceLT, Int.reduceLE, Int.reduceGT, Int.reduceGE, Int.reduceEq, Int.reduceNe, Int.reduceBEq, Int.reduceBNe, Int.reduceToNat, Int.reduceNeg]
  obtain ⟨i, hi⟩ := i
  try simp only [Slaw, go_sem, Nat.reduceAdd, Nat.reduceMul, Nat.reduceSub, Nat.reduceEqDiff, Nat.reduceLT, Nat.reduceLeDiff, Nat.reduceBEq, reduceIte, reduceCtorEq, Int.reduceAdd, Int.reduceLT, Int.reduceLE, Int.reduceGT, Int.reduceGE, Int.reduceEq, Int.reduceNe, Int.reduceBEq, Int.reduceBNe, Int.reduceToNat, Int.reduceNeg]
  (repeat (with_reducible refine ob ?_)); refine iff_ _ (fun h => ?_) (fun h => ?_)
  · have hil : i < (upOrders m).length := by simpa using h
    have hmem := List.getElem_mem hil
    simp only [getD_map encPk (upOrders m) hil, encPk, go_sem, Nat.reduceAdd, Nat.reduceMul, Nat.reduceSub, Nat.reduceEqDiff, Nat.reduceLT, Nat.reduceLeDiff, Nat.reduceBEq, reduceIte, reduceCtorEq, Int.reduceAdd, Int.reduceLT, Int.reduceLE, Int.reduceGT, Int.reduceGE, Int.reduceEq, Int.reduceNe, Int.reduceBEq, Int.reduceBNe, Int.reduceToNat, Int.reduceNeg]
    (repeat (with_reducible refine ob ?_))
    (repeat (with_reducible refine ob ?_)); first | refine cl F46 (pkEqual46_ok (upOrders m)[i] (upOrders m)[i] (orders_sm hmem)) ?_ | refine clF F46 (pkEqual46_ok (upOrders m)[i] (upOrders m)[i] (orders_sm hmem)) (fun _ => by simp only [encEn, encMg, encPk, go_sem, Nat.reduceAdd, Nat.reduceMul, Nat.reduceSub, Nat.reduceEqDiff, Nat.reduceLT, Nat.reduceLeDiff, Nat.reduceBEq, reduceIte, reduceCtorEq, Int.reduceAdd, Int.reduceLT, Int.reduceLE, Int.reduceGT, Int.reduceGE, Int.reduceEq, Int.reduceNe, Int.reduceBEq, Int.reduceBNe, Int.reduceToNat, Int.reduceNeg]) ?_
    try simp only [getD_map encPk (upOrders m) hil, encPk, go_sem, Nat.reduceAdd, Nat.reduceMul, Nat.reduceSub, Nat.reduceEqDiff, Nat.reduceLT, Nat.reduceLeDiff, Nat.reduceBEq, reduceIte, reduceCtorEq, Int.reduceAdd, Int.reduceLT, Int.reduceLE, Int.reduceGT, Int.reduceGE, Int.reduceEq, Int.reduceNe, Int.reduceBEq, Int.reduceBNe, Int.reduceToNat, Int.reduceNeg]
    (repeat (with_reducible refine ob ?_))
    (repeat (with_reducible refine ob ?_)); first | refine cl F47 (packetValid_ok (upOrders m)[i] (orders_sm hmem).v (orders_sm hmem).c) ?_ | refine clF F47 (packetValid_ok (upOrders m)[i] (orders_sm hmem).v (orders_sm hmem).c) (fun _ => by simp only [encEn, encMg, encPk, go_sem, Nat.reduceAdd, Nat.reduceMul, Nat.reduceSub, Nat.reduceEqDiff, Nat.reduceLT, Nat.reduceLeDiff, Nat.reduceBEq, reduceIte, reduceCtorEq, Int.reduceAdd, Int.reduceLT, Int.reduceLE, Int.reduceGT, Int.reduceGE, Int.reduceEq, Int.reduceNe, Int.reduceBEq, Int.reduceBNe, Int.reduceToNat, Int.reduceNeg]) ?_
    try simp only [orders_valid hmem, go_sem, Nat.reduceAdd, Nat.reduceMul, Nat.reduceSub, Nat.reduceEqDiff, Nat.reduceLT, Nat.reduceLeDiff, Nat.reduceBEq, reduceIte, reduceCtorEq, Int.reduceAdd, Int.reduceLT, Int.reduceLE, Int.reduceGT, Int.reduceGE, Int.reduceEq, Int.reduceNe, Int.reduceBEq, Int.reduceBNe, Int.reduceToNat, Int.reduceNeg]
    (repeat (with_reducible refine ob ?_))
    try simp only [orders_valid hmem, go_sem, Nat.reduceAdd, Nat.reduceMul, Nat.reduceSub, Nat.reduceEqDiff, Nat.reduceLT, Nat.reduceLeDiff, Nat.reduceBEq, reduceIte, reduceCtorEq, Int.reduceAdd, Int.reduceLT, Int.reduceLE, Int.reduceGT, Int.reduceGE, Int.reduceEq, Int.reduceNe, Int.reduceBEq, Int.reduceBNe, Int.reduceToNat, Int.reduceNeg]
    (repeat (with_reducible refine ob ?_)); refine no_ ?_
    try (refine ev ?_; try exact True.intro)
    refine ⟨⟨i + 1, hil⟩, ?_, by dsimp only; omega⟩
    try simp only [Slaw, wrap_succ (show i < 9223372036854775807 by omega), go_sem, Nat.reduceAdd, Nat.reduceMul, Nat.reduceSub, Nat.reduceEqDiff, Nat.reduceLT, Nat.reduceLeDiff, Nat.reduceBEq, reduceIte, reduceCtorEq, Int.reduceAdd, Int.reduceLT, Int.reduceLE, Int.reduceGT, Int.reduceGE, Int.reduceEq, Int.reduceNe, Int.reduceBEq, Int.reduceBNe, Int.reduceToNat, Int.reduceNeg]
  · try (refine ev ?_; try exact True.intro)
end Go.Proofs.Ythcpckcgjplhiaa

/- Layer 53, plainly: valid managers, and what the calls make of them. -/
namespace Go.Proofs.Ythcpckcgjplhiaa
open Go.Abs
set_option linter.unusedSimpArgs false

/-- A valid entry of a manager with r roles. -/
structure EnOk (r : Int) (x : En) : Prop where
  s1 : 1 ≤ x.sess
  s32 : x.sess ≤ 32
  ml : (x.moved.length : Int) = r
  ol : (x.opened.length : Int) = r
  ph : x.phase = upPhase x
  p0 : x.phase ≠ 0
/-- A valid manager. -/
structure MW (m : Mg) : Prop where
  r1 : 1 ≤ m.roles
  r6 : m.roles ≤ 6
  inc : (m.ents.map En.sess).Pairwise (· < ·)
  en : ∀ x ∈ m.ents, EnOk m.roles x

theorem pairwise_of_adj {l : List Int} (h : ∀ i (h : i + 1 < l.length), l[i] < l[i + 1]) : l.Pairwise (· < ·) := by
  rw [List.pairwise_iff_getElem]
  intro i j hi hj hij
  obtain ⟨d, rfl⟩ : ∃ d, j = i + 1 + d := ⟨j - (i + 1), by omega⟩
  induction d with
  | zero => exact h i hj
  | succ d ih => exact Int.lt_trans (ih (by omega) (by omega)) (h (i + 1 + d) hj)

theorem upValid_mw {m : Mg} : upValid m = true ↔ MW m := by
  constructor
  · intro h
    have hr := upValid_roles h
    refine ⟨hr.1, hr.2, pairwise_of_adj fun i hi => ?_, fun x hx => ?_⟩
    · have hi' : i + 1 < m.ents.length := by simpa using hi
      have h2 := h
      simp only [upValid, Bool.and_eq_true] at h2
      have := allTo_iff.1 h2.1 (i + 1) hi'
      rw [← enk m i hi' (by omega)] at this
      simp only [Bool.not_eq_true', Bool.or_eq_false_iff, Bool.and_eq_false_iff, decide_eq_false_iff_not] at this
      simp only [List.getElem_map]
      have := this.1.1.1.1.2
      omega
    · obtain ⟨i, hi, rfl⟩ := List.getElem_of_mem hx
      obtain ⟨a1, a2, a3⟩ := upValid_at h hi
      obtain ⟨b1, b2, b3⟩ := upValid_at2 h hi
      exact ⟨b1, b2, a1, a2, a3, b3⟩
  · rintro ⟨r1, r6, inc, en⟩
    simp only [upValid, Bool.and_eq_true, decide_eq_true_eq]
    refine ⟨allTo_iff.2 fun i hi => ?_, r1, r6⟩
    obtain ⟨s1, s32, ml, ol, ph, p0⟩ := en _ (List.getElem_mem hi)
    rcases Nat.eq_zero_or_pos i with rfl | h0
    · rw [← en0 m hi]
      simp only [Bool.not_eq_true', Bool.or_eq_false_iff, decide_eq_false_iff_not, bne_eq_false_iff_eq, beq_eq_false_iff_ne]
      exact ⟨⟨⟨⟨⟨by omega, by omega⟩, ml⟩, ol⟩, p0⟩, ph⟩
    · obtain ⟨k, rfl⟩ : ∃ k, i = k + 1 := ⟨i - 1, by omega⟩
      rw [← enk m k hi (by omega)]
      have hlt := (List.pairwise_iff_getElem.1 inc) k (k + 1) (by simp; omega) (by simpa using hi) (by omega)
      simp only [List.getElem_map] at hlt
      simp only [Bool.not_eq_true', Bool.or_eq_false_iff, Bool.and_eq_false_iff, decide_eq_false_iff_not, bne_eq_false_iff_eq, beq_eq_false_iff_ne]
      exact ⟨⟨⟨⟨⟨⟨by omega, by omega⟩, .inr (by omega)⟩, ml⟩, ol⟩, p0⟩, ph⟩

theorem pairwise_len {l : List Int} (h : l.Pairwise (· < ·)) (h1 : ∀ x ∈ l, 1 ≤ x) (h32 : ∀ x ∈ l, x ≤ 32) : l.length ≤ 32 := by
  have key : ∀ (i : Nat) (hi : i < l.length), (i : Int) + 1 ≤ l[i] := by
    intro i
    induction i with
    | zero => intro hi; have := h1 _ (List.getElem_mem hi); omega
    | succ i ih =>
      intro hi
      have := ih (by omega)
      have := (List.pairwise_iff_getElem.1 h) i (i + 1) (by omega) hi (by omega)
      omega
  rcases Nat.lt_or_ge 32 l.length with h' | h'
  · have := key 32 h'
    have := h32 _ (List.getElem_mem h')
    omega
  · exact h'
theorem MW.sm {m : Mg} (h : MW m) : m.Sm := by
  refine ⟨?_, fun x hx => ?_⟩
  · have := pairwise_len h.inc (by intro x hx; obtain ⟨e, he, rfl⟩ := List.mem_map.1 hx; exact (h.en e he).s1) (by intro x hx; obtain ⟨e, he, rfl⟩ := List.mem_map.1 hx; exact (h.en e he).s32)
    rw [List.length_map] at this
    omega
  · have h1 := (h.en x hx).ml
    have h2 := (h.en x hx).ol
    have h6 := h.r6
    exact ⟨by omega, by omega⟩

/-- What find tells. -/
theorem upFind_yes {m : Mg} {s : Int} (h : (upFind m s).2 = true) : ∃ hk : (upFind m s).1 < m.ents.length, m.ents[(upFind m s).1].sess = s := by
  refine ⟨upFind_lt h, ?_⟩
  unfold upFind at h ⊢
  split at h
  · rename_i h1
    simp only [h1, if_true] at h ⊢
    rw [getD_lt (idx_any h1).2] at h
    simpa using h
  · cases h
theorem upFind_no {m : Mg} {s : Int} (hm : MW m) (h : (upFind m s).2 = false) : (∀ x ∈ m.ents.take (upFind m s).1, x.sess < s) ∧ ∀ x ∈ m.ents.drop (upFind m s).1, s < x.sess := by
  unfold upFind at h ⊢
  split at h
  · rename_i h1
    obtain ⟨_, h2⟩ := idx_any h1
    simp only [h1, if_true] at h ⊢
    rw [getD_lt h2] at h
    have hge := List.findIdx_getElem (p := fun x : En => decide (x.sess ≥ s)) (xs := m.ents) (w := h2)
    simp only [decide_eq_true_eq] at hge
    simp only [beq_eq_false_iff_ne] at h
    refine ⟨fun x hx => ?_, fun x hx => ?_⟩
    · obtain ⟨i, hi, rfl⟩ := List.getElem_of_mem hx
      have hi' : i < m.ents.findIdx (fun x => decide (x.sess ≥ s)) := by rw [List.length_take] at hi; omega
      have := List.not_of_lt_findIdx hi'
      simp at this
      simpa using this
    · obtain ⟨i, hi, rfl⟩ := List.getElem_of_mem hx
      rw [List.getElem_drop]
      rw [List.length_drop] at hi
      rcases Nat.eq_zero_or_pos i with rfl | h0
      · simp only [Nat.add_zero]; omega
      · have := (List.pairwise_iff_getElem.1 hm.inc) (m.ents.findIdx (fun x => decide (x.sess ≥ s))) (m.ents.findIdx (fun x => decide (x.sess ≥ s)) + i) (by rw [List.length_map]; exact h2) (by rw [List.length_map]; omega) (by omega)
        simp only [List.getElem_map] at this
        omega
  · rename_i h1
    simp only [h1] at h ⊢
    simp only [Bool.false_eq_true, if_false, List.take_length, List.drop_length]
    refine ⟨fun x hx => ?_, by simp⟩
    simp only [Bool.not_eq_true, List.any_eq_false, decide_eq_true_eq] at h1
    have := h1 x hx
    omega
theorem upFind_mem {m : Mg} {s : Int} (hm : MW m) : (upFind m s).2 = true ↔ ∃ x ∈ m.ents, x.sess = s := by
  constructor
  · intro h
    obtain ⟨hk, hs⟩ := upFind_yes h
    exact ⟨_, List.getElem_mem hk, hs⟩
  · rintro ⟨x, hx, hs⟩
    cases hf : (upFind m s).2 with
    | true => rfl
    | false =>
      obtain ⟨h1, h2⟩ := upFind_no hm hf
      rw [← List.take_append_drop (upFind m s).1 m.ents] at hx
      rcases List.mem_append.1 hx with hx | hx
      · have := h1 x hx; omega
      · have := h2 x hx; omega

theorem newE_ok {r s : Int} (h1 : 1 ≤ r) (h6 : r ≤ 6) (hs1 : 1 ≤ s) (hs2 : s ≤ 32) : EnOk r (newE r s) := by
  have hr : r = 1 ∨ r = 2 ∨ r = 3 ∨ r = 4 ∨ r = 5 ∨ r = 6 := by omega
  have hp : upPhase (newE r s) = 1 := by rcases hr with rfl | rfl | rfl | rfl | rfl | rfl <;> simp [upPhase, newE, hasB, List.replicate]
  exact ⟨hs1, hs2, by simp [newE]; omega, by simp [newE]; omega, by rw [hp]; rfl, by show (1 : Int) ≠ 0; decide⟩

/-- Begin: which managers it makes. -/
theorem begin_cases (m : Mg) (s : Int) (hm : MW m) (h1 : 1 ≤ s) (h32 : s ≤ 32) :
    ((upFind m s).2 = true ∧ upBegin m s = (⟨0, []⟩, 9)) ∨ ((upFind m s).2 = false ∧ ∃ a b, m.ents = a ++ b ∧ upBegin m s = (⟨m.roles, a ++ [newE m.roles s] ++ b⟩, 0) ∧ MW ⟨m.roles, a ++ [newE m.roles s] ++ b⟩) := by
  have hv := upValid_mw.2 hm
  have hs : (decide (s < 1) || decide (s > 32)) = false := by simp; omega
  cases hf : (upFind m s).2 with
  | true => exact .inl ⟨rfl, by simp [upBegin, hv, hs, hf]⟩
  | false =>
    obtain ⟨f1, f2⟩ := upFind_no hm hf
    refine .inr ⟨rfl, _, _, (List.take_append_drop (upFind m s).1 m.ents).symm, by simp [upBegin, hv, hs, hf], hm.r1, hm.r6, ?_, ?_⟩
    · have hp := hm.inc
      rw [← List.take_append_drop (upFind m s).1 m.ents, List.map_append, List.pairwise_append] at hp
      obtain ⟨p1, p2, p3⟩ := hp
      simp only [List.map_append, List.map_cons, List.map_nil, List.append_assoc, List.cons_append, List.nil_append]
      rw [List.pairwise_append, List.pairwise_cons]
      refine ⟨p1, ⟨fun y hy => ?_, p2⟩, fun y hy z hz => ?_⟩
      · obtain ⟨e, he, rfl⟩ := List.mem_map.1 hy
        exact f2 e he
      · obtain ⟨e, he, rfl⟩ := List.mem_map.1 hy
        rcases List.mem_cons.1 hz with rfl | hz
        · exact f1 e he
        · exact p3 _ hy _ hz
    · intro x hx
      simp only [List.mem_append, List.mem_singleton] at hx
      rcases hx with (hx | hx) | hx
      · exact hm.en x (List.mem_of_mem_take hx)
      · subst hx; exact newE_ok hm.r1 hm.r6 h1 h32
      · exact hm.en x (List.mem_of_mem_drop hx)

/-- What a report of a role is about. -/
def RepP (p : Pk) (s r label : Int) : Prop := p = repPk s r label
theorem repPk_valid {s r label : Int} (h1 : 1 ≤ s) (h2 : s ≤ 32) (h3 : 0 ≤ r) (h4 : r < 6) (h5 : label = 1 ∨ label = 2) : packetValid (repPk s r label) = true := by
  rcases h5 with rfl | rfl <;> simp [packetValid, kindOk, order, role, bare, repPk, h1, h2, h3, h4]

theorem set_len {l : List Bool} {k : Nat} : (l.set k true).length = l.length := List.length_set
theorem repSet_ok {r : Int} {x : En} (hx : EnOk r x) (p : Pk) (h0 : upPhase (repMark p x) ≠ 0) : EnOk r (repSet (repMark p x)) := by
  unfold repMark at h0 ⊢
  split
  · rename_i h; rw [if_pos h] at h0
    exact ⟨hx.s1, hx.s32, hx.ml, by simpa [repSet] using hx.ol, rfl, h0⟩
  · rename_i h; rw [if_neg h] at h0
    exact ⟨hx.s1, hx.s32, by simpa [repSet] using hx.ml, hx.ol, rfl, h0⟩
theorem repSet_sess (p : Pk) (x : En) : (repSet (repMark p x)).sess = x.sess := by unfold repMark repSet; split <;> rfl

theorem all_idB {l : List Bool} : l.all idB = true ↔ ∀ b ∈ l, b = true := by simp [List.all_eq_true, idB]
/-- The phase of marks. -/
theorem upPhase_cases (x : En) : (upPhase x = 3 ∧ x.moved.all idB = true ∧ x.opened.all idB = true) ∨ (upPhase x = 2 ∧ x.moved.all idB = true ∧ x.opened.all idB = false) ∨
    (upPhase x = 0 ∧ x.moved.all idB = false ∧ x.opened.any idB = true) ∨ (upPhase x = 1 ∧ x.moved.all idB = false ∧ x.opened.any idB = false) := by
  simp only [upPhase, hasB_false, hasB_true]
  cases x.moved.all idB <;> cases x.opened.all idB <;> cases x.opened.any idB <;> simp

/-- Report: which managers it makes. -/
theorem report_cases (m : Mg) (s r label : Int) (hm : MW m) (h1 : 1 ≤ s) (h32 : s ≤ 32) (h0 : 0 ≤ r) (hr : r < m.roles) (hl : label = 1 ∨ label = 2) :
    ((upReport m (repPk s r label)).2 ≠ 0) ∨ ∃ k, ∃ hk : k < m.ents.length, m.ents[k].sess = s ∧ (upFind m s).1 = k ∧ (repMarks (repPk s r label) m.ents[k]).getD r.toNat false = false ∧ (label = 2 → m.ents[k].phase ≠ 1) ∧
      upReport m (repPk s r label) = (⟨m.roles, m.ents.set k (repSet (repMark (repPk s r label) m.ents[k]))⟩, 0) ∧ EnOk m.roles (repSet (repMark (repPk s r label) m.ents[k])) ∧ MW ⟨m.roles, m.ents.set k (repSet (repMark (repPk s r label) m.ents[k]))⟩ := by
  have hv := upValid_mw.2 hm
  have hp := repPk_valid h1 h32 h0 (by have := hm.r6; omega) hl
  have hg : (!upValid m || (repPk s r label).kind != 4 || !packetValid (repPk s r label) || decide ((repPk s r label).from_ ≥ m.roles)) = false := by
    rw [hv, hp]; simp [repPk]; omega
  cases hf : (upFind m s).2 with
  | false =>
    refine .inl ?_
    have : (upFind m (repPk s r label).sess).2 = false := hf
    simp only [upReport, hg, this]; simp
  | true =>
    obtain ⟨hk, hs⟩ := upFind_yes hf
    have hu : upReport m (repPk s r label) = (if (repMarks (repPk s r label) m.ents[(upFind m s).1]).getD r.toNat false then (⟨0, []⟩, 21)
        else if label == 2 && m.ents[(upFind m s).1].phase == 1 then (⟨0, []⟩, 7)
        else (⟨m.roles, m.ents.set (upFind m s).1 (repSet (repMark (repPk s r label) m.ents[(upFind m s).1]))⟩, 0)) := by
      have e1 : (repPk s r label).sess = s := rfl
      have e2 : (repPk s r label).from_ = r := rfl
      have e3 : (repPk s r label).label = label := rfl
      simp only [upReport, hg]
      simp only [e1, e2, e3, hf, getD_lt hk]; rfl
    rw [hu]
    by_cases c1 : (repMarks (repPk s r label) m.ents[(upFind m s).1]).getD r.toNat false = true
    · exact .inl (by rw [if_pos c1]; simp)
    · rw [if_neg c1]
      by_cases c2 : (label == 2 && m.ents[(upFind m s).1].phase == 1) = true
      · exact .inl (by rw [if_pos c2]; simp)
      · rw [if_neg c2]
        have hx := hm.en _ (List.getElem_mem hk)
        have hnew : EnOk m.roles (repSet (repMark (repPk s r label) m.ents[(upFind m s).1])) := by
          refine repSet_ok hx _ ?_
          have hpc := upPhase_cases m.ents[(upFind m s).1]
          have hph := hx.ph
          have hp0 := hx.p0
          have hm6 := hm.r6
          have hrl : r.toNat < m.ents[(upFind m s).1].moved.length := by have := hx.ml; omega
          intro hz
          rcases hl with rfl | rfl
          · have hno : ¬ m.ents[(upFind m s).1].moved.all idB = true := by
              intro ha
              have := all_idB.1 ha _ (List.getElem_mem hrl)
              exact c1 (by simp [repMarks, repPk, List.getD, hrl, this])
            rcases upPhase_cases (repMark (repPk s r 1) m.ents[(upFind m s).1]) with ⟨h, _⟩ | ⟨h, _⟩ | ⟨_, _, h⟩ | ⟨h, _⟩
            · omega
            · omega
            · have h' : m.ents[(upFind m s).1].opened.any idB = true := h
              rcases hpc with ⟨_, h, _⟩ | ⟨_, h, _⟩ | ⟨h, _⟩ | ⟨_, _, h⟩
              · exact hno h
              · exact hno h
              · omega
              · rw [h] at h'; cases h'
            · omega
          · have hne : m.ents[(upFind m s).1].phase ≠ 1 := by simpa using c2
            rcases upPhase_cases (repMark (repPk s r 2) m.ents[(upFind m s).1]) with ⟨h, _⟩ | ⟨h, _⟩ | ⟨_, h, _⟩ | ⟨h, _⟩
            · omega
            · omega
            · have h' : m.ents[(upFind m s).1].moved.all idB = false := h
              rcases hpc with ⟨_, h, _⟩ | ⟨_, h, _⟩ | ⟨h, _⟩ | ⟨h, _⟩
              · rw [h] at h'; cases h'
              · rw [h] at h'; cases h'
              · omega
              · omega
            · omega
        refine .inr ⟨_, hk, hs, rfl, by simpa using c1, fun hl2 => ?_, rfl, hnew, hm.r1, hm.r6, ?_, ?_⟩
        · subst hl2; simpa using c2
        · have : ((m.ents.set (upFind m s).1 (repSet (repMark (repPk s r label) m.ents[(upFind m s).1]))).map En.sess) = m.ents.map En.sess := by
            rw [List.map_set, repSet_sess]
            refine List.ext_getElem? fun i => ?_
            rw [List.getElem?_set]
            split
            · rename_i h; subst h; simp [hk]
            · rfl
          simp only [this]
          exact hm.inc
        · intro x hx'
          rcases List.mem_or_eq_of_mem_set hx' with h | h
          · exact hm.en x h
          · subst h; exact hnew
end Go.Proofs.Ythcpckcgjplhiaa

/- Layer 53, plainly: what remains to be reported. -/
namespace Go.Proofs.Ythcpckcgjplhiaa
open Go.Abs
set_option linter.unusedSimpArgs false

def opn (l : List Bool) : Nat := l.countP (fun b => !b)
def remE (x : En) : Nat := opn x.moved + opn x.opened
def rem53 (l : List En) : Nat := (l.map remE).sum

theorem opn_zero {l : List Bool} : opn l = 0 ↔ l.all idB = true := by
  unfold opn
  rw [List.countP_eq_zero, all_idB]
  constructor
  · intro h b hb; simpa using h b hb
  · intro h b hb; simp [h b hb]
theorem opn_set : ∀ {l : List Bool} {r : Nat} (h : r < l.length), l[r] = false → opn (l.set r true) + 1 = opn l
  | b :: l, 0, _, hb => by
    simp only [List.getElem_cons_zero] at hb
    subst hb
    simp [opn]
  | b :: l, r + 1, h, hb => by
    simp only [List.length_cons] at h
    have := opn_set (l := l) (r := r) (by omega) (by simpa using hb)
    simp only [opn, List.set_cons_succ, List.countP_cons] at this ⊢
    omega
theorem rem53_set : ∀ {l : List En} {k : Nat} (h : k < l.length) (y : En), rem53 (l.set k y) + remE l[k] = rem53 l + remE y
  | x :: l, 0, _, y => by simp [rem53]; omega
  | x :: l, k + 1, h, y => by
    simp only [List.length_cons] at h
    have := rem53_set (l := l) (k := k) (by omega) y
    simp only [rem53, List.set_cons_succ, List.map_cons, List.sum_cons, List.getElem_cons_succ] at this ⊢
    omega
theorem rem53_zero {l : List En} : rem53 l = 0 ↔ ∀ x ∈ l, remE x = 0 := by
  induction l with
  | nil => simp [rem53]
  | cons x l ih =>
    have : rem53 (x :: l) = remE x + rem53 l := by simp [rem53]
    rw [this]
    constructor
    · intro h y hy
      rcases List.mem_cons.1 hy with rfl | hy
      · omega
      · exact ih.1 (by omega) y hy
    · intro h
      have h1 := h x (by simp)
      have h2 := ih.2 fun y hy => h y (by simp [hy])
      omega
theorem rem53_append (a b : List En) : rem53 (a ++ b) = rem53 a + rem53 b := by simp [rem53]
theorem rem_newE (r s : Int) : remE (newE r s) = 2 * r.toNat := by simp [remE, opn, newE, List.countP_replicate]; omega

/-- An entry is done where nothing remains. -/
theorem remE_zero {r : Int} {x : En} (h : EnOk r x) : remE x = 0 ↔ x.phase = 3 := by
  have h1 : remE x = 0 ↔ x.moved.all idB = true ∧ x.opened.all idB = true := by
    rw [← opn_zero, ← opn_zero]; unfold remE; omega
  rw [h1, h.ph]
  rcases upPhase_cases x with ⟨h, a, b⟩ | ⟨h, a, b⟩ | ⟨h, a, b⟩ | ⟨h, a, b⟩ <;> rw [h] <;> simp [a, b]

/-- Where something remains, there is an order. -/
theorem enOrd_ne {r : Int} {x : En} (h : EnOk r x) (h0 : remE x ≠ 0) : enOrd x ≠ [] := by
  have hm : (enMarks x).all idB = false := by
    have hp := h.ph
    have hz := h.p0
    have h3 : x.phase ≠ 3 := fun q => h0 ((remE_zero h).2 q)
    rcases upPhase_cases x with ⟨q, a, b⟩ | ⟨q, a, b⟩ | ⟨q, a, b⟩ | ⟨q, a, b⟩
    · omega
    · rw [enMarks, hp, q]; simpa using b
    · omega
    · rw [enMarks, hp, q]; simpa using a
  have : ∃ r, ∃ hr : r < (enMarks x).length, (enMarks x)[r] = false := by
    rw [List.all_eq_false] at hm
    obtain ⟨b, hb, hq⟩ := hm
    obtain ⟨r, hr, rfl⟩ := List.getElem_of_mem hb
    exact ⟨r, hr, by simpa [idB] using hq⟩
  obtain ⟨r, hr, hq⟩ := this
  intro he
  have hmem : ordPk x.sess r (enLabel x) ∈ enOrd x := by
    simp only [enOrd, ordTo, List.mem_flatMap, List.mem_range]
    exact ⟨r, hr, by simp [ordAt, List.getD, hr, hq]⟩
  rw [he] at hmem
  simp at hmem
theorem enOrd_done {r : Int} {x : En} (h : EnOk r x) (h0 : remE x = 0) : enOrd x = [] := by
  have h3 := (remE_zero h).1 h0
  have hx : remE x = 0 := h0
  have ho : x.opened.all idB = true := by rw [← opn_zero]; unfold remE at hx; omega
  have hm : enMarks x = x.opened := by rw [enMarks, h3]; rfl
  rw [List.eq_nil_iff_forall_not_mem]
  intro p hp
  simp only [enOrd, ordTo, List.mem_flatMap, List.mem_range] at hp
  obtain ⟨r, hr, hp⟩ := hp
  have : (enMarks x)[r] = true := all_idB.1 (by rw [hm]; exact ho) _ (List.getElem_mem hr)
  simp [ordAt, List.getD, hr, this] at hp

theorem mem_upOrders {m : Mg} (hm : MW m) {p : Pk} : p ∈ upOrders m ↔ ∃ x ∈ m.ents, p ∈ enOrd x := by
  have hv := upValid_mw.2 hm
  simp only [upOrders, hv, if_true, ordersTo, List.mem_flatMap, List.mem_range]
  constructor
  · rintro ⟨i, hi, hp⟩
    rw [getD_lt hi] at hp
    exact ⟨_, List.getElem_mem hi, hp⟩
  · rintro ⟨x, hx, hp⟩
    obtain ⟨i, hi, rfl⟩ := List.getElem_of_mem hx
    exact ⟨i, hi, by rw [getD_lt hi]; exact hp⟩
theorem orders_nil {m : Mg} (hm : MW m) : upOrders m = [] ↔ rem53 m.ents = 0 := by
  rw [rem53_zero, List.eq_nil_iff_forall_not_mem]
  constructor
  · intro h x hx
    apply Classical.byContradiction
    intro h0
    have := enOrd_ne (hm.en x hx) h0
    obtain ⟨p, hp⟩ := List.exists_mem_of_ne_nil _ this
    exact h p ((mem_upOrders hm).2 ⟨x, hx, hp⟩)
  · intro h p hp
    obtain ⟨x, hx, hp⟩ := (mem_upOrders hm).1 hp
    rw [enOrd_done (hm.en x hx) (h x hx)] at hp
    simp at hp

theorem sess_inj {m : Mg} (hm : MW m) {i j : Nat} (hi : i < m.ents.length) (hj : j < m.ents.length) (h : m.ents[i].sess = m.ents[j].sess) : i = j := by
  have hp := List.pairwise_iff_getElem.1 hm.inc
  rcases Nat.lt_trichotomy i j with hij | hij | hij
  · have := hp i j (by simpa using hi) (by simpa using hj) hij
    simp only [List.getElem_map] at this; omega
  · exact hij
  · have := hp j i (by simpa using hj) (by simpa using hi) hij
    simp only [List.getElem_map] at this; omega
theorem upReport_eq {m : Mg} {s r label : Int} (hm : MW m) (h1 : 1 ≤ s) (h32 : s ≤ 32) (h0 : 0 ≤ r) (hr : r < m.roles) (hl : label = 1 ∨ label = 2) {k : Nat} (hk : k < m.ents.length) (hs : m.ents[k].sess = s) :
    upReport m (repPk s r label) = (if (repMarks (repPk s r label) m.ents[k]).getD r.toNat false then (⟨0, []⟩, 21)
        else if label == 2 && m.ents[k].phase == 1 then (⟨0, []⟩, 7)
        else (⟨m.roles, m.ents.set k (repSet (repMark (repPk s r label) m.ents[k]))⟩, 0)) := by
  have hv := upValid_mw.2 hm
  have hp := repPk_valid h1 h32 h0 (by have := hm.r6; omega) hl
  have hg : (!upValid m || (repPk s r label).kind != 4 || !packetValid (repPk s r label) || decide ((repPk s r label).from_ ≥ m.roles)) = false := by
    rw [hv, hp]; simp [repPk]; omega
  have hf : (upFind m s).2 = true := (upFind_mem hm).2 ⟨_, List.getElem_mem hk, hs⟩
  obtain ⟨hk', hs'⟩ := upFind_yes hf
  have e : (upFind m s).1 = k := sess_inj hm hk' hk (by rw [hs', hs])
  have e1 : (repPk s r label).sess = s := rfl
  have e2 : (repPk s r label).from_ = r := rfl
  have e3 : (repPk s r label).label = label := rfl
  simp only [upReport, hg]
  simp only [e1, e2, e3, hf, e, getD_lt hk]; rfl

/-- What is ordered can be reported. -/
theorem report_order {m : Mg} (hm : MW m) {p : Pk} (hp : p ∈ upOrders m) :
    ∃ m', upReport m (repPk p.sess p.from_ p.label) = (m', 0) ∧ MW m' ∧ m'.roles = m.roles ∧ rem53 m'.ents + 1 = rem53 m.ents ∧ m'.ents.map En.sess = m.ents.map En.sess := by
  obtain ⟨x, hx, hp⟩ := (mem_upOrders hm).1 hp
  obtain ⟨i, hi, rfl⟩ := List.getElem_of_mem hx
  have hx := hm.en _ (List.getElem_mem hi)
  obtain ⟨r, hr, _, rfl⟩ := mem_ordTo hp
  have hro : ((enMarks m.ents[i]).length : Int) = m.roles := by unfold enMarks; split; exact hx.ol; exact hx.ml
  have hq : (enMarks m.ents[i])[r] = false := by
    simp only [enOrd, ordTo, List.mem_flatMap, List.mem_range] at hp
    obtain ⟨r', hr', hp⟩ := hp
    unfold ordAt at hp
    split at hp
    · simp at hp
    · rename_i hb
      simp only [List.mem_singleton, ordPk, Pk.mk.injEq] at hp
      have : r = r' := by omega
      subst this
      simpa [List.getD, hr'] using hb
  have hl : enLabel m.ents[i] = 1 ∨ enLabel m.ents[i] = 2 := by unfold enLabel; split <;> simp
  have hrr : (r : Int) < m.roles := by omega
  have heq := upReport_eq (r := r) (label := enLabel m.ents[i]) hm hx.s1 hx.s32 (by omega) hrr hl hi rfl
  have hmk : repMarks (repPk m.ents[i].sess r (enLabel m.ents[i])) m.ents[i] = enMarks m.ents[i] := by
    unfold repMarks enMarks enLabel repPk
    cases h : m.ents[i].phase != 1 <;> simp
  have hc1 : (repMarks (repPk m.ents[i].sess r (enLabel m.ents[i])) m.ents[i]).getD (r : Int).toNat false = false := by rw [hmk]; simp [List.getD, hr, hq]
  have hc2 : (enLabel m.ents[i] == 2 && m.ents[i].phase == 1) = false := by
    unfold enLabel
    cases h : m.ents[i].phase != 1
    · simp
    · simp only [bne_iff_ne] at h; simp [h]
  rw [hc1, hc2] at heq
  simp only [Bool.false_eq_true, if_false] at heq
  rcases report_cases m m.ents[i].sess r (enLabel m.ents[i]) hm hx.s1 hx.s32 (by omega) hrr hl with hno | ⟨k, hk, hks, _, _, _, heq2, hok, hmw⟩
  · rw [heq] at hno; simp at hno
  · have hki := sess_inj hm hk hi hks
    subst hki
    refine ⟨_, heq2, hmw, rfl, ?_, ?_⟩
    · have h1 := rem53_set hk (repSet (repMark (repPk m.ents[k].sess r (enLabel m.ents[k])) m.ents[k]))
      have h2 : remE (repSet (repMark (repPk m.ents[k].sess r (enLabel m.ents[k])) m.ents[k])) + 1 = remE m.ents[k] := by
        have hs := opn_set hr hq
        unfold repMark repSet remE enLabel repPk
        unfold enMarks at hs hr
        cases h : m.ents[k].phase != 1
        · simp only [h, Bool.false_eq_true, if_false] at hs ⊢
          simp
          omega
        · simp only [h, if_true] at hs ⊢
          simp
          omega
      show rem53 (m.ents.set k _) + 1 = rem53 m.ents
      omega
    · show (m.ents.set k _).map En.sess = _
      rw [List.map_set, repSet_sess]
      refine List.ext_getElem? fun i => ?_
      rw [List.getElem?_set]
      split
      · rename_i h; subst h; simp [hk]
      · rfl
end Go.Proofs.Ythcpckcgjplhiaa

/- The reference's Begin. -/
namespace Go.Proofs.Ythcpckcgjplhiaa
open Go.Abs
set_option linter.unusedSimpArgs false

section
variable {P : Program} {k0 o : Nat} {p : List (Nat × Nat)} {Q : SExit → St → Prop} {st : St}
noncomputable def s55r0 : List SOper := [
  ⟨some 2, .box 2 (.t 0), none⟩,
  ⟨some 4, .alloc 1 [(.d (.int .i64 0)), (.d .nilsl)], none⟩,
  ⟨some 5, .mov (.k (.d (.int .i64 0))), none⟩]
noncomputable def s55r1 : List SOper := [
  ⟨some 8, .load (some 2) (.t 2), none⟩,
  ⟨some 9, .call (.k (.d (.func (.func 60) [] []))) [(.t 8)], none⟩,
  ⟨some 10, .not (.t 9), none⟩]
noncomputable def s55r2 : List SOper := [
  ⟨some 11, .build [(.int .i64 0), .nilsl] [], none⟩,
  ⟨none, .store (some 2) (.t 4) (.t 11), none⟩,
  ⟨some 5, .mov (.k (.d (.int .i64 1))), none⟩]
noncomputable def s55r3 : List SOper := [
  ⟨some 12, .mov (.t 1), none⟩,
  ⟨some 13, .bin .lss (.t 12) (.k (.d (.int .i64 1))), none⟩,
  ⟨some 14, .mov (.t 13), none⟩,
  ⟨some 15, .mov (.t 1), some (14, false)⟩,
  ⟨some 16, .bin .gtr (.t 15) (.k (.d (.int .i64 32))), some (14, false)⟩,
  ⟨some 17, .pick (.t 14) (.k (.d (.bool true))) (.t 16), none⟩]
noncomputable def s55r4 : List SOper := [
  ⟨some 18, .build [(.int .i64 0), .nilsl] [], none⟩,
  ⟨none, .store (some 2) (.t 4) (.t 18), none⟩,
  ⟨some 5, .mov (.k (.d (.int .i64 2))), none⟩]
noncomputable def s55r5 : List SOper := [
  ⟨some 19, .load (some 2) (.t 2), none⟩,
  ⟨some 20, .mov (.t 1), none⟩,
  ⟨some 21, .call (.k (.d (.func (.func 89) [] []))) [(.t 19), (.t 20)], none⟩,
  ⟨some 22, .bin .geq (.t 21) (.k (.d (.int .i64 0))), none⟩]
noncomputable def s55r6 : List SOper := [
  ⟨some 23, .build [(.int .i64 0), .nilsl] [], none⟩,
  ⟨none, .store (some 2) (.t 4) (.t 23), none⟩,
  ⟨some 5, .mov (.k (.d (.int .i64 9))), none⟩]
noncomputable def s55r7 : List SOper := [
  ⟨some 24, .faddr 0 (.t 2), none⟩,
  ⟨some 25, .load none (.t 24), none⟩,
  ⟨some 26, .build [(.int .i64 0), .nilsl] [(0, 1, (.t 25))], none⟩,
  ⟨some 6, .alloc 1 [(.d (.int .i64 0)), (.d .nilsl)], none⟩,
  ⟨none, .store (some 2) (.t 6) (.t 26), none⟩]
noncomputable def s55r8 : List SOper := [
  ⟨some 7, .mov (.k (.d (.int .i64 0))), none⟩]
noncomputable def s55r9 : List SOper := [
  ⟨some 27, .mov (.t 7), none⟩,
  ⟨some 28, .faddr 1 (.t 2), none⟩,
  ⟨some 29, .load none (.t 28), none⟩,
  ⟨some 30, .len (.t 29), none⟩,
  ⟨some 31, .bin .lss (.t 27) (.t 30), none⟩,
  ⟨some 32, .mov (.t 31), none⟩,
  ⟨some 33, .faddr 1 (.t 2), some (32, true)⟩,
  ⟨some 34, .load none (.t 33), some (32, true)⟩,
  ⟨some 35, .mov (.t 7), some (32, true)⟩,
  ⟨some 36, .iaddr 4 (.t 34) (.t 35), some (32, true)⟩,
  ⟨some 37, .faddr 0 (.t 36), some (32, true)⟩,
  ⟨some 38, .load none (.t 37), some (32, true)⟩,
  ⟨some 39, .mov (.t 1), some (32, true)⟩,
  ⟨some 40, .bin .lss (.t 38) (.t 39), some (32, true)⟩,
  ⟨some 41, .pick (.t 32) (.t 40) (.k (.d (.bool false))), none⟩]
noncomputable def s55r10 : List SOper := [
  ⟨some 42, .faddr 1 (.t 6), none⟩,
  ⟨some 43, .load none (.t 42), none⟩,
  ⟨some 44, .faddr 1 (.t 2), none⟩,
  ⟨some 45, .load none (.t 44), none⟩,
  ⟨some 46, .mov (.t 7), none⟩,
  ⟨some 47, .iaddr 4 (.t 45) (.t 46), none⟩,
  ⟨some 48, .load (some 4) (.t 47), none⟩,
  ⟨some 49, .buildSlice false 4 1 [(.int .i64 0), (.int .i64 0), .nilsl, .nilsl] [(0, 4, (.t 48))], none⟩,
  ⟨some 50, .append false 4 64 (.t 43) (.t 49), none⟩,
  ⟨some 51, .faddr 1 (.t 6), none⟩,
  ⟨none, .store none (.t 51) (.t 50), none⟩]
noncomputable def s55r11 : List SOper := [
  ⟨some 52, .mov (.t 7), none⟩,
  ⟨some 53, .bin .add (.t 52) (.k (.d (.int .i64 1))), none⟩,
  ⟨some 7, .mov (.t 53), none⟩]
noncomputable def s55l12 : SCode := (.seq (.seq (.region s55r9 0 []) (.cond (.t 41) .skip (.exit 0))) (.block 1 (.seq (.region s55r10 0 []) (.region s55r11 0 []))))
theorem e55l12 : AWp P k0 s55l12 Q st = AWp P k0 (.seq (.seq (.region s55r9 0 []) (.cond (.t 41) .skip (.exit 0))) (.block 1 (.seq (.region s55r10 0 []) (.region s55r11 0 [])))) Q st := rfl
noncomputable def s55r13 : List SOper := [
  ⟨some 54, .faddr 1 (.t 6), none⟩,
  ⟨some 55, .load none (.t 54), none⟩,
  ⟨some 56, .mov (.t 1), none⟩,
  ⟨some 57, .faddr 0 (.t 2), none⟩,
  ⟨some 58, .load none (.t 57), none⟩,
  ⟨some 59, .makeSlice false 1 1 [(.bool false)] (.t 58) (.t 58), none⟩,
  ⟨some 60, .faddr 0 (.t 2), none⟩,
  ⟨some 61, .load none (.t 60), none⟩,
  ⟨some 62, .makeSlice false 1 1 [(.bool false)] (.t 61) (.t 61), none⟩,
  ⟨some 63, .build [(.int .i64 0), (.int .i64 0), .nilsl, .nilsl] [(0, 1, (.t 56)), (1, 1, (.k (.d (.int .i64 1)))), (2, 1, (.t 59)), (3, 1, (.t 62))], none⟩,
  ⟨some 64, .buildSlice false 4 1 [(.int .i64 0), (.int .i64 0), .nilsl, .nilsl] [(0, 4, (.t 63))], none⟩,
  ⟨some 65, .append false 4 64 (.t 55) (.t 64), none⟩,
  ⟨some 66, .faddr 1 (.t 6), none⟩,
  ⟨none, .store none (.t 66) (.t 65), none⟩]
noncomputable def s55r14 : List SOper := [
  ⟨some 67, .faddr 1 (.t 6), none⟩,
  ⟨some 68, .load none (.t 67), none⟩,
  ⟨some 69, .faddr 1 (.t 2), none⟩,
  ⟨some 70, .load none (.t 69), none⟩,
  ⟨some 71, .mov (.t 7), none⟩,
  ⟨some 72, .slice 4 (.t 70) (some (.t 71)) none none, none⟩,
  ⟨some 73, .append false 4 64 (.t 68) (.t 72), none⟩,
  ⟨some 74, .faddr 1 (.t 6), none⟩,
  ⟨none, .store none (.t 74) (.t 73), none⟩]
noncomputable def s55r15 : List SOper := [
  ⟨some 75, .load (some 2) (.t 6), none⟩,
  ⟨none, .store (some 2) (.t 4) (.t 75), none⟩,
  ⟨some 5, .mov (.k (.d (.int .i64 0))), none⟩]
noncomputable def s55 : SCode := (.seq (.region s55r0 2 []) (.seq (.seq (.region s55r1 0 []) (.cond (.t 10) (.seq (.region s55r2 0 []) .ret) .skip)) (.seq (.seq (.region s55r3 0 []) (.cond (.t 17) (.seq (.region s55r4 0 []) .ret) .skip)) (.seq (.seq (.region s55r5 0 []) (.cond (.t 22) (.seq (.region s55r6 0 []) .ret) .skip)) (.seq (.region s55r7 1 []) (.seq (.region s55r8 0 []) (.seq (.block 0 (.loop s55l12)) (.seq (.region s55r13 0 []) (.seq (.region s55r14 0 []) (.seq (.region s55r15 0 []) .ret))))))))))
theorem e55 : AWp P k0 s55 Q st = AWp P k0 (.seq (.region s55r0 2 []) (.seq (.seq (.region s55r1 0 []) (.cond (.t 10) (.seq (.region s55r2 0 []) .ret) .skip)) (.seq (.seq (.region s55r3 0 []) (.cond (.t 17) (.seq (.region s55r4 0 []) .ret) .skip)) (.seq (.seq (.region s55r5 0 []) (.cond (.t 22) (.seq (.region s55r6 0 []) .ret) .skip)) (.seq (.region s55r7 1 []) (.seq (.region s55r8 0 []) (.seq (.block 0 (.loop s55l12)) (.seq (.region s55r13 0 []) (.seq (.region s55r14 0 []) (.seq (.region s55r15 0 []) .ret)))))))))) Q st := rfl
theorem u55r0 : goReg P s55r0 o p Q st = goLit P (litOf s55r0.eq_1) o p Q st := goReg_of _
theorem u55r1 : goReg P s55r1 o p Q st = goLit P (litOf s55r1.eq_1) o p Q st := goReg_of _
theorem u55r2 : goReg P s55r2 o p Q st = goLit P (litOf s55r2.eq_1) o p Q st := goReg_of _
theorem u55r3 : goReg P s55r3 o p Q st = goLit P (litOf s55r3.eq_1) o p Q st := goReg_of _
theorem u55r4 : goReg P s55r4 o p Q st = goLit P (litOf s55r4.eq_1) o p Q st := goReg_of _
theorem u55r5 : goReg P s55r5 o p Q st = goLit P (litOf s55r5.eq_1) o p Q st := goReg_of _
theorem u55r6 : goReg P s55r6 o p Q st = goLit P (litOf s55r6.eq_1) o p Q st := goReg_of _
theorem u55r7 : goReg P s55r7 o p Q st = goLit P (litOf s55r7.eq_1) o p Q st := goReg_of _
theorem u55r8 : goReg P s55r8 o p Q st = goLit P (litOf s55r8.eq_1) o p Q st := goReg_of _
theorem u55r9 : goReg P s55r9 o p Q st = goLit P (litOf s55r9.eq_1) o p Q st := goReg_of _
theorem u55r10 : goReg P s55r10 o p Q st = goLit P (litOf s55r10.eq_1) o p Q st := goReg_of _
theorem u55r11 : goReg P s55r11 o p Q st = goLit P (litOf s55r11.eq_1) o p Q st := goReg_of _
theorem u55r13 : goReg P s55r13 o p Q st = goLit P (litOf s55r13.eq_1) o p Q st := goReg_of _
theorem u55r14 : goReg P s55r14 o p Q st = goLit P (litOf s55r14.eq_1) o p Q st := goReg_of _
theorem u55r15 : goReg P s55r15 o p Q st = goLit P (litOf s55r15.eq_1) o p Q st := goReg_of _
attribute [go_sem] u55r0 u55r1 u55r2 u55r3 u55r4 u55r5 u55r6 u55r7 u55r8 u55r9 u55r10 u55r11 e55l12 u55r13 u55r14 u55r15 e55
set_option maxRecDepth 100000 in
theorem F55 : FnIs Try.prog 55 Try.f55 [] news s55 [.cell 4 (some 2), .tmp 5] 76 := ⟨follows, Try.func55, by kernel_rfl, by kernel_rfl, by kernel_rfl, by kernel_rfl⟩

end

theorem index_any {m : Mg} {s : Int} (hm : MW m) : m.ents.any (fun x => x.sess == s) = (upFind m s).2 := by
  rw [Bool.eq_iff_iff, upFind_mem hm, List.any_eq_true]
  constructor
  · rintro ⟨x, hx, h⟩; exact ⟨x, hx, by simpa using h⟩
  · rintro ⟨x, hx, h⟩; exact ⟨x, hx, by simpa using h⟩

theorem upFind_at {m : Mg} {s : Int} {i : Nat} (hi : i ≤ m.ents.length) (h1 : (m.ents.take i).any (fun x => decide (x.sess ≥ s)) = false) (h2 : ∀ h : i < m.ents.length, s ≤ m.ents[i].sess) : (upFind m s).1 = i := by
  rcases Nat.lt_or_ge i m.ents.length with h | h
  · have hx := idx_some (f := fun x : En => decide (x.sess ≥ s)) h1 h (by simpa using h2 h)
    have ha : m.ents.any (fun x => decide (x.sess ≥ s)) = true := any_yes h (by simpa using h2 h)
    have := (idx_any ha).1
    simp only [upFind, ha, if_true]
    omega
  · have : i = m.ents.length := by omega
    subst this
    rw [List.take_length] at h1
    simp [upFind, h1]

def SrB (m : Mg) (s : Int) (i : { i : Nat // i ≤ m.ents.length ∧ (m.ents.take i).any (fun x => decide (x.sess ≥ s)) = false }) : St :=
  ⟨[(1, true, .d (.int .i64 s)), (2, true, .d (.ptr 0 0)), (4, true, .d (.ptr 1 0)), (5, true, .d (.int .i64 0)), (6, true, .d (.ptr 2 0)), (7, true, .d (.int .i64 (i.val : Nat)))],
   [mgObj m, .row [.d (.int .i64 0), .d .nilsl], .row [.d (.int .i64 m.roles), .own 0 4 ((m.ents.take i.val).map encEn)]], [0], 1⟩

set_option maxRecDepth 10000 in
theorem refBegin_ok (m : Mg) (s : Int) (sm : m.Sm) : ACall Try.prog 55 [.d (.agg (encMg m)), .d (.int .i64 s)] [] (.tup [.d (.agg (encMg (upBegin m s).1)), .d (.int .i64 (upBegin m s).2)]) [] := by
  have hl := sm.1
  refine F55.goT ?_
  try simp only [encMg, go_sem, Nat.reduceAdd, Nat.reduceMul, Nat.reduceSub, Nat.reduceEqDiff, Nat.reduceLT, Nat.reduceLeDiff, Nat.reduceBEq, reduceIte, reduceCtorEq, Int.reduceAdd, Int.reduceLT, Int.reduceLE, Int.reduceGT, Int.reduceGE, Int.reduceEq, Int.reduceNe, Int.reduceBEq, Int.reduceBNe, Int.reduceToNat, Int.reduceNeg]
  (repeat (with_reducible refine ob ?_)); first | refine cl F60 (valid53_ok m sm) ?_ | refine clF F60 (valid53_ok m sm) (fun _ => by simp only [encEn, encMg, go_sem, Nat.reduceAdd, Nat.reduceMul, Nat.reduceSub, Nat.reduceEqDiff, Nat.reduceLT, Nat.reduceLeDiff, Nat.reduceBEq, reduceIte, reduceCtorEq, Int.reduceAdd, Int.reduceLT, Int.reduceLE, Int.reduceGT, Int.reduceGE, Int.reduceEq, Int.reduceNe, Int.reduceBEq, Int.reduceBNe, Int.reduceToNat, Int.reduceNeg]) ?_
  try (refine ev ?_; try exact True.intro)
  (repeat (with_reducible refine ob ?_)); refine iff_ _ (fun h => ?_) (fun h => ?_)
  · have hb : upBegin m s = (⟨0, []⟩, 1) := by simp only [upBegin, h, if_true]
    try simp only [hb, List.map_nil, go_sem, Nat.reduceAdd, Nat.reduceMul, Nat.reduceSub, Nat.reduceEqDiff, Nat.reduceLT, Nat.reduceLeDiff, Nat.reduceBEq, reduceIte, reduceCtorEq, Int.reduceAdd, Int.reduceLT, Int.reduceLE, Int.reduceGT, Int.reduceGE, Int.reduceEq, Int.reduceNe, Int.reduceBEq, Int.reduceBNe, Int.reduceToNat, Int.reduceNeg]
  have hv : upValid m = true := by simpa using h
  have hm := upValid_mw.1 hv
  obtain ⟨hr1, hr2⟩ := upValid_roles hv
  try (refine ev ?_; try exact True.intro)
  (repeat (with_reducible refine ob ?_)); refine iff_ _ (fun h => ?_) (fun h => ?_)
  · have hb : upBegin m s = (⟨0, []⟩, 2) := by simp only [upBegin, hv, h]; rfl
    try simp only [hb, List.map_nil, go_sem, Nat.reduceAdd, Nat.reduceMul, Nat.reduceSub, Nat.reduceEqDiff, Nat.reduceLT, Nat.reduceLeDiff, Nat.reduceBEq, reduceIte, reduceCtorEq, Int.reduceAdd, Int.reduceLT, Int.reduceLE, Int.reduceGT, Int.reduceGE, Int.reduceEq, Int.reduceNe, Int.reduceBEq, Int.reduceBNe, Int.reduceToNat, Int.reduceNeg]
  have hs := h
  try (refine ev ?_; try exact True.intro)
  (repeat (with_reducible refine ob ?_)); first | refine cl F89 (index53_ok m s sm) ?_ | refine clF F89 (index53_ok m s sm) (fun _ => by simp only [encEn, encMg, go_sem, Nat.reduceAdd, Nat.reduceMul, Nat.reduceSub, Nat.reduceEqDiff, Nat.reduceLT, Nat.reduceLeDiff, Nat.reduceBEq, reduceIte, reduceCtorEq, Int.reduceAdd, Int.reduceLT, Int.reduceLE, Int.reduceGT, Int.reduceGE, Int.reduceEq, Int.reduceNe, Int.reduceBEq, Int.reduceBNe, Int.reduceToNat, Int.reduceNeg]) ?_
  try simp only [idx_ge, index_any hm, go_sem, Nat.reduceAdd, Nat.reduceMul, Nat.reduceSub, Nat.reduceEqDiff, Nat.reduceLT, Nat.reduceLeDiff, Nat.reduceBEq, reduceIte, reduceCtorEq, Int.reduceAdd, Int.reduceLT, Int.reduceLE, Int.reduceGT, Int.reduceGE, Int.reduceEq, Int.reduceNe, Int.reduceBEq, Int.reduceBNe, Int.reduceToNat, Int.reduceNeg]
  (repeat (with_reducible refine ob ?_)); refine iff_ _ (fun h => ?_) (fun h => ?_)
  · have hb : upBegin m s = (⟨0, []⟩, 9) := by simp only [upBegin, hv, hs, h]; simp
    try simp only [hb, List.map_nil, go_sem, Nat.reduceAdd, Nat.reduceMul, Nat.reduceSub, Nat.reduceEqDiff, Nat.reduceLT, Nat.reduceLeDiff, Nat.reduceBEq, reduceIte, reduceCtorEq, Int.reduceAdd, Int.reduceLT, Int.reduceLE, Int.reduceGT, Int.reduceGE, Int.reduceEq, Int.reduceNe, Int.reduceBEq, Int.reduceBNe, Int.reduceToNat, Int.reduceNeg]
  have hf := h
  try (refine ev ?_; try exact True.intro)
  refine AWp_loop (SrB m s) (fun i => m.ents.length - i.val) ⟨0, Nat.zero_le _, rfl⟩ ?_ (fun i => ?_)
  · try simp only [SrB, mgObj, List.take_zero, List.map_nil, go_sem, Nat.reduceAdd, Nat.reduceMul, Nat.reduceSub, Nat.reduceEqDiff, Nat.reduceLT, Nat.reduceLeDiff, Nat.reduceBEq, reduceIte, reduceCtorEq, Int.reduceAdd, Int.reduceLT, Int.reduceLE, Int.reduceGT, Int.reduceGE, Int.reduceEq, Int.reduceNe, Int.reduceBEq, Int.reduceBNe, Int.reduceToNat, Int.reduceNeg]
  obtain ⟨i, hi, hlt⟩ := i
  try simp only [SrB, mgObj, go_sem, Nat.reduceAdd, Nat.reduceMul, Nat.reduceSub, Nat.reduceEqDiff, Nat.reduceLT, Nat.reduceLeDiff, Nat.reduceBEq, reduceIte, reduceCtorEq, Int.reduceAdd, Int.reduceLT, Int.reduceLE, Int.reduceGT, Int.reduceGE, Int.reduceEq, Int.reduceNe, Int.reduceBEq, Int.reduceBNe, Int.reduceToNat, Int.reduceNeg]
  have fin : (∀ h : i < m.ents.length, s ≤ m.ents[i].sess) → upBegin m s = (⟨m.roles, m.ents.take i ++ [newE m.roles s] ++ m.ents.drop i⟩, 0) := fun hge => by
    have hi' := upFind_at hi hlt hge
    simp only [upBegin, hv, hs, hf, hi']; rfl
  have hti : (m.ents.take i).length ≤ 1000 := by rw [List.length_take]; omega
  rcases Nat.lt_or_ge i m.ents.length with hil | hil
  · have hd : decide ((i : Int) < (m.ents.length : Int)) = true := by simpa using hil
    simp only [getD_map encEn m.ents hil, encEn, hd, go_sem, Nat.reduceAdd, Nat.reduceMul, Nat.reduceSub, Nat.reduceEqDiff, Nat.reduceLT, Nat.reduceLeDiff, Nat.reduceBEq, reduceIte, reduceCtorEq, Int.reduceAdd, Int.reduceLT, Int.reduceLE, Int.reduceGT, Int.reduceGE, Int.reduceEq, Int.reduceNe, Int.reduceBEq, Int.reduceBNe, Int.reduceToNat, Int.reduceNeg]
    (repeat (with_reducible refine ob ?_))
    try simp only [hd, go_sem, Nat.reduceAdd, Nat.reduceMul, Nat.reduceSub, Nat.reduceEqDiff, Nat.reduceLT, Nat.reduceLeDiff, Nat.reduceBEq, reduceIte, reduceCtorEq, Int.reduceAdd, Int.reduceLT, Int.reduceLE, Int.reduceGT, Int.reduceGE, Int.reduceEq, Int.reduceNe, Int.reduceBEq, Int.reduceBNe, Int.reduceToNat, Int.reduceNeg]
    refine iff_ _ (fun h => ?_) (fun h => ?_)
    · try simp only [getD_map encEn m.ents hil, encEn, go_sem, Nat.reduceAdd, Nat.reduceMul, Nat.reduceSub, Nat.reduceEqDiff, Nat.reduceLT, Nat.reduceLeDiff, Nat.reduceBEq, reduceIte, reduceCtorEq, Int.reduceAdd, Int.reduceLT, Int.reduceLE, Int.reduceGT, Int.reduceGE, Int.reduceEq, Int.reduceNe, Int.reduceBEq, Int.reduceBNe, Int.reduceToNat, Int.reduceNeg]
      (repeat (with_reducible refine ob ?_))
      try simp only [getD_map encEn m.ents hil, encEn, go_sem, Nat.reduceAdd, Nat.reduceMul, Nat.reduceSub, Nat.reduceEqDiff, Nat.reduceLT, Nat.reduceLeDiff, Nat.reduceBEq, reduceIte, reduceCtorEq, Int.reduceAdd, Int.reduceLT, Int.reduceLE, Int.reduceGT, Int.reduceGE, Int.reduceEq, Int.reduceNe, Int.reduceBEq, Int.reduceBNe, Int.reduceToNat, Int.reduceNeg]
      (repeat (with_reducible refine ob ?_))
      refine ⟨⟨i + 1, hil, take_any_succ hlt hil (by simp at h ⊢; omega)⟩, ?_, by dsimp only; omega⟩
      try simp only [SrB, mgObj, map_take_succ encEn m.ents hil, encEn, wrap_succ (show i < 9223372036854775807 by omega), go_sem, Nat.reduceAdd, Nat.reduceMul, Nat.reduceSub, Nat.reduceEqDiff, Nat.reduceLT, Nat.reduceLeDiff, Nat.reduceBEq, reduceIte, reduceCtorEq, Int.reduceAdd, Int.reduceLT, Int.reduceLE, Int.reduceGT, Int.reduceGE, Int.reduceEq, Int.reduceNe, Int.reduceBEq, Int.reduceBNe, Int.reduceToNat, Int.reduceNeg]
    · have hb := fin fun _ => by simp at h; omega
      try (refine ev ?_; try exact True.intro)
      (repeat (with_reducible refine ob ?_))
      have htk : List.take (m.ents.length - i) (List.drop i (List.map encEn m.ents)) = (m.ents.drop i).map encEn := by rw [← List.map_drop, List.take_of_length_le (by simp)]
      have hnw : encEn (newE m.roles s) = [.int .i64 s, .int .i64 1, .sl 1 (List.replicate m.roles.toNat [.bool false]), .sl 1 (List.replicate m.roles.toNat [.bool false])] := by simp only [encEn, newE, List.map_replicate, encB]
      try simp only [hb, htk, ← hnw, List.map_append, List.map_cons, List.map_nil, go_sem, Nat.reduceAdd, Nat.reduceMul, Nat.reduceSub, Nat.reduceEqDiff, Nat.reduceLT, Nat.reduceLeDiff, Nat.reduceBEq, reduceIte, reduceCtorEq, Int.reduceAdd, Int.reduceLT, Int.reduceLE, Int.reduceGT, Int.reduceGE, Int.reduceEq, Int.reduceNe, Int.reduceBEq, Int.reduceBNe, Int.reduceToNat, Int.reduceNeg]
  · have hie : i = m.ents.length := by omega
    have hd : decide ((i : Int) < (m.ents.length : Int)) = false := by simp; omega
    have hgd : (List.map encEn m.ents).getD i [] = [] := by simp [List.getD, hie]
    try simp only [hd, hgd, go_sem, Nat.reduceAdd, Nat.reduceMul, Nat.reduceSub, Nat.reduceEqDiff, Nat.reduceLT, Nat.reduceLeDiff, Nat.reduceBEq, reduceIte, reduceCtorEq, Int.reduceAdd, Int.reduceLT, Int.reduceLE, Int.reduceGT, Int.reduceGE, Int.reduceEq, Int.reduceNe, Int.reduceBEq, Int.reduceBNe, Int.reduceToNat, Int.reduceNeg]
    (repeat (with_reducible refine ob ?_))
    try simp only [hd, hgd, List.getD_nil, go_sem, Nat.reduceAdd, Nat.reduceMul, Nat.reduceSub, Nat.reduceEqDiff, Nat.reduceLT, Nat.reduceLeDiff, Nat.reduceBEq, reduceIte, reduceCtorEq, Int.reduceAdd, Int.reduceLT, Int.reduceLE, Int.reduceGT, Int.reduceGE, Int.reduceEq, Int.reduceNe, Int.reduceBEq, Int.reduceBNe, Int.reduceToNat, Int.reduceNeg]
    (repeat (with_reducible refine ob ?_)); refine no_ ?_
    have hb := fin fun h => by omega
    try (refine ev ?_; try exact True.intro)
    (repeat (with_reducible refine ob ?_))
    have htk : List.take (m.ents.length - i) (List.drop i (List.map encEn m.ents)) = (m.ents.drop i).map encEn := by rw [← List.map_drop, List.take_of_length_le (by simp)]
    have hnw : encEn (newE m.roles s) = [.int .i64 s, .int .i64 1, .sl 1 (List.replicate m.roles.toNat [.bool false]), .sl 1 (List.replicate m.roles.toNat [.bool false])] := by simp only [encEn, newE, List.map_replicate, encB]
    try simp only [hb, htk, ← hnw, List.map_append, List.map_cons, List.map_nil, go_sem, Nat.reduceAdd, Nat.reduceMul, Nat.reduceSub, Nat.reduceEqDiff, Nat.reduceLT, Nat.reduceLeDiff, Nat.reduceBEq, reduceIte, reduceCtorEq, Int.reduceAdd, Int.reduceLT, Int.reduceLE, Int.reduceGT, Int.reduceGE, Int.reduceEq, Int.reduceNe, Int.reduceBEq, Int.reduceBNe, Int.reduceToNat, Int.reduceNeg]

section
variable {P : Program} {k0 o : Nat} {p : List (Nat × Nat)} {Q : SExit → St → Prop} {st : St}
noncomputable def s90ur0 : List SOper := [
  ⟨some 4, .mov (.k (.d .nilsl)), none⟩]
noncomputable def s90ur1 : List SOper := [
  ⟨some 6, .buildSlice false 1 0 [(.bool false)] [], none⟩,
  ⟨some 7, .mov (.t 0), none⟩,
  ⟨some 8, .append true 1 1 (.t 6) (.t 7), none⟩,
  ⟨some 5, .mov (.t 8), none⟩]
noncomputable def s90ur2 : List SOper := [
  ⟨some 9, .mov (.t 5), none⟩,
  ⟨some 10, .mov (.t 1), none⟩,
  ⟨some 11, .iaddr 1 (.t 9) (.t 10), none⟩,
  ⟨none, .store none (.t 11) (.k (.d (.bool true))), none⟩]
noncomputable def s90ur3 : List SOper := [
  ⟨some 12, .mov (.t 5), none⟩,
  ⟨some 4, .mov (.t 12), none⟩]
noncomputable def s90u : SCode := (.seq (.region s90ur0 0 []) (.seq (.region s90ur1 0 []) (.seq (.pause (.region s90ur2 0 [])) (.seq (.region s90ur3 0 []) (.pause .ret)))))
theorem e90u : AWp P k0 s90u Q st = AWp P k0 (.seq (.region s90ur0 0 []) (.seq (.region s90ur1 0 []) (.seq (.pause (.region s90ur2 0 [])) (.seq (.region s90ur3 0 []) (.pause .ret))))) Q st := rfl
theorem u90ur0 : goReg P s90ur0 o p Q st = goLit P (litOf s90ur0.eq_1) o p Q st := goReg_of _
theorem u90ur1 : goReg P s90ur1 o p Q st = goLit P (litOf s90ur1.eq_1) o p Q st := goReg_of _
theorem u90ur2 : goReg P s90ur2 o p Q st = goLit P (litOf s90ur2.eq_1) o p Q st := goReg_of _
theorem u90ur3 : goReg P s90ur3 o p Q st = goLit P (litOf s90ur3.eq_1) o p Q st := goReg_of _
attribute [go_sem] u90ur0 u90ur1 u90ur2 u90ur3 e90u
set_option maxRecDepth 100000 in
theorem F90u : FnIs Try.prog 90 Try.f90 [8] news s90u [.tmp 4] 13 := ⟨follows, Try.func90, by kernel_rfl, by kernel_rfl, by kernel_rfl, by kernel_rfl⟩

end

theorem marked_ok (l : List Bool) (k : Int) (hl : l.length ≤ 1000) (h0 : 0 ≤ k) (hk : k < l.length) : ACall Try.prog 90 [.d (.sl 1 (l.map encB)), .d (.int .i64 k)] [] (.d (.sl 1 ((l.set k.toNat true).map encB))) [] := by
  refine F90u.go ?_
  try (refine ev ?_; try exact True.intro)
  (repeat (with_reducible refine ob ?_))
  refine pu_u2o (.fr 5) 64 1 (l.map encB) ?_
  refine pu ?_
  try (refine ev ?_; try exact True.intro)
  (repeat (with_reducible refine ob ?_))
  try simp only [Nat.mul_one, bits_set, go_sem, Nat.reduceAdd, Nat.reduceMul, Nat.reduceSub, Nat.reduceEqDiff, Nat.reduceLT, Nat.reduceLeDiff, Nat.reduceBEq, reduceIte, reduceCtorEq, Int.reduceAdd, Int.reduceLT, Int.reduceLE, Int.reduceGT, Int.reduceGE, Int.reduceEq, Int.reduceNe, Int.reduceBEq, Int.reduceBNe, Int.reduceToNat, Int.reduceNeg]
  refine pu_frz 0 1 ((l.set k.toNat true).map encB) ?_ (bits_cellD _) (bits_all _) (bits_len _) (D.okWR_noPtr (noPtrR_B _))
  refine pu ?_
  try simp only [List.length_set, List.length_map, go_sem, Nat.reduceAdd, Nat.reduceMul, Nat.reduceSub, Nat.reduceEqDiff, Nat.reduceLT, Nat.reduceLeDiff, Nat.reduceBEq, reduceIte, reduceCtorEq, Int.reduceAdd, Int.reduceLT, Int.reduceLE, Int.reduceGT, Int.reduceGE, Int.reduceEq, Int.reduceNe, Int.reduceBEq, Int.reduceBNe, Int.reduceToNat, Int.reduceNeg]
end Go.Proofs.Ythcpckcgjplhiaa

/- UpgradeReport, plainly: the reference's test of a report. -/
namespace Go.Proofs.Ythcpckcgjplhiaa
open Go.Abs
set_option linter.unusedSimpArgs false

section
variable {P : Program} {k0 o : Nat} {p : List (Nat × Nat)} {Q : SExit → St → Prop} {st : St}
noncomputable def s10r0 : List SOper := [
  ⟨some 3, .box 3 (.t 0), none⟩,
  ⟨some 4, .box 2 (.t 1), none⟩,
  ⟨some 5, .box 1 (.t 2), none⟩,
  ⟨some 6, .mov (.k (.d (.bool false))), none⟩]
noncomputable def s10r1 : List SOper := [
  ⟨some 19, .call (.k (.d (.func (.func 41) [] []))) [], none⟩,
  ⟨some 20, .not (.t 19), none⟩]
noncomputable def s10r2 : List SOper := [
  ⟨some 6, .mov (.k (.d (.bool false))), none⟩]
noncomputable def s10r3 : List SOper := [
  ⟨some 21, .load (some 2) (.t 3), none⟩,
  ⟨some 22, .call (.k (.d (.func (.func 42) [] []))) [(.t 21)], none⟩,
  ⟨some 23, .not (.t 22), none⟩,
  ⟨some 24, .mov (.t 23), none⟩,
  ⟨some 25, .load (some 2) (.t 4), some (24, false)⟩,
  ⟨some 26, .call (.k (.d (.func (.func 42) [] []))) [(.t 25)], some (24, false)⟩,
  ⟨some 27, .not (.t 26), some (24, false)⟩,
  ⟨some 28, .pick (.t 24) (.k (.d (.bool true))) (.t 27), none⟩,
  ⟨some 29, .mov (.t 28), none⟩,
  ⟨some 30, .load (some 9) (.t 5), some (29, false)⟩,
  ⟨some 31, .call (.k (.d (.func (.func 37) [] []))) [(.t 30)], some (29, false)⟩,
  ⟨some 32, .not (.t 31), some (29, false)⟩,
  ⟨some 33, .pick (.t 29) (.k (.d (.bool true))) (.t 32), none⟩]
noncomputable def s10r4 : List SOper := [
  ⟨some 6, .mov (.k (.d (.bool true))), none⟩]
noncomputable def s10r5 : List SOper := [
  ⟨some 35, .load (some 2) (.t 3), none⟩,
  ⟨some 36, .call (.k (.d (.func (.func 44) [] []))) [(.t 35)], none⟩,
  ⟨some 37, .load (some 9) (.t 5), none⟩,
  ⟨some 38, .call (.k (.d (.func (.func 52) [] []))) [(.t 36), (.t 37)], none⟩,
  ⟨some 34, .mov (.t 38), none⟩,
  ⟨some 39, .extract 0 (.t 34), none⟩,
  ⟨some 40, .extract 1 (.t 34), none⟩,
  ⟨some 7, .alloc 1 [(.d (.int .i64 0)), (.d .nilsl)], none⟩,
  ⟨none, .store (some 2) (.t 7) (.t 39), none⟩,
  ⟨some 8, .mov (.t 40), none⟩]
noncomputable def s10r6 : List SOper := [
  ⟨some 42, .load (some 2) (.t 3), none⟩,
  ⟨some 43, .load (some 9) (.t 5), none⟩,
  ⟨some 44, .call (.k (.d (.func (.func 54) [] []))) [(.t 42), (.t 43)], none⟩,
  ⟨some 41, .mov (.t 44), none⟩,
  ⟨some 45, .extract 0 (.t 41), none⟩,
  ⟨some 46, .extract 1 (.t 41), none⟩,
  ⟨some 9, .alloc 1 [(.d (.int .i64 0)), (.d .nilsl)], none⟩,
  ⟨none, .store (some 2) (.t 9) (.t 45), none⟩,
  ⟨some 10, .mov (.t 46), none⟩]
noncomputable def s10r7 : List SOper := [
  ⟨some 48, .load (some 2) (.t 3), none⟩,
  ⟨some 49, .call (.k (.d (.func (.func 44) [] []))) [(.t 48)], none⟩,
  ⟨some 50, .faddr 1 (.t 5), none⟩,
  ⟨some 51, .load none (.t 50), none⟩,
  ⟨some 52, .call (.k (.d (.func (.func 51) [] []))) [(.t 49), (.t 51)], none⟩,
  ⟨some 47, .mov (.t 52), none⟩,
  ⟨some 53, .extract 0 (.t 47), none⟩,
  ⟨some 54, .extract 1 (.t 47), none⟩,
  ⟨some 11, .alloc 1 [(.d (.int .i64 0)), (.d .nilsl)], none⟩,
  ⟨none, .store (some 2) (.t 11) (.t 53), none⟩,
  ⟨some 12, .mov (.t 54), none⟩]
noncomputable def s10r8 : List SOper := [
  ⟨some 56, .load (some 2) (.t 3), none⟩,
  ⟨some 57, .faddr 1 (.t 5), none⟩,
  ⟨some 58, .load none (.t 57), none⟩,
  ⟨some 59, .call (.k (.d (.func (.func 55) [] []))) [(.t 56), (.t 58)], none⟩,
  ⟨some 55, .mov (.t 59), none⟩,
  ⟨some 60, .extract 0 (.t 55), none⟩,
  ⟨some 61, .extract 1 (.t 55), none⟩,
  ⟨some 13, .alloc 1 [(.d (.int .i64 0)), (.d .nilsl)], none⟩,
  ⟨none, .store (some 2) (.t 13) (.t 60), none⟩,
  ⟨some 14, .mov (.t 61), none⟩]
noncomputable def s10r9 : List SOper := [
  ⟨some 63, .faddr 3 (.t 5), none⟩,
  ⟨some 64, .load none (.t 63), none⟩,
  ⟨some 65, .call (.k (.d (.func (.func 48) [] []))) [(.t 64)], none⟩,
  ⟨some 62, .mov (.t 65), none⟩,
  ⟨some 66, .extract 0 (.t 62), none⟩,
  ⟨some 67, .extract 1 (.t 62), none⟩,
  ⟨some 15, .alloc 1 [(.d (.int .i64 0)), (.d .nilsl)], none⟩,
  ⟨none, .store (some 2) (.t 15) (.t 66), none⟩,
  ⟨some 16, .mov (.t 67), none⟩]
noncomputable def s10r10 : List SOper := [
  ⟨some 69, .faddr 3 (.t 5), none⟩,
  ⟨some 70, .load none (.t 69), none⟩,
  ⟨some 71, .call (.k (.d (.func (.func 56) [] []))) [(.t 70)], none⟩,
  ⟨some 68, .mov (.t 71), none⟩,
  ⟨some 72, .extract 0 (.t 68), none⟩,
  ⟨some 73, .extract 1 (.t 68), none⟩,
  ⟨some 17, .alloc 1 [(.d (.int .i64 0)), (.d .nilsl)], none⟩,
  ⟨none, .store (some 2) (.t 17) (.t 72), none⟩,
  ⟨some 18, .mov (.t 73), none⟩]
noncomputable def s10r11 : List SOper := [
  ⟨some 74, .mov (.t 8), none⟩,
  ⟨some 75, .mov (.t 10), none⟩,
  ⟨some 76, .bin .neq (.t 74) (.t 75), none⟩,
  ⟨some 77, .mov (.t 76), none⟩,
  ⟨some 78, .load (some 2) (.t 7), some (77, false)⟩,
  ⟨some 79, .call (.k (.d (.func (.func 58) [] []))) [(.t 78)], some (77, false)⟩,
  ⟨some 80, .load (some 2) (.t 9), some (77, false)⟩,
  ⟨some 81, .call (.k (.d (.func (.func 57) [] []))) [(.t 79), (.t 80)], some (77, false)⟩,
  ⟨some 82, .not (.t 81), some (77, false)⟩,
  ⟨some 83, .pick (.t 77) (.k (.d (.bool true))) (.t 82), none⟩,
  ⟨some 84, .mov (.t 83), none⟩,
  ⟨some 85, .mov (.t 12), some (84, false)⟩,
  ⟨some 86, .mov (.t 14), some (84, false)⟩,
  ⟨some 87, .bin .neq (.t 85) (.t 86), some (84, false)⟩,
  ⟨some 88, .pick (.t 84) (.k (.d (.bool true))) (.t 87), none⟩,
  ⟨some 89, .mov (.t 88), none⟩,
  ⟨some 90, .load (some 2) (.t 11), some (89, false)⟩,
  ⟨some 91, .call (.k (.d (.func (.func 58) [] []))) [(.t 90)], some (89, false)⟩,
  ⟨some 92, .load (some 2) (.t 13), some (89, false)⟩,
  ⟨some 93, .call (.k (.d (.func (.func 57) [] []))) [(.t 91), (.t 92)], some (89, false)⟩,
  ⟨some 94, .not (.t 93), some (89, false)⟩,
  ⟨some 95, .pick (.t 89) (.k (.d (.bool true))) (.t 94), none⟩,
  ⟨some 96, .mov (.t 95), none⟩,
  ⟨some 97, .mov (.t 16), some (96, false)⟩,
  ⟨some 98, .mov (.t 18), some (96, false)⟩,
  ⟨some 99, .bin .neq (.t 97) (.t 98), some (96, false)⟩,
  ⟨some 100, .pick (.t 96) (.k (.d (.bool true))) (.t 99), none⟩,
  ⟨some 101, .mov (.t 100), none⟩,
  ⟨some 102, .load (some 2) (.t 15), some (101, false)⟩,
  ⟨some 103, .call (.k (.d (.func (.func 58) [] []))) [(.t 102)], some (101, false)⟩,
  ⟨some 104, .load (some 2) (.t 17), some (101, false)⟩,
  ⟨some 105, .call (.k (.d (.func (.func 57) [] []))) [(.t 103), (.t 104)], some (101, false)⟩,
  ⟨some 106, .not (.t 105), some (101, false)⟩,
  ⟨some 107, .pick (.t 101) (.k (.d (.bool true))) (.t 106), none⟩]
noncomputable def s10r12 : List SOper := [
  ⟨some 6, .mov (.k (.d (.bool false))), none⟩]
noncomputable def s10r13 : List SOper := [
  ⟨some 108, .load (some 2) (.t 3), none⟩,
  ⟨some 109, .call (.k (.d (.func (.func 44) [] []))) [(.t 108)], none⟩,
  ⟨some 110, .call (.k (.d (.func (.func 59) [] []))) [(.t 109)], none⟩,
  ⟨some 111, .load (some 2) (.t 3), none⟩,
  ⟨some 112, .call (.k (.d (.func (.func 60) [] []))) [(.t 111)], none⟩,
  ⟨some 113, .eqb true (.t 110) (.t 112), none⟩,
  ⟨some 114, .mov (.t 113), none⟩,
  ⟨some 115, .load (some 2) (.t 3), some (114, false)⟩,
  ⟨some 116, .call (.k (.d (.func (.func 44) [] []))) [(.t 115)], some (114, false)⟩,
  ⟨some 117, .faddr 1 (.t 5), some (114, false)⟩,
  ⟨some 118, .load none (.t 117), some (114, false)⟩,
  ⟨some 119, .call (.k (.d (.func (.func 50) [] []))) [(.t 116), (.t 118)], some (114, false)⟩,
  ⟨some 120, .load (some 2) (.t 3), some (114, false)⟩,
  ⟨some 121, .faddr 1 (.t 5), some (114, false)⟩,
  ⟨some 122, .load none (.t 121), some (114, false)⟩,
  ⟨some 123, .call (.k (.d (.func (.func 61) [] []))) [(.t 120), (.t 122)], some (114, false)⟩,
  ⟨some 124, .bin .neq (.t 119) (.t 123), some (114, false)⟩,
  ⟨some 125, .pick (.t 114) (.k (.d (.bool true))) (.t 124), none⟩,
  ⟨some 126, .mov (.t 125), none⟩,
  ⟨some 127, .load (some 2) (.t 3), some (126, false)⟩,
  ⟨some 128, .call (.k (.d (.func (.func 44) [] []))) [(.t 127)], some (126, false)⟩,
  ⟨some 129, .load (some 2) (.t 4), some (126, false)⟩,
  ⟨some 130, .call (.k (.d (.func (.func 44) [] []))) [(.t 129)], some (126, false)⟩,
  ⟨some 131, .call (.k (.d (.func (.func 62) [] []))) [(.t 128), (.t 130)], some (126, false)⟩,
  ⟨some 132, .load (some 2) (.t 3), some (126, false)⟩,
  ⟨some 133, .load (some 2) (.t 4), some (126, false)⟩,
  ⟨some 134, .call (.k (.d (.func (.func 57) [] []))) [(.t 132), (.t 133)], some (126, false)⟩,
  ⟨some 135, .eqb true (.t 131) (.t 134), some (126, false)⟩,
  ⟨some 136, .pick (.t 126) (.k (.d (.bool true))) (.t 135), none⟩]
noncomputable def s10r14 : List SOper := [
  ⟨some 6, .mov (.k (.d (.bool false))), none⟩]
noncomputable def s10r15 : List SOper := [
  ⟨some 137, .mov (.t 8), none⟩,
  ⟨some 138, .bin .neq (.t 137) (.k (.d (.int .i64 0))), none⟩,
  ⟨some 139, .mov (.t 138), none⟩,
  ⟨some 140, .load (some 2) (.t 7), some (139, false)⟩,
  ⟨some 141, .call (.k (.d (.func (.func 59) [] []))) [(.t 140)], some (139, false)⟩,
  ⟨some 142, .pick (.t 139) (.k (.d (.bool true))) (.t 141), none⟩,
  ⟨some 143, .mov (.t 142), none⟩,
  ⟨some 144, .mov (.t 12), some (143, true)⟩,
  ⟨some 145, .bin .neq (.t 144) (.k (.d (.int .i64 0))), some (143, true)⟩,
  ⟨some 146, .mov (.t 145), some (143, true)⟩,
  ⟨some 147, .load (some 2) (.t 11), some (146, false)⟩,
  ⟨some 148, .call (.k (.d (.func (.func 59) [] []))) [(.t 147)], some (146, false)⟩,
  ⟨some 149, .pick (.t 146) (.k (.d (.bool true))) (.t 148), some (143, true)⟩,
  ⟨some 150, .pick (.t 143) (.t 149) (.k (.d (.bool false))), none⟩,
  ⟨some 6, .mov (.t 150), none⟩]
noncomputable def s10 : SCode := (.seq (.region s10r0 3 []) (.seq (.seq (.region s10r1 0 []) (.cond (.t 20) (.seq (.region s10r2 0 []) .ret) .skip)) (.seq (.seq (.region s10r3 0 []) (.cond (.t 33) (.seq (.region s10r4 0 []) .ret) .skip)) (.seq (.region s10r5 1 [(1, 2), (0, 7), (1, 7), (2, 7), (3, 7)]) (.seq (.region s10r6 1 []) (.seq (.region s10r7 1 [(1, 3), (0, 8), (1, 8), (3, 8), (4, 8)]) (.seq (.region s10r8 1 []) (.seq (.region s10r9 1 []) (.seq (.region s10r10 1 []) (.seq (.seq (.region s10r11 0 [(5, 6), (17, 18), (29, 30)]) (.cond (.t 107) (.seq (.region s10r12 0 []) .ret) .skip)) (.seq (.seq (.region s10r13 0 [(1, 3), (2, 3), (8, 10), (8, 12), (11, 12), (8, 14), (11, 14), (20, 21), (20, 24), (22, 24), (23, 24), (20, 25), (22, 25), (23, 25)]) (.cond (.t 136) (.seq (.region s10r14 0 []) .ret) .skip)) (.seq (.region s10r15 0 []) .ret))))))))))))
theorem e10 : AWp P k0 s10 Q st = AWp P k0 (.seq (.region s10r0 3 []) (.seq (.seq (.region s10r1 0 []) (.cond (.t 20) (.seq (.region s10r2 0 []) .ret) .skip)) (.seq (.seq (.region s10r3 0 []) (.cond (.t 33) (.seq (.region s10r4 0 []) .ret) .skip)) (.seq (.region s10r5 1 [(1, 2), (0, 7), (1, 7), (2, 7), (3, 7)]) (.seq (.region s10r6 1 []) (.seq (.region s10r7 1 [(1, 3), (0, 8), (1, 8), (3, 8), (4, 8)]) (.seq (.region s10r8 1 []) (.seq (.region s10r9 1 []) (.seq (.region s10r10 1 []) (.seq (.seq (.region s10r11 0 [(5, 6), (17, 18), (29, 30)]) (.cond (.t 107) (.seq (.region s10r12 0 []) .ret) .skip)) (.seq (.seq (.region s10r13 0 [(1, 3), (2, 3), (8, 10), (8, 12), (11, 12), (8, 14), (11, 14), (20, 21), (20, 24), (22, 24), (23, 24), (20, 25), (22, 25), (23, 25)]) (.cond (.t 136) (.seq (.region s10r14 0 []) .ret) .skip)) (.seq (.region s10r15 0 []) .ret)))))))))))) Q st := rfl
theorem u10r0 : goReg P s10r0 o p Q st = goLit P (litOf s10r0.eq_1) o p Q st := goReg_of _
theorem u10r1 : goReg P s10r1 o p Q st = goLit P (litOf s10r1.eq_1) o p Q st := goReg_of _
theorem u10r2 : goReg P s10r2 o p Q st = goLit P (litOf s10r2.eq_1) o p Q st := goReg_of _
theorem u10r3 : goReg P s10r3 o p Q st = goLit P (litOf s10r3.eq_1) o p Q st := goReg_of _
theorem u10r4 : goReg P s10r4 o p Q st = goLit P (litOf s10r4.eq_1) o p Q st := goReg_of _
theorem u10r5 : goReg P s10r5 o p Q st = goLit P (litOf s10r5.eq_1) o p Q st := goReg_of _
theorem u10r6 : goReg P s10r6 o p Q st = goLit P (litOf s10r6.eq_1) o p Q st := goReg_of _
theorem u10r7 : goReg P s10r7 o p Q st = goLit P (litOf s10r7.eq_1) o p Q st := goReg_of _
theorem u10r8 : goReg P s10r8 o p Q st = goLit P (litOf s10r8.eq_1) o p Q st := goReg_of _
theorem u10r9 : goReg P s10r9 o p Q st = goLit P (litOf s10r9.eq_1) o p Q st := goReg_of _
theorem u10r10 : goReg P s10r10 o p Q st = goLit P (litOf s10r10.eq_1) o p Q st := goReg_of _
theorem u10r11 : goReg P s10r11 o p Q st = goLit P (litOf s10r11.eq_1) o p Q st := goReg_of _
theorem u10r12 : goReg P s10r12 o p Q st = goLit P (litOf s10r12.eq_1) o p Q st := goReg_of _
theorem u10r13 : goReg P s10r13 o p Q st = goLit P (litOf s10r13.eq_1) o p Q st := goReg_of _
theorem u10r14 : goReg P s10r14 o p Q st = goLit P (litOf s10r14.eq_1) o p Q st := goReg_of _
theorem u10r15 : goReg P s10r15 o p Q st = goLit P (litOf s10r15.eq_1) o p Q st := goReg_of _
attribute [go_sem] u10r0 u10r1 u10r2 u10r3 u10r4 u10r5 u10r6 u10r7 u10r8 u10r9 u10r10 u10r11 u10r12 u10r13 u10r14 u10r15 e10
set_option maxRecDepth 100000 in
theorem F10 : FnIs Try.prog 10 Try.f10 [] news s10 [.tmp 6] 151 := ⟨follows, Try.func10, by kernel_rfl, by kernel_rfl, by kernel_rfl, by kernel_rfl⟩

noncomputable def s54r0 : List SOper := [
  ⟨some 2, .box 3 (.t 0), none⟩,
  ⟨some 3, .box 2 (.t 1), none⟩,
  ⟨some 4, .alloc 1 [(.d (.int .i64 0)), (.d .nilsl)], none⟩,
  ⟨some 5, .mov (.k (.d (.int .i64 0))), none⟩]
noncomputable def s54r1 : List SOper := [
  ⟨some 9, .load (some 2) (.t 2), none⟩,
  ⟨some 10, .call (.k (.d (.func (.func 60) [] []))) [(.t 9)], none⟩,
  ⟨some 11, .not (.t 10), none⟩,
  ⟨some 12, .mov (.t 11), none⟩,
  ⟨some 13, .load (some 9) (.t 3), some (12, false)⟩,
  ⟨some 14, .call (.k (.d (.func (.func 75) [] []))) [(.t 13)], some (12, false)⟩,
  ⟨some 15, .not (.t 14), some (12, false)⟩,
  ⟨some 16, .pick (.t 12) (.k (.d (.bool true))) (.t 15), none⟩,
  ⟨some 17, .mov (.t 16), none⟩,
  ⟨some 18, .faddr 0 (.t 3), some (17, false)⟩,
  ⟨some 19, .load none (.t 18), some (17, false)⟩,
  ⟨some 20, .bin .neq (.t 19) (.k (.d (.int .i64 4))), some (17, false)⟩,
  ⟨some 21, .pick (.t 17) (.k (.d (.bool true))) (.t 20), none⟩,
  ⟨some 22, .mov (.t 21), none⟩,
  ⟨some 23, .faddr 3 (.t 3), some (22, false)⟩,
  ⟨some 24, .load none (.t 23), some (22, false)⟩,
  ⟨some 25, .faddr 0 (.t 2), some (22, false)⟩,
  ⟨some 26, .load none (.t 25), some (22, false)⟩,
  ⟨some 27, .bin .geq (.t 24) (.t 26), some (22, false)⟩,
  ⟨some 28, .pick (.t 22) (.k (.d (.bool true))) (.t 27), none⟩]
noncomputable def s54r2 : List SOper := [
  ⟨some 29, .build [(.int .i64 0), .nilsl] [], none⟩,
  ⟨none, .store (some 2) (.t 4) (.t 29), none⟩,
  ⟨some 5, .mov (.k (.d (.int .i64 1))), none⟩]
noncomputable def s54r3 : List SOper := [
  ⟨some 30, .load (some 2) (.t 2), none⟩,
  ⟨some 31, .faddr 1 (.t 3), none⟩,
  ⟨some 32, .load none (.t 31), none⟩,
  ⟨some 33, .call (.k (.d (.func (.func 89) [] []))) [(.t 30), (.t 32)], none⟩,
  ⟨some 6, .mov (.t 33), none⟩]
noncomputable def s54r4 : List SOper := [
  ⟨some 34, .mov (.t 6), none⟩,
  ⟨some 35, .bin .lss (.t 34) (.k (.d (.int .i64 0))), none⟩]
noncomputable def s54r5 : List SOper := [
  ⟨some 36, .build [(.int .i64 0), .nilsl] [], none⟩,
  ⟨none, .store (some 2) (.t 4) (.t 36), none⟩,
  ⟨some 5, .mov (.k (.d (.int .i64 8))), none⟩]
noncomputable def s54r6 : List SOper := [
  ⟨some 37, .faddr 1 (.t 2), none⟩,
  ⟨some 38, .load none (.t 37), none⟩,
  ⟨some 39, .mov (.t 6), none⟩,
  ⟨some 40, .iaddr 4 (.t 38) (.t 39), none⟩,
  ⟨some 41, .load (some 4) (.t 40), none⟩,
  ⟨some 7, .alloc 1 [(.d (.int .i64 0)), (.d (.int .i64 0)), (.d .nilsl), (.d .nilsl)], none⟩,
  ⟨none, .store (some 4) (.t 7) (.t 41), none⟩]
noncomputable def s54r7 : List SOper := [
  ⟨some 42, .faddr 6 (.t 3), none⟩,
  ⟨some 43, .load none (.t 42), none⟩,
  ⟨some 44, .bin .eql (.t 43) (.k (.d (.int .i64 1))), none⟩]
noncomputable def s54r8 : List SOper := [
  ⟨some 45, .faddr 2 (.t 7), none⟩,
  ⟨some 46, .load none (.t 45), none⟩,
  ⟨some 47, .faddr 3 (.t 3), none⟩,
  ⟨some 48, .load none (.t 47), none⟩,
  ⟨some 49, .iaddr 1 (.t 46) (.t 48), none⟩,
  ⟨some 50, .load none (.t 49), none⟩]
noncomputable def s54r9 : List SOper := [
  ⟨some 51, .build [(.int .i64 0), .nilsl] [], none⟩,
  ⟨none, .store (some 2) (.t 4) (.t 51), none⟩,
  ⟨some 5, .mov (.k (.d (.int .i64 21))), none⟩]
noncomputable def s54r10 : List SOper := [
  ⟨some 52, .faddr 2 (.t 7), none⟩,
  ⟨some 53, .load none (.t 52), none⟩,
  ⟨some 54, .faddr 3 (.t 3), none⟩,
  ⟨some 55, .load none (.t 54), none⟩,
  ⟨some 56, .call (.k (.d (.func (.func 90) [] []))) [(.t 53), (.t 55)], none⟩,
  ⟨some 57, .faddr 2 (.t 7), none⟩,
  ⟨none, .store none (.t 57) (.t 56), none⟩]
noncomputable def s54r11 : List SOper := [
  ⟨some 58, .faddr 3 (.t 7), none⟩,
  ⟨some 59, .load none (.t 58), none⟩,
  ⟨some 60, .faddr 3 (.t 3), none⟩,
  ⟨some 61, .load none (.t 60), none⟩,
  ⟨some 62, .iaddr 1 (.t 59) (.t 61), none⟩,
  ⟨some 63, .load none (.t 62), none⟩]
noncomputable def s54r12 : List SOper := [
  ⟨some 64, .build [(.int .i64 0), .nilsl] [], none⟩,
  ⟨none, .store (some 2) (.t 4) (.t 64), none⟩,
  ⟨some 5, .mov (.k (.d (.int .i64 21))), none⟩]
noncomputable def s54r13 : List SOper := [
  ⟨some 65, .faddr 1 (.t 7), none⟩,
  ⟨some 66, .load none (.t 65), none⟩,
  ⟨some 67, .bin .eql (.t 66) (.k (.d (.int .i64 1))), none⟩]
noncomputable def s54r14 : List SOper := [
  ⟨some 68, .build [(.int .i64 0), .nilsl] [], none⟩,
  ⟨none, .store (some 2) (.t 4) (.t 68), none⟩,
  ⟨some 5, .mov (.k (.d (.int .i64 7))), none⟩]
noncomputable def s54r15 : List SOper := [
  ⟨some 69, .faddr 3 (.t 7), none⟩,
  ⟨some 70, .load none (.t 69), none⟩,
  ⟨some 71, .faddr 3 (.t 3), none⟩,
  ⟨some 72, .load none (.t 71), none⟩,
  ⟨some 73, .call (.k (.d (.func (.func 90) [] []))) [(.t 70), (.t 72)], none⟩,
  ⟨some 74, .faddr 3 (.t 7), none⟩,
  ⟨none, .store none (.t 74) (.t 73), none⟩]
noncomputable def s54r16 : List SOper := [
  ⟨some 75, .load (some 4) (.t 7), none⟩,
  ⟨some 76, .call (.k (.d (.func (.func 91) [] []))) [(.t 75)], none⟩,
  ⟨some 77, .faddr 1 (.t 7), none⟩,
  ⟨none, .store none (.t 77) (.t 76), none⟩]
noncomputable def s54r17 : List SOper := [
  ⟨some 78, .faddr 0 (.t 2), none⟩,
  ⟨some 79, .load none (.t 78), none⟩,
  ⟨some 80, .buildSlice false 4 0 [(.int .i64 0), (.int .i64 0), .nilsl, .nilsl] [], none⟩,
  ⟨some 81, .faddr 1 (.t 2), none⟩,
  ⟨some 82, .load none (.t 81), none⟩,
  ⟨some 83, .append false 4 64 (.t 80) (.t 82), none⟩,
  ⟨some 84, .build [(.int .i64 0), .nilsl] [(0, 1, (.t 79)), (1, 1, (.t 83))], none⟩,
  ⟨some 8, .alloc 1 [(.d (.int .i64 0)), (.d .nilsl)], none⟩,
  ⟨none, .store (some 2) (.t 8) (.t 84), none⟩]
noncomputable def s54r18 : List SOper := [
  ⟨some 85, .faddr 1 (.t 8), none⟩,
  ⟨some 86, .load none (.t 85), none⟩,
  ⟨some 87, .mov (.t 6), none⟩,
  ⟨some 88, .load (some 4) (.t 7), none⟩,
  ⟨some 89, .iaddr 4 (.t 86) (.t 87), none⟩,
  ⟨none, .store (some 4) (.t 89) (.t 88), none⟩]
noncomputable def s54r19 : List SOper := [
  ⟨some 90, .load (some 2) (.t 8), none⟩,
  ⟨none, .store (some 2) (.t 4) (.t 90), none⟩,
  ⟨some 5, .mov (.k (.d (.int .i64 0))), none⟩]
noncomputable def s54 : SCode := (.seq (.region s54r0 3 []) (.seq (.seq (.region s54r1 0 []) (.cond (.t 28) (.seq (.region s54r2 0 []) .ret) .skip)) (.seq (.region s54r3 0 []) (.seq (.seq (.region s54r4 0 []) (.cond (.t 35) (.seq (.region s54r5 0 []) .ret) .skip)) (.seq (.region s54r6 1 []) (.seq (.seq (.region s54r7 0 []) (.cond (.t 44) (.seq (.seq (.region s54r8 0 []) (.cond (.t 50) (.seq (.region s54r9 0 []) .ret) .skip)) (.region s54r10 0 [])) (.seq (.seq (.region s54r11 0 []) (.cond (.t 63) (.seq (.region s54r12 0 []) .ret) .skip)) (.seq (.seq (.region s54r13 0 []) (.cond (.t 67) (.seq (.region s54r14 0 []) .ret) .skip)) (.region s54r15 0 []))))) (.seq (.region s54r16 0 []) (.seq (.region s54r17 1 [(1, 7), (4, 7), (5, 7)]) (.seq (.region s54r18 0 []) (.seq (.region s54r19 0 []) .ret))))))))))
theorem e54 : AWp P k0 s54 Q st = AWp P k0 (.seq (.region s54r0 3 []) (.seq (.seq (.region s54r1 0 []) (.cond (.t 28) (.seq (.region s54r2 0 []) .ret) .skip)) (.seq (.region s54r3 0 []) (.seq (.seq (.region s54r4 0 []) (.cond (.t 35) (.seq (.region s54r5 0 []) .ret) .skip)) (.seq (.region s54r6 1 []) (.seq (.seq (.region s54r7 0 []) (.cond (.t 44) (.seq (.seq (.region s54r8 0 []) (.cond (.t 50) (.seq (.region s54r9 0 []) .ret) .skip)) (.region s54r10 0 [])) (.seq (.seq (.region s54r11 0 []) (.cond (.t 63) (.seq (.region s54r12 0 []) .ret) .skip)) (.seq (.seq (.region s54r13 0 []) (.cond (.t 67) (.seq (.region s54r14 0 []) .ret) .skip)) (.region s54r15 0 []))))) (.seq (.region s54r16 0 []) (.seq (.region s54r17 1 [(1, 7), (4, 7), (5, 7)]) (.seq (.region s54r18 0 []) (.seq (.region s54r19 0 []) .ret)))))))))) Q st := rfl
theorem u54r0 : goReg P s54r0 o p Q st = goLit P (litOf s54r0.eq_1) o p Q st := goReg_of _
theorem u54r1 : goReg P s54r1 o p Q st = goLit P (litOf s54r1.eq_1) o p Q st := goReg_of _
theorem u54r2 : goReg P s54r2 o p Q st = goLit P (litOf s54r2.eq_1) o p Q st := goReg_of _
theorem u54r3 : goReg P s54r3 o p Q st = goLit P (litOf s54r3.eq_1) o p Q st := goReg_of _
theorem u54r4 : goReg P s54r4 o p Q st = goLit P (litOf s54r4.eq_1) o p Q st := goReg_of _
theorem u54r5 : goReg P s54r5 o p Q st = goLit P (litOf s54r5.eq_1) o p Q st := goReg_of _
theorem u54r6 : goReg P s54r6 o p Q st = goLit P (litOf s54r6.eq_1) o p Q st := goReg_of _
theorem u54r7 : goReg P s54r7 o p Q st = goLit P (litOf s54r7.eq_1) o p Q st := goReg_of _
theorem u54r8 : goReg P s54r8 o p Q st = goLit P (litOf s54r8.eq_1) o p Q st := goReg_of _
theorem u54r9 : goReg P s54r9 o p Q st = goLit P (litOf s54r9.eq_1) o p Q st := goReg_of _
theorem u54r10 : goReg P s54r10 o p Q st = goLit P (litOf s54r10.eq_1) o p Q st := goReg_of _
theorem u54r11 : goReg P s54r11 o p Q st = goLit P (litOf s54r11.eq_1) o p Q st := goReg_of _
theorem u54r12 : goReg P s54r12 o p Q st = goLit P (litOf s54r12.eq_1) o p Q st := goReg_of _
theorem u54r13 : goReg P s54r13 o p Q st = goLit P (litOf s54r13.eq_1) o p Q st := goReg_of _
theorem u54r14 : goReg P s54r14 o p Q st = goLit P (litOf s54r14.eq_1) o p Q st := goReg_of _
theorem u54r15 : goReg P s54r15 o p Q st = goLit P (litOf s54r15.eq_1) o p Q st := goReg_of _
theorem u54r16 : goReg P s54r16 o p Q st = goLit P (litOf s54r16.eq_1) o p Q st := goReg_of _
theorem u54r17 : goReg P s54r17 o p Q st = goLit P (litOf s54r17.eq_1) o p Q st := goReg_of _
theorem u54r18 : goReg P s54r18 o p Q st = goLit P (litOf s54r18.eq_1) o p Q st := goReg_of _
theorem u54r19 : goReg P s54r19 o p Q st = goLit P (litOf s54r19.eq_1) o p Q st := goReg_of _
attribute [go_sem] u54r0 u54r1 u54r2 u54r3 u54r4 u54r5 u54r6 u54r7 u54r8 u54r9 u54r10 u54r11 u54r12 u54r13 u54r14 u54r15 u54r16 u54r17 u54r18 u54r19 e54
set_option maxRecDepth 100000 in
theorem F54 : FnIs Try.prog 54 Try.f54 [] news s54 [.cell 4 (some 2), .tmp 5] 91 := ⟨follows, Try.func54, by kernel_rfl, by kernel_rfl, by kernel_rfl, by kernel_rfl⟩

end

theorem valid46_rep (p : Pk) (hk : p.kind = 4) : valid46 p = packetValid p := by
  rw [Bool.eq_iff_iff]
  simp only [valid46, hk, packetValid, kindOk, order, role, bare, empty46, in46]
  simp
  grind
theorem rep_guard (m : Mg) (p : Pk) : (!upValid m || !valid46 p || p.kind != 4 || decide (p.from_ ≥ m.roles)) = (!upValid m || p.kind != 4 || !packetValid p || decide (p.from_ ≥ m.roles)) := by
  by_cases hk : p.kind = 4
  · rw [valid46_rep p hk]
    cases upValid m <;> cases packetValid p <;> simp [hk]
  · have : (p.kind != 4) = true := by simpa using hk
    simp [this]

theorem begin_sm (m : Mg) (s : Int) : (upBegin m s).1.Sm ∧ ((upBegin m s).2 = 0 → upValid (upBegin m s).1 = true) := by
  by_cases hv : upValid m = true
  · by_cases hs : (decide (s < 1) || decide (s > 32)) = true
    · have : upBegin m s = (⟨0, []⟩, 2) := by simp only [upBegin, hv, hs]; rfl
      rw [this]; exact ⟨smNil 0, by simp⟩
    · have hm := upValid_mw.1 hv
      simp only [Bool.or_eq_true, decide_eq_true_eq] at hs
      rcases begin_cases m s hm (by omega) (by omega) with ⟨_, he⟩ | ⟨_, a, b, _, he, hmw⟩
      · rw [he]; exact ⟨smNil 0, by simp⟩
      · rw [he]; exact ⟨hmw.sm, fun _ => upValid_mw.2 hmw⟩
  · have : upBegin m s = (⟨0, []⟩, 1) := by simp only [upBegin, hv]; rfl
    rw [this]; exact ⟨smNil 0, by simp⟩

theorem rep_form {p : Pk} (hk : p.kind = 4) (hv : packetValid p = true) : p = repPk p.sess p.from_ p.label ∧ 1 ≤ p.sess ∧ p.sess ≤ 32 ∧ 0 ≤ p.from_ ∧ (p.label = 1 ∨ p.label = 2) := by
  obtain ⟨k, s, e, f, t, q, l, v, c⟩ := p
  simp only at hk
  subst hk
  simp [packetValid, kindOk, order, role, bare] at hv
  simp only [repPk, Pk.mk.injEq]
  grind
theorem report_sm (m : Mg) (p : Pk) : (upReport m p).1.Sm ∧ ((upReport m p).2 = 0 → upValid (upReport m p).1 = true) := by
  by_cases hg : (!upValid m || p.kind != 4 || !packetValid p || decide (p.from_ ≥ m.roles)) = true
  · have : upReport m p = (⟨0, []⟩, 1) := by simp only [upReport, hg, if_true]
    rw [this]; exact ⟨smNil 0, by simp⟩
  · obtain ⟨r1, r2, r3, r4, r5⟩ := repOk (by simpa using hg)
    obtain ⟨hp, h1, h32, h0, hl⟩ := rep_form r2 r3
    have hm := upValid_mw.1 r1
    rw [hp]
    rcases report_cases m p.sess p.from_ p.label hm h1 h32 h0 r4 hl with hno | ⟨k, hk, _, _, _, _, he, _, hmw⟩
    · refine ⟨?_, fun h => absurd h hno⟩
      have : (upReport m (repPk p.sess p.from_ p.label)).1 = ⟨0, []⟩ := by
        unfold upReport at hno ⊢
        by_cases c1 : (!upValid m || (repPk p.sess p.from_ p.label).kind != 4 || !packetValid (repPk p.sess p.from_ p.label) || decide ((repPk p.sess p.from_ p.label).from_ ≥ m.roles)) = true
        · rw [if_pos c1]
        rw [if_neg c1] at hno ⊢
        by_cases c2 : (!(upFind m (repPk p.sess p.from_ p.label).sess).2) = true
        · rw [if_pos c2]
        rw [if_neg c2] at hno ⊢
        split at hno
        · rename_i c3; rw [if_pos c3]
        · rename_i c3
          rw [if_neg c3]
          split at hno
          · rename_i c4; rw [if_pos c4]
          · exact absurd rfl hno
      rw [this]; exact smNil 0
    · rw [he]; exact ⟨hmw.sm, fun _ => upValid_mw.2 hmw⟩

theorem new_sm (n : Int) : (upNew n).1.Sm := by unfold upNew; split <;> exact smNil _
theorem fewPk_sm {p : Pk} (h : few46 p = true) : p.Sm := few46_sm h

set_option maxHeartbeats 4000000 in
set_option maxRecDepth 20000 in
/-- The statement's function, where the reference's Report answers as the program's (its contract is an argument here). -/
theorem upgradeReport_of (hR : ∀ (m : Mg) (p : Pk), m.Sm → p.Sm → ACall Try.prog 54 [.d (.agg (encMg m)), .d (.agg (encPk p))] [] (.tup [.d (.agg (encMg (upReport m p).1)), .d (.int .i64 (upReport m p).2)]) [])
    (m o : Mg) (p : Pk) (hm : m.ents.length ≤ maxLen) (ho : o.ents.length ≤ maxLen) (hp : p.values.length ≤ maxLen) : ACall Try.prog 10 [.d (.agg (encMg m)), .d (.agg (encMg o)), .d (.agg (encPk p))] [] (.d (.bool true)) [] := by
  refine F10.go ?_
  try simp only [encMg, encPk, go_sem, Nat.reduceAdd, Nat.reduceMul, Nat.reduceSub, Nat.reduceEqDiff, Nat.reduceLT, Nat.reduceLeDiff, Nat.reduceBEq, reduceIte, reduceCtorEq, Int.reduceAdd, Int.reduceLT, Int.reduceLE, Int.reduceGT, Int.reduceGE, Int.reduceEq, Int.reduceNe, Int.reduceBEq, Int.reduceBNe, Int.reduceToNat, Int.reduceNeg]
  (repeat (with_reducible refine ob ?_)); first | refine cl F41 (awake53_ok) ?_ | refine clF F41 (awake53_ok) (fun _ => by simp only [encEn, encMg, encPk, go_sem, Nat.reduceAdd, Nat.reduceMul, Nat.reduceSub, Nat.reduceEqDiff, Nat.reduceLT, Nat.reduceLeDiff, Nat.reduceBEq, reduceIte, reduceCtorEq, Int.reduceAdd, Int.reduceLT, Int.reduceLE, Int.reduceGT, Int.reduceGE, Int.reduceEq, Int.reduceNe, Int.reduceBEq, Int.reduceBNe, Int.reduceToNat, Int.reduceNeg]) ?_
  try (refine ev ?_; try exact True.intro)
  (repeat (with_reducible refine ob ?_)); refine no_ ?_
  try (refine ev ?_; try exact True.intro)
  (repeat (with_reducible refine ob ?_)); first | refine cl F42 (fewM_ok m hm) ?_ | refine clF F42 (fewM_ok m hm) (fun _ => by simp only [encEn, encMg, encPk, go_sem, Nat.reduceAdd, Nat.reduceMul, Nat.reduceSub, Nat.reduceEqDiff, Nat.reduceLT, Nat.reduceLeDiff, Nat.reduceBEq, reduceIte, reduceCtorEq, Int.reduceAdd, Int.reduceLT, Int.reduceLE, Int.reduceGT, Int.reduceGE, Int.reduceEq, Int.reduceNe, Int.reduceBEq, Int.reduceBNe, Int.reduceToNat, Int.reduceNeg]) ?_
  try (refine ev ?_; try exact True.intro)
  (repeat (with_reducible refine ob ?_))
  (repeat (with_reducible refine ob ?_)); first | refine cl F42 (fewM_ok o ho) ?_ | refine clF F42 (fewM_ok o ho) (fun _ => by simp only [encEn, encMg, encPk, go_sem, Nat.reduceAdd, Nat.reduceMul, Nat.reduceSub, Nat.reduceEqDiff, Nat.reduceLT, Nat.reduceLeDiff, Nat.reduceBEq, reduceIte, reduceCtorEq, Int.reduceAdd, Int.reduceLT, Int.reduceLE, Int.reduceGT, Int.reduceGE, Int.reduceEq, Int.reduceNe, Int.reduceBEq, Int.reduceBNe, Int.reduceToNat, Int.reduceNeg]) ?_
  try (refine ev ?_; try exact True.intro)
  (repeat (with_reducible refine ob ?_))
  (repeat (with_reducible refine ob ?_)); first | refine cl F37 (few46_ok p hp) ?_ | refine clF F37 (few46_ok p hp) (fun _ => by simp only [encEn, encMg, encPk, go_sem, Nat.reduceAdd, Nat.reduceMul, Nat.reduceSub, Nat.reduceEqDiff, Nat.reduceLT, Nat.reduceLeDiff, Nat.reduceBEq, reduceIte, reduceCtorEq, Int.reduceAdd, Int.reduceLT, Int.reduceLE, Int.reduceGT, Int.reduceGE, Int.reduceEq, Int.reduceNe, Int.reduceBEq, Int.reduceBNe, Int.reduceToNat, Int.reduceNeg]) ?_
  try (refine ev ?_; try exact True.intro)
  (repeat (with_reducible refine ob ?_)); refine iff_ _ (fun h => ?_) (fun h => ?_)
  · try (refine ev ?_; try exact True.intro)
  have hf : fewM m = true ∧ fewM o = true ∧ few46 p = true := by
    cases h1 : fewM m <;> cases h2 : fewM o <;> cases h3 : few46 p <;> simp_all
  have sm := fewM_sm hf.1
  have so := fewM_sm hf.2.1
  have sp := few46_sm hf.2.2
  obtain ⟨sr, vr⟩ := report_sm m p
  obtain ⟨sb, vb⟩ := begin_sm m p.sess
  try (refine ev ?_; try exact True.intro)
  (repeat (with_reducible refine ob ?_)); first | refine cl F44 (to53_ok m sm.1) ?_ | refine clF F44 (to53_ok m sm.1) (fun _ => by simp only [encEn, encMg, encPk, go_sem, Nat.reduceAdd, Nat.reduceMul, Nat.reduceSub, Nat.reduceEqDiff, Nat.reduceLT, Nat.reduceLeDiff, Nat.reduceBEq, reduceIte, reduceCtorEq, Int.reduceAdd, Int.reduceLT, Int.reduceLE, Int.reduceGT, Int.reduceGE, Int.reduceEq, Int.reduceNe, Int.reduceBEq, Int.reduceBNe, Int.reduceToNat, Int.reduceNeg]) ?_
  try simp only [encMg, go_sem, Nat.reduceAdd, Nat.reduceMul, Nat.reduceSub, Nat.reduceEqDiff, Nat.reduceLT, Nat.reduceLeDiff, Nat.reduceBEq, reduceIte, reduceCtorEq, Int.reduceAdd, Int.reduceLT, Int.reduceLE, Int.reduceGT, Int.reduceGE, Int.reduceEq, Int.reduceNe, Int.reduceBEq, Int.reduceBNe, Int.reduceToNat, Int.reduceNeg]
  (repeat (with_reducible refine ob ?_)); first | refine cl F52b (upReport_ok m p sm sp) ?_ | refine clF F52b (upReport_ok m p sm sp) (fun _ => by simp only [encEn, encMg, encPk, go_sem, Nat.reduceAdd, Nat.reduceMul, Nat.reduceSub, Nat.reduceEqDiff, Nat.reduceLT, Nat.reduceLeDiff, Nat.reduceBEq, reduceIte, reduceCtorEq, Int.reduceAdd, Int.reduceLT, Int.reduceLE, Int.reduceGT, Int.reduceGE, Int.reduceEq, Int.reduceNe, Int.reduceBEq, Int.reduceBNe, Int.reduceToNat, Int.reduceNeg]) ?_
  try simp only [encMg, go_sem, Nat.reduceAdd, Nat.reduceMul, Nat.reduceSub, Nat.reduceEqDiff, Nat.reduceLT, Nat.reduceLeDiff, Nat.reduceBEq, reduceIte, reduceCtorEq, Int.reduceAdd, Int.reduceLT, Int.reduceLE, Int.reduceGT, Int.reduceGE, Int.reduceEq, Int.reduceNe, Int.reduceBEq, Int.reduceBNe, Int.reduceToNat, Int.reduceNeg]
  (repeat (with_reducible refine ob ?_)); first | refine cl F54 (hR m p sm sp) ?_ | refine clF F54 (hR m p sm sp) (fun _ => by simp only [encEn, encMg, encPk, go_sem, Nat.reduceAdd, Nat.reduceMul, Nat.reduceSub, Nat.reduceEqDiff, Nat.reduceLT, Nat.reduceLeDiff, Nat.reduceBEq, reduceIte, reduceCtorEq, Int.reduceAdd, Int.reduceLT, Int.reduceLE, Int.reduceGT, Int.reduceGE, Int.reduceEq, Int.reduceNe, Int.reduceBEq, Int.reduceBNe, Int.reduceToNat, Int.reduceNeg]) ?_
  try simp only [encMg, go_sem, Nat.reduceAdd, Nat.reduceMul, Nat.reduceSub, Nat.reduceEqDiff, Nat.reduceLT, Nat.reduceLeDiff, Nat.reduceBEq, reduceIte, reduceCtorEq, Int.reduceAdd, Int.reduceLT, Int.reduceLE, Int.reduceGT, Int.reduceGE, Int.reduceEq, Int.reduceNe, Int.reduceBEq, Int.reduceBNe, Int.reduceToNat, Int.reduceNeg]
  (repeat (with_reducible refine ob ?_)); first | refine cl F44 (to53_ok m sm.1) ?_ | refine clF F44 (to53_ok m sm.1) (fun _ => by simp only [encEn, encMg, encPk, go_sem, Nat.reduceAdd, Nat.reduceMul, Nat.reduceSub, Nat.reduceEqDiff, Nat.reduceLT, Nat.reduceLeDiff, Nat.reduceBEq, reduceIte, reduceCtorEq, Int.reduceAdd, Int.reduceLT, Int.reduceLE, Int.reduceGT, Int.reduceGE, Int.reduceEq, Int.reduceNe, Int.reduceBEq, Int.reduceBNe, Int.reduceToNat, Int.reduceNeg]) ?_
  try simp only [encMg, go_sem, Nat.reduceAdd, Nat.reduceMul, Nat.reduceSub, Nat.reduceEqDiff, Nat.reduceLT, Nat.reduceLeDiff, Nat.reduceBEq, reduceIte, reduceCtorEq, Int.reduceAdd, Int.reduceLT, Int.reduceLE, Int.reduceGT, Int.reduceGE, Int.reduceEq, Int.reduceNe, Int.reduceBEq, Int.reduceBNe, Int.reduceToNat, Int.reduceNeg]
  (repeat (with_reducible refine ob ?_)); first | refine cl F51b (upBegin_ok m p.sess sm) ?_ | refine clF F51b (upBegin_ok m p.sess sm) (fun _ => by simp only [encEn, encMg, encPk, go_sem, Nat.reduceAdd, Nat.reduceMul, Nat.reduceSub, Nat.reduceEqDiff, Nat.reduceLT, Nat.reduceLeDiff, Nat.reduceBEq, reduceIte, reduceCtorEq, Int.reduceAdd, Int.reduceLT, Int.reduceLE, Int.reduceGT, Int.reduceGE, Int.reduceEq, Int.reduceNe, Int.reduceBEq, Int.reduceBNe, Int.reduceToNat, Int.reduceNeg]) ?_
  try simp only [encMg, go_sem, Nat.reduceAdd, Nat.reduceMul, Nat.reduceSub, Nat.reduceEqDiff, Nat.reduceLT, Nat.reduceLeDiff, Nat.reduceBEq, reduceIte, reduceCtorEq, Int.reduceAdd, Int.reduceLT, Int.reduceLE, Int.reduceGT, Int.reduceGE, Int.reduceEq, Int.reduceNe, Int.reduceBEq, Int.reduceBNe, Int.reduceToNat, Int.reduceNeg]
  (repeat (with_reducible refine ob ?_)); first | refine cl F55 (refBegin_ok m p.sess sm) ?_ | refine clF F55 (refBegin_ok m p.sess sm) (fun _ => by simp only [encEn, encMg, encPk, go_sem, Nat.reduceAdd, Nat.reduceMul, Nat.reduceSub, Nat.reduceEqDiff, Nat.reduceLT, Nat.reduceLeDiff, Nat.reduceBEq, reduceIte, reduceCtorEq, Int.reduceAdd, Int.reduceLT, Int.reduceLE, Int.reduceGT, Int.reduceGE, Int.reduceEq, Int.reduceNe, Int.reduceBEq, Int.reduceBNe, Int.reduceToNat, Int.reduceNeg]) ?_
  try simp only [encMg, go_sem, Nat.reduceAdd, Nat.reduceMul, Nat.reduceSub, Nat.reduceEqDiff, Nat.reduceLT, Nat.reduceLeDiff, Nat.reduceBEq, reduceIte, reduceCtorEq, Int.reduceAdd, Int.reduceLT, Int.reduceLE, Int.reduceGT, Int.reduceGE, Int.reduceEq, Int.reduceNe, Int.reduceBEq, Int.reduceBNe, Int.reduceToNat, Int.reduceNeg]
  (repeat (with_reducible refine ob ?_)); first | refine cl F48 (upNew_ok p.from_) ?_ | refine clF F48 (upNew_ok p.from_) (fun _ => by simp only [encEn, encMg, encPk, go_sem, Nat.reduceAdd, Nat.reduceMul, Nat.reduceSub, Nat.reduceEqDiff, Nat.reduceLT, Nat.reduceLeDiff, Nat.reduceBEq, reduceIte, reduceCtorEq, Int.reduceAdd, Int.reduceLT, Int.reduceLE, Int.reduceGT, Int.reduceGE, Int.reduceEq, Int.reduceNe, Int.reduceBEq, Int.reduceBNe, Int.reduceToNat, Int.reduceNeg]) ?_
  try simp only [encMg, go_sem, Nat.reduceAdd, Nat.reduceMul, Nat.reduceSub, Nat.reduceEqDiff, Nat.reduceLT, Nat.reduceLeDiff, Nat.reduceBEq, reduceIte, reduceCtorEq, Int.reduceAdd, Int.reduceLT, Int.reduceLE, Int.reduceGT, Int.reduceGE, Int.reduceEq, Int.reduceNe, Int.reduceBEq, Int.reduceBNe, Int.reduceToNat, Int.reduceNeg]
  (repeat (with_reducible refine ob ?_)); first | refine cl F56 (new53_ok p.from_) ?_ | refine clF F56 (new53_ok p.from_) (fun _ => by simp only [encEn, encMg, encPk, go_sem, Nat.reduceAdd, Nat.reduceMul, Nat.reduceSub, Nat.reduceEqDiff, Nat.reduceLT, Nat.reduceLeDiff, Nat.reduceBEq, reduceIte, reduceCtorEq, Int.reduceAdd, Int.reduceLT, Int.reduceLE, Int.reduceGT, Int.reduceGE, Int.reduceEq, Int.reduceNe, Int.reduceBEq, Int.reduceBNe, Int.reduceToNat, Int.reduceNeg]) ?_
  try simp only [encMg, go_sem, Nat.reduceAdd, Nat.reduceMul, Nat.reduceSub, Nat.reduceEqDiff, Nat.reduceLT, Nat.reduceLeDiff, Nat.reduceBEq, reduceIte, reduceCtorEq, Int.reduceAdd, Int.reduceLT, Int.reduceLE, Int.reduceGT, Int.reduceGE, Int.reduceEq, Int.reduceNe, Int.reduceBEq, Int.reduceBNe, Int.reduceToNat, Int.reduceNeg]
  (repeat (with_reducible refine ob ?_)); first | refine cl F58 (from53_ok (upReport m p).1 sr.1) ?_ | refine clF F58 (from53_ok (upReport m p).1 sr.1) (fun _ => by simp only [encEn, encMg, encPk, go_sem, Nat.reduceAdd, Nat.reduceMul, Nat.reduceSub, Nat.reduceEqDiff, Nat.reduceLT, Nat.reduceLeDiff, Nat.reduceBEq, reduceIte, reduceCtorEq, Int.reduceAdd, Int.reduceLT, Int.reduceLE, Int.reduceGT, Int.reduceGE, Int.reduceEq, Int.reduceNe, Int.reduceBEq, Int.reduceBNe, Int.reduceToNat, Int.reduceNeg]) ?_
  try simp only [encMg, go_sem, Nat.reduceAdd, Nat.reduceMul, Nat.reduceSub, Nat.reduceEqDiff, Nat.reduceLT, Nat.reduceLeDiff, Nat.reduceBEq, reduceIte, reduceCtorEq, Int.reduceAdd, Int.reduceLT, Int.reduceLE, Int.reduceGT, Int.reduceGE, Int.reduceEq, Int.reduceNe, Int.reduceBEq, Int.reduceBNe, Int.reduceToNat, Int.reduceNeg]
  (repeat (with_reducible refine ob ?_)); first | refine cl F57 (equal53_ok (upReport m p).1 (upReport m p).1 sr) ?_ | refine clF F57 (equal53_ok (upReport m p).1 (upReport m p).1 sr) (fun _ => by simp only [encEn, encMg, encPk, go_sem, Nat.reduceAdd, Nat.reduceMul, Nat.reduceSub, Nat.reduceEqDiff, Nat.reduceLT, Nat.reduceLeDiff, Nat.reduceBEq, reduceIte, reduceCtorEq, Int.reduceAdd, Int.reduceLT, Int.reduceLE, Int.reduceGT, Int.reduceGE, Int.reduceEq, Int.reduceNe, Int.reduceBEq, Int.reduceBNe, Int.reduceToNat, Int.reduceNeg]) ?_
  try simp only [encMg, go_sem, Nat.reduceAdd, Nat.reduceMul, Nat.reduceSub, Nat.reduceEqDiff, Nat.reduceLT, Nat.reduceLeDiff, Nat.reduceBEq, reduceIte, reduceCtorEq, Int.reduceAdd, Int.reduceLT, Int.reduceLE, Int.reduceGT, Int.reduceGE, Int.reduceEq, Int.reduceNe, Int.reduceBEq, Int.reduceBNe, Int.reduceToNat, Int.reduceNeg]
  (repeat (with_reducible refine ob ?_)); first | refine cl F58 (from53_ok (upBegin m p.sess).1 sb.1) ?_ | refine clF F58 (from53_ok (upBegin m p.sess).1 sb.1) (fun _ => by simp only [encEn, encMg, encPk, go_sem, Nat.reduceAdd, Nat.reduceMul, Nat.reduceSub, Nat.reduceEqDiff, Nat.reduceLT, Nat.reduceLeDiff, Nat.reduceBEq, reduceIte, reduceCtorEq, Int.reduceAdd, Int.reduceLT, Int.reduceLE, Int.reduceGT, Int.reduceGE, Int.reduceEq, Int.reduceNe, Int.reduceBEq, Int.reduceBNe, Int.reduceToNat, Int.reduceNeg]) ?_
  try simp only [encMg, go_sem, Nat.reduceAdd, Nat.reduceMul, Nat.reduceSub, Nat.reduceEqDiff, Nat.reduceLT, Nat.reduceLeDiff, Nat.reduceBEq, reduceIte, reduceCtorEq, Int.reduceAdd, Int.reduceLT, Int.reduceLE, Int.reduceGT, Int.reduceGE, Int.reduceEq, Int.reduceNe, Int.reduceBEq, Int.reduceBNe, Int.reduceToNat, Int.reduceNeg]
  (repeat (with_reducible refine ob ?_)); first | refine cl F57 (equal53_ok (upBegin m p.sess).1 (upBegin m p.sess).1 sb) ?_ | refine clF F57 (equal53_ok (upBegin m p.sess).1 (upBegin m p.sess).1 sb) (fun _ => by simp only [encEn, encMg, encPk, go_sem, Nat.reduceAdd, Nat.reduceMul, Nat.reduceSub, Nat.reduceEqDiff, Nat.reduceLT, Nat.reduceLeDiff, Nat.reduceBEq, reduceIte, reduceCtorEq, Int.reduceAdd, Int.reduceLT, Int.reduceLE, Int.reduceGT, Int.reduceGE, Int.reduceEq, Int.reduceNe, Int.reduceBEq, Int.reduceBNe, Int.reduceToNat, Int.reduceNeg]) ?_
  try simp only [encMg, go_sem, Nat.reduceAdd, Nat.reduceMul, Nat.reduceSub, Nat.reduceEqDiff, Nat.reduceLT, Nat.reduceLeDiff, Nat.reduceBEq, reduceIte, reduceCtorEq, Int.reduceAdd, Int.reduceLT, Int.reduceLE, Int.reduceGT, Int.reduceGE, Int.reduceEq, Int.reduceNe, Int.reduceBEq, Int.reduceBNe, Int.reduceToNat, Int.reduceNeg]
  (repeat (with_reducible refine ob ?_)); first | refine cl F58 (from53_ok (upNew p.from_).1 (new_sm p.from_).1) ?_ | refine clF F58 (from53_ok (upNew p.from_).1 (new_sm p.from_).1) (fun _ => by simp only [encEn, encMg, encPk, go_sem, Nat.reduceAdd, Nat.reduceMul, Nat.reduceSub, Nat.reduceEqDiff, Nat.reduceLT, Nat.reduceLeDiff, Nat.reduceBEq, reduceIte, reduceCtorEq, Int.reduceAdd, Int.reduceLT, Int.reduceLE, Int.reduceGT, Int.reduceGE, Int.reduceEq, Int.reduceNe, Int.reduceBEq, Int.reduceBNe, Int.reduceToNat, Int.reduceNeg]) ?_
  try simp only [encMg, go_sem, Nat.reduceAdd, Nat.reduceMul, Nat.reduceSub, Nat.reduceEqDiff, Nat.reduceLT, Nat.reduceLeDiff, Nat.reduceBEq, reduceIte, reduceCtorEq, Int.reduceAdd, Int.reduceLT, Int.reduceLE, Int.reduceGT, Int.reduceGE, Int.reduceEq, Int.reduceNe, Int.reduceBEq, Int.reduceBNe, Int.reduceToNat, Int.reduceNeg]
  (repeat (with_reducible refine ob ?_)); first | refine cl F57 (equal53_ok (upNew p.from_).1 (upNew p.from_).1 (new_sm p.from_)) ?_ | refine clF F57 (equal53_ok (upNew p.from_).1 (upNew p.from_).1 (new_sm p.from_)) (fun _ => by simp only [encEn, encMg, encPk, go_sem, Nat.reduceAdd, Nat.reduceMul, Nat.reduceSub, Nat.reduceEqDiff, Nat.reduceLT, Nat.reduceLeDiff, Nat.reduceBEq, reduceIte, reduceCtorEq, Int.reduceAdd, Int.reduceLT, Int.reduceLE, Int.reduceGT, Int.reduceGE, Int.reduceEq, Int.reduceNe, Int.reduceBEq, Int.reduceBNe, Int.reduceToNat, Int.reduceNeg]) ?_
  try simp only [encMg, go_sem, Nat.reduceAdd, Nat.reduceMul, Nat.reduceSub, Nat.reduceEqDiff, Nat.reduceLT, Nat.reduceLeDiff, Nat.reduceBEq, reduceIte, reduceCtorEq, Int.reduceAdd, Int.reduceLT, Int.reduceLE, Int.reduceGT, Int.reduceGE, Int.reduceEq, Int.reduceNe, Int.reduceBEq, Int.reduceBNe, Int.reduceToNat, Int.reduceNeg]
  (repeat (with_reducible refine ob ?_)); refine no_ ?_
  try simp only [encMg, go_sem, Nat.reduceAdd, Nat.reduceMul, Nat.reduceSub, Nat.reduceEqDiff, Nat.reduceLT, Nat.reduceLeDiff, Nat.reduceBEq, reduceIte, reduceCtorEq, Int.reduceAdd, Int.reduceLT, Int.reduceLE, Int.reduceGT, Int.reduceGE, Int.reduceEq, Int.reduceNe, Int.reduceBEq, Int.reduceBNe, Int.reduceToNat, Int.reduceNeg]
  (repeat (with_reducible refine ob ?_)); first | refine cl F44 (to53_ok m sm.1) ?_ | refine clF F44 (to53_ok m sm.1) (fun _ => by simp only [encEn, encMg, encPk, go_sem, Nat.reduceAdd, Nat.reduceMul, Nat.reduceSub, Nat.reduceEqDiff, Nat.reduceLT, Nat.reduceLeDiff, Nat.reduceBEq, reduceIte, reduceCtorEq, Int.reduceAdd, Int.reduceLT, Int.reduceLE, Int.reduceGT, Int.reduceGE, Int.reduceEq, Int.reduceNe, Int.reduceBEq, Int.reduceBNe, Int.reduceToNat, Int.reduceNeg]) ?_
  try simp only [encMg, go_sem, Nat.reduceAdd, Nat.reduceMul, Nat.reduceSub, Nat.reduceEqDiff, Nat.reduceLT, Nat.reduceLeDiff, Nat.reduceBEq, reduceIte, reduceCtorEq, Int.reduceAdd, Int.reduceLT, Int.reduceLE, Int.reduceGT, Int.reduceGE, Int.reduceEq, Int.reduceNe, Int.reduceBEq, Int.reduceBNe, Int.reduceToNat, Int.reduceNeg]
  (repeat (with_reducible refine ob ?_)); first | refine cl F59 (upValid_ok m sm) ?_ | refine clF F59 (upValid_ok m sm) (fun _ => by simp only [encEn, encMg, encPk, go_sem, Nat.reduceAdd, Nat.reduceMul, Nat.reduceSub, Nat.reduceEqDiff, Nat.reduceLT, Nat.reduceLeDiff, Nat.reduceBEq, reduceIte, reduceCtorEq, Int.reduceAdd, Int.reduceLT, Int.reduceLE, Int.reduceGT, Int.reduceGE, Int.reduceEq, Int.reduceNe, Int.reduceBEq, Int.reduceBNe, Int.reduceToNat, Int.reduceNeg]) ?_
  try simp only [encMg, go_sem, Nat.reduceAdd, Nat.reduceMul, Nat.reduceSub, Nat.reduceEqDiff, Nat.reduceLT, Nat.reduceLeDiff, Nat.reduceBEq, reduceIte, reduceCtorEq, Int.reduceAdd, Int.reduceLT, Int.reduceLE, Int.reduceGT, Int.reduceGE, Int.reduceEq, Int.reduceNe, Int.reduceBEq, Int.reduceBNe, Int.reduceToNat, Int.reduceNeg]
  (repeat (with_reducible refine ob ?_)); first | refine cl F60 (valid53_ok m sm) ?_ | refine clF F60 (valid53_ok m sm) (fun _ => by simp only [encEn, encMg, encPk, go_sem, Nat.reduceAdd, Nat.reduceMul, Nat.reduceSub, Nat.reduceEqDiff, Nat.reduceLT, Nat.reduceLeDiff, Nat.reduceBEq, reduceIte, reduceCtorEq, Int.reduceAdd, Int.reduceLT, Int.reduceLE, Int.reduceGT, Int.reduceGE, Int.reduceEq, Int.reduceNe, Int.reduceBEq, Int.reduceBNe, Int.reduceToNat, Int.reduceNeg]) ?_
  try simp only [encMg, go_sem, Nat.reduceAdd, Nat.reduceMul, Nat.reduceSub, Nat.reduceEqDiff, Nat.reduceLT, Nat.reduceLeDiff, Nat.reduceBEq, reduceIte, reduceCtorEq, Int.reduceAdd, Int.reduceLT, Int.reduceLE, Int.reduceGT, Int.reduceGE, Int.reduceEq, Int.reduceNe, Int.reduceBEq, Int.reduceBNe, Int.reduceToNat, Int.reduceNeg]
  (repeat (with_reducible refine ob ?_)); first | refine cl F44 (to53_ok m sm.1) ?_ | refine clF F44 (to53_ok m sm.1) (fun _ => by simp only [encEn, encMg, encPk, go_sem, Nat.reduceAdd, Nat.reduceMul, Nat.reduceSub, Nat.reduceEqDiff, Nat.reduceLT, Nat.reduceLeDiff, Nat.reduceBEq, reduceIte, reduceCtorEq, Int.reduceAdd, Int.reduceLT, Int.reduceLE, Int.reduceGT, Int.reduceGE, Int.reduceEq, Int.reduceNe, Int.reduceBEq, Int.reduceBNe, Int.reduceToNat, Int.reduceNeg]) ?_
  try simp only [encMg, go_sem, Nat.reduceAdd, Nat.reduceMul, Nat.reduceSub, Nat.reduceEqDiff, Nat.reduceLT, Nat.reduceLeDiff, Nat.reduceBEq, reduceIte, reduceCtorEq, Int.reduceAdd, Int.reduceLT, Int.reduceLE, Int.reduceGT, Int.reduceGE, Int.reduceEq, Int.reduceNe, Int.reduceBEq, Int.reduceBNe, Int.reduceToNat, Int.reduceNeg]
  (repeat (with_reducible refine ob ?_)); first | refine cl F50 (upPhaseOf_ok m p.sess sm) ?_ | refine clF F50 (upPhaseOf_ok m p.sess sm) (fun _ => by simp only [encEn, encMg, encPk, go_sem, Nat.reduceAdd, Nat.reduceMul, Nat.reduceSub, Nat.reduceEqDiff, Nat.reduceLT, Nat.reduceLeDiff, Nat.reduceBEq, reduceIte, reduceCtorEq, Int.reduceAdd, Int.reduceLT, Int.reduceLE, Int.reduceGT, Int.reduceGE, Int.reduceEq, Int.reduceNe, Int.reduceBEq, Int.reduceBNe, Int.reduceToNat, Int.reduceNeg]) ?_
  try simp only [encMg, go_sem, Nat.reduceAdd, Nat.reduceMul, Nat.reduceSub, Nat.reduceEqDiff, Nat.reduceLT, Nat.reduceLeDiff, Nat.reduceBEq, reduceIte, reduceCtorEq, Int.reduceAdd, Int.reduceLT, Int.reduceLE, Int.reduceGT, Int.reduceGE, Int.reduceEq, Int.reduceNe, Int.reduceBEq, Int.reduceBNe, Int.reduceToNat, Int.reduceNeg]
  (repeat (with_reducible refine ob ?_)); first | refine cl F61 (phaseOf53_ok m p.sess sm) ?_ | refine clF F61 (phaseOf53_ok m p.sess sm) (fun _ => by simp only [encEn, encMg, encPk, go_sem, Nat.reduceAdd, Nat.reduceMul, Nat.reduceSub, Nat.reduceEqDiff, Nat.reduceLT, Nat.reduceLeDiff, Nat.reduceBEq, reduceIte, reduceCtorEq, Int.reduceAdd, Int.reduceLT, Int.reduceLE, Int.reduceGT, Int.reduceGE, Int.reduceEq, Int.reduceNe, Int.reduceBEq, Int.reduceBNe, Int.reduceToNat, Int.reduceNeg]) ?_
  try simp only [encMg, go_sem, Nat.reduceAdd, Nat.reduceMul, Nat.reduceSub, Nat.reduceEqDiff, Nat.reduceLT, Nat.reduceLeDiff, Nat.reduceBEq, reduceIte, reduceCtorEq, Int.reduceAdd, Int.reduceLT, Int.reduceLE, Int.reduceGT, Int.reduceGE, Int.reduceEq, Int.reduceNe, Int.reduceBEq, Int.reduceBNe, Int.reduceToNat, Int.reduceNeg]
  (repeat (with_reducible refine ob ?_)); first | refine cl F44 (to53_ok m sm.1) ?_ | refine clF F44 (to53_ok m sm.1) (fun _ => by simp only [encEn, encMg, encPk, go_sem, Nat.reduceAdd, Nat.reduceMul, Nat.reduceSub, Nat.reduceEqDiff, Nat.reduceLT, Nat.reduceLeDiff, Nat.reduceBEq, reduceIte, reduceCtorEq, Int.reduceAdd, Int.reduceLT, Int.reduceLE, Int.reduceGT, Int.reduceGE, Int.reduceEq, Int.reduceNe, Int.reduceBEq, Int.reduceBNe, Int.reduceToNat, Int.reduceNeg]) ?_
  try simp only [encMg, go_sem, Nat.reduceAdd, Nat.reduceMul, Nat.reduceSub, Nat.reduceEqDiff, Nat.reduceLT, Nat.reduceLeDiff, Nat.reduceBEq, reduceIte, reduceCtorEq, Int.reduceAdd, Int.reduceLT, Int.reduceLE, Int.reduceGT, Int.reduceGE, Int.reduceEq, Int.reduceNe, Int.reduceBEq, Int.reduceBNe, Int.reduceToNat, Int.reduceNeg]
  (repeat (with_reducible refine ob ?_)); first | refine cl F44 (to53_ok o so.1) ?_ | refine clF F44 (to53_ok o so.1) (fun _ => by simp only [encEn, encMg, encPk, go_sem, Nat.reduceAdd, Nat.reduceMul, Nat.reduceSub, Nat.reduceEqDiff, Nat.reduceLT, Nat.reduceLeDiff, Nat.reduceBEq, reduceIte, reduceCtorEq, Int.reduceAdd, Int.reduceLT, Int.reduceLE, Int.reduceGT, Int.reduceGE, Int.reduceEq, Int.reduceNe, Int.reduceBEq, Int.reduceBNe, Int.reduceToNat, Int.reduceNeg]) ?_
  try simp only [encMg, go_sem, Nat.reduceAdd, Nat.reduceMul, Nat.reduceSub, Nat.reduceEqDiff, Nat.reduceLT, Nat.reduceLeDiff, Nat.reduceBEq, reduceIte, reduceCtorEq, Int.reduceAdd, Int.reduceLT, Int.reduceLE, Int.reduceGT, Int.reduceGE, Int.reduceEq, Int.reduceNe, Int.reduceBEq, Int.reduceBNe, Int.reduceToNat, Int.reduceNeg]
  (repeat (with_reducible refine ob ?_)); first | refine cl F62 (mgEqual_ok m o sm) ?_ | refine clF F62 (mgEqual_ok m o sm) (fun _ => by simp only [encEn, encMg, encPk, go_sem, Nat.reduceAdd, Nat.reduceMul, Nat.reduceSub, Nat.reduceEqDiff, Nat.reduceLT, Nat.reduceLeDiff, Nat.reduceBEq, reduceIte, reduceCtorEq, Int.reduceAdd, Int.reduceLT, Int.reduceLE, Int.reduceGT, Int.reduceGE, Int.reduceEq, Int.reduceNe, Int.reduceBEq, Int.reduceBNe, Int.reduceToNat, Int.reduceNeg]) ?_
  try simp only [encMg, go_sem, Nat.reduceAdd, Nat.reduceMul, Nat.reduceSub, Nat.reduceEqDiff, Nat.reduceLT, Nat.reduceLeDiff, Nat.reduceBEq, reduceIte, reduceCtorEq, Int.reduceAdd, Int.reduceLT, Int.reduceLE, Int.reduceGT, Int.reduceGE, Int.reduceEq, Int.reduceNe, Int.reduceBEq, Int.reduceBNe, Int.reduceToNat, Int.reduceNeg]
  (repeat (with_reducible refine ob ?_)); first | refine cl F57 (equal53_ok m o sm) ?_ | refine clF F57 (equal53_ok m o sm) (fun _ => by simp only [encEn, encMg, encPk, go_sem, Nat.reduceAdd, Nat.reduceMul, Nat.reduceSub, Nat.reduceEqDiff, Nat.reduceLT, Nat.reduceLeDiff, Nat.reduceBEq, reduceIte, reduceCtorEq, Int.reduceAdd, Int.reduceLT, Int.reduceLE, Int.reduceGT, Int.reduceGE, Int.reduceEq, Int.reduceNe, Int.reduceBEq, Int.reduceBNe, Int.reduceToNat, Int.reduceNeg]) ?_
  try simp only [encMg, go_sem, Nat.reduceAdd, Nat.reduceMul, Nat.reduceSub, Nat.reduceEqDiff, Nat.reduceLT, Nat.reduceLeDiff, Nat.reduceBEq, reduceIte, reduceCtorEq, Int.reduceAdd, Int.reduceLT, Int.reduceLE, Int.reduceGT, Int.reduceGE, Int.reduceEq, Int.reduceNe, Int.reduceBEq, Int.reduceBNe, Int.reduceToNat, Int.reduceNeg]
  (repeat (with_reducible refine ob ?_)); refine no_ ?_
  have e1 : ((upReport m p).2 != 0 || upValid (upReport m p).1) = true := by
    by_cases h : (upReport m p).2 = 0
    · rw [vr h]; simp
    · simp [h]
  have e2 : ((upBegin m p.sess).2 != 0 || upValid (upBegin m p.sess).1) = true := by
    by_cases h : (upBegin m p.sess).2 = 0
    · rw [vb h]; simp
    · simp [h]
  try simp only [encMg, go_sem, Nat.reduceAdd, Nat.reduceMul, Nat.reduceSub, Nat.reduceEqDiff, Nat.reduceLT, Nat.reduceLeDiff, Nat.reduceBEq, reduceIte, reduceCtorEq, Int.reduceAdd, Int.reduceLT, Int.reduceLE, Int.reduceGT, Int.reduceGE, Int.reduceEq, Int.reduceNe, Int.reduceBEq, Int.reduceBNe, Int.reduceToNat, Int.reduceNeg]
  (repeat (with_reducible refine ob ?_)); first | refine cl F59 (upValid_ok (upReport m p).1 sr) ?_ | refine clF F59 (upValid_ok (upReport m p).1 sr) (fun _ => by simp only [encEn, encMg, encPk, go_sem, Nat.reduceAdd, Nat.reduceMul, Nat.reduceSub, Nat.reduceEqDiff, Nat.reduceLT, Nat.reduceLeDiff, Nat.reduceBEq, reduceIte, reduceCtorEq, Int.reduceAdd, Int.reduceLT, Int.reduceLE, Int.reduceGT, Int.reduceGE, Int.reduceEq, Int.reduceNe, Int.reduceBEq, Int.reduceBNe, Int.reduceToNat, Int.reduceNeg]) ?_
  try simp only [encMg, e1, go_sem, Nat.reduceAdd, Nat.reduceMul, Nat.reduceSub, Nat.reduceEqDiff, Nat.reduceLT, Nat.reduceLeDiff, Nat.reduceBEq, reduceIte, reduceCtorEq, Int.reduceAdd, Int.reduceLT, Int.reduceLE, Int.reduceGT, Int.reduceGE, Int.reduceEq, Int.reduceNe, Int.reduceBEq, Int.reduceBNe, Int.reduceToNat, Int.reduceNeg]
  (repeat (with_reducible refine ob ?_)); first | refine cl F59 (upValid_ok (upBegin m p.sess).1 sb) ?_ | refine clF F59 (upValid_ok (upBegin m p.sess).1 sb) (fun _ => by simp only [encEn, encMg, encPk, go_sem, Nat.reduceAdd, Nat.reduceMul, Nat.reduceSub, Nat.reduceEqDiff, Nat.reduceLT, Nat.reduceLeDiff, Nat.reduceBEq, reduceIte, reduceCtorEq, Int.reduceAdd, Int.reduceLT, Int.reduceLE, Int.reduceGT, Int.reduceGE, Int.reduceEq, Int.reduceNe, Int.reduceBEq, Int.reduceBNe, Int.reduceToNat, Int.reduceNeg]) ?_
  try simp only [encMg, e1, e2, go_sem, Nat.reduceAdd, Nat.reduceMul, Nat.reduceSub, Nat.reduceEqDiff, Nat.reduceLT, Nat.reduceLeDiff, Nat.reduceBEq, reduceIte, reduceCtorEq, Int.reduceAdd, Int.reduceLT, Int.reduceLE, Int.reduceGT, Int.reduceGE, Int.reduceEq, Int.reduceNe, Int.reduceBEq, Int.reduceBNe, Int.reduceToNat, Int.reduceNeg]
  intro h
  rw [h]
  rfl
end Go.Proofs.Ythcpckcgjplhiaa

/- The reference's Report. -/
namespace Go.Proofs.Ythcpckcgjplhiaa
open Go.Abs
set_option linter.unusedSimpArgs false

section
variable {P : Program} {k0 o : Nat} {p : List (Nat × Nat)} {Q : SExit → St → Prop} {st : St}
noncomputable def s54or0 : List SOper := [
  ⟨some 2, .box 3 (.t 0), none⟩,
  ⟨some 3, .box 2 (.t 1), none⟩,
  ⟨some 4, .alloc 1 [(.d (.int .i64 0)), (.d .nilsl)], none⟩,
  ⟨some 5, .mov (.k (.d (.int .i64 0))), none⟩]
noncomputable def s54or1 : List SOper := [
  ⟨some 9, .load (some 2) (.t 2), none⟩,
  ⟨some 10, .call (.k (.d (.func (.func 60) [] []))) [(.t 9)], none⟩,
  ⟨some 11, .not (.t 10), none⟩,
  ⟨some 12, .mov (.t 11), none⟩,
  ⟨some 13, .load (some 9) (.t 3), some (12, false)⟩,
  ⟨some 14, .call (.k (.d (.func (.func 75) [] []))) [(.t 13)], some (12, false)⟩,
  ⟨some 15, .not (.t 14), some (12, false)⟩,
  ⟨some 16, .pick (.t 12) (.k (.d (.bool true))) (.t 15), none⟩,
  ⟨some 17, .mov (.t 16), none⟩,
  ⟨some 18, .faddr 0 (.t 3), some (17, false)⟩,
  ⟨some 19, .load none (.t 18), some (17, false)⟩,
  ⟨some 20, .bin .neq (.t 19) (.k (.d (.int .i64 4))), some (17, false)⟩,
  ⟨some 21, .pick (.t 17) (.k (.d (.bool true))) (.t 20), none⟩,
  ⟨some 22, .mov (.t 21), none⟩,
  ⟨some 23, .faddr 3 (.t 3), some (22, false)⟩,
  ⟨some 24, .load none (.t 23), some (22, false)⟩,
  ⟨some 25, .faddr 0 (.t 2), some (22, false)⟩,
  ⟨some 26, .load none (.t 25), some (22, false)⟩,
  ⟨some 27, .bin .geq (.t 24) (.t 26), some (22, false)⟩,
  ⟨some 28, .pick (.t 22) (.k (.d (.bool true))) (.t 27), none⟩]
noncomputable def s54or2 : List SOper := [
  ⟨some 29, .build [(.int .i64 0), .nilsl] [], none⟩,
  ⟨none, .store (some 2) (.t 4) (.t 29), none⟩,
  ⟨some 5, .mov (.k (.d (.int .i64 1))), none⟩]
noncomputable def s54or3 : List SOper := [
  ⟨some 30, .load (some 2) (.t 2), none⟩,
  ⟨some 31, .faddr 1 (.t 3), none⟩,
  ⟨some 32, .load none (.t 31), none⟩,
  ⟨some 33, .call (.k (.d (.func (.func 89) [] []))) [(.t 30), (.t 32)], none⟩,
  ⟨some 6, .mov (.t 33), none⟩]
noncomputable def s54or4 : List SOper := [
  ⟨some 34, .mov (.t 6), none⟩,
  ⟨some 35, .bin .lss (.t 34) (.k (.d (.int .i64 0))), none⟩]
noncomputable def s54or5 : List SOper := [
  ⟨some 36, .build [(.int .i64 0), .nilsl] [], none⟩,
  ⟨none, .store (some 2) (.t 4) (.t 36), none⟩,
  ⟨some 5, .mov (.k (.d (.int .i64 8))), none⟩]
noncomputable def s54or6 : List SOper := [
  ⟨some 37, .faddr 1 (.t 2), none⟩,
  ⟨some 38, .load none (.t 37), none⟩,
  ⟨some 39, .mov (.t 6), none⟩,
  ⟨some 40, .iaddr 4 (.t 38) (.t 39), none⟩,
  ⟨some 41, .load (some 4) (.t 40), none⟩,
  ⟨some 7, .alloc 1 [(.d (.int .i64 0)), (.d (.int .i64 0)), (.d .nilsl), (.d .nilsl)], none⟩,
  ⟨none, .store (some 4) (.t 7) (.t 41), none⟩]
noncomputable def s54or7 : List SOper := [
  ⟨some 42, .faddr 6 (.t 3), none⟩,
  ⟨some 43, .load none (.t 42), none⟩,
  ⟨some 44, .bin .eql (.t 43) (.k (.d (.int .i64 1))), none⟩]
noncomputable def s54or8 : List SOper := [
  ⟨some 45, .faddr 2 (.t 7), none⟩,
  ⟨some 46, .load none (.t 45), none⟩,
  ⟨some 47, .faddr 3 (.t 3), none⟩,
  ⟨some 48, .load none (.t 47), none⟩,
  ⟨some 49, .iaddr 1 (.t 46) (.t 48), none⟩,
  ⟨some 50, .load none (.t 49), none⟩]
noncomputable def s54or9 : List SOper := [
  ⟨some 51, .build [(.int .i64 0), .nilsl] [], none⟩,
  ⟨none, .store (some 2) (.t 4) (.t 51), none⟩,
  ⟨some 5, .mov (.k (.d (.int .i64 21))), none⟩]
noncomputable def s54or10 : List SOper := [
  ⟨some 52, .faddr 2 (.t 7), none⟩,
  ⟨some 53, .load none (.t 52), none⟩,
  ⟨some 54, .faddr 3 (.t 3), none⟩,
  ⟨some 55, .load none (.t 54), none⟩,
  ⟨some 56, .call (.k (.d (.func (.func 90) [] []))) [(.t 53), (.t 55)], none⟩,
  ⟨some 57, .faddr 2 (.t 7), none⟩,
  ⟨none, .store none (.t 57) (.t 56), none⟩]
noncomputable def s54or11 : List SOper := [
  ⟨some 58, .faddr 3 (.t 7), none⟩,
  ⟨some 59, .load none (.t 58), none⟩,
  ⟨some 60, .faddr 3 (.t 3), none⟩,
  ⟨some 61, .load none (.t 60), none⟩,
  ⟨some 62, .iaddr 1 (.t 59) (.t 61), none⟩,
  ⟨some 63, .load none (.t 62), none⟩]
noncomputable def s54or12 : List SOper := [
  ⟨some 64, .build [(.int .i64 0), .nilsl] [], none⟩,
  ⟨none, .store (some 2) (.t 4) (.t 64), none⟩,
  ⟨some 5, .mov (.k (.d (.int .i64 21))), none⟩]
noncomputable def s54or13 : List SOper := [
  ⟨some 65, .faddr 1 (.t 7), none⟩,
  ⟨some 66, .load none (.t 65), none⟩,
  ⟨some 67, .bin .eql (.t 66) (.k (.d (.int .i64 1))), none⟩]
noncomputable def s54or14 : List SOper := [
  ⟨some 68, .build [(.int .i64 0), .nilsl] [], none⟩,
  ⟨none, .store (some 2) (.t 4) (.t 68), none⟩,
  ⟨some 5, .mov (.k (.d (.int .i64 7))), none⟩]
noncomputable def s54or15 : List SOper := [
  ⟨some 69, .faddr 3 (.t 7), none⟩,
  ⟨some 70, .load none (.t 69), none⟩,
  ⟨some 71, .faddr 3 (.t 3), none⟩,
  ⟨some 72, .load none (.t 71), none⟩,
  ⟨some 73, .call (.k (.d (.func (.func 90) [] []))) [(.t 70), (.t 72)], none⟩,
  ⟨some 74, .faddr 3 (.t 7), none⟩,
  ⟨none, .store none (.t 74) (.t 73), none⟩]
noncomputable def s54or16 : List SOper := [
  ⟨some 75, .load (some 4) (.t 7), none⟩,
  ⟨some 76, .call (.k (.d (.func (.func 91) [] []))) [(.t 75)], none⟩,
  ⟨some 77, .faddr 1 (.t 7), none⟩,
  ⟨none, .store none (.t 77) (.t 76), none⟩]
noncomputable def s54or17 : List SOper := [
  ⟨some 78, .faddr 0 (.t 2), none⟩,
  ⟨some 79, .load none (.t 78), none⟩,
  ⟨some 80, .buildSlice false 4 0 [(.int .i64 0), (.int .i64 0), .nilsl, .nilsl] [], none⟩,
  ⟨some 81, .faddr 1 (.t 2), none⟩,
  ⟨some 82, .load none (.t 81), none⟩,
  ⟨some 83, .appendO 2 4 64 (.t 80) (.t 82), none⟩,
  ⟨some 84, .build [(.int .i64 0), .nilsl] [(0, 1, (.t 79)), (1, 1, (.t 83))], none⟩,
  ⟨some 8, .alloc 1 [(.d (.int .i64 0)), (.d .nilsl)], none⟩,
  ⟨none, .store (some 2) (.t 8) (.t 84), none⟩]
noncomputable def s54or18 : List SOper := [
  ⟨some 85, .faddr 1 (.t 8), none⟩,
  ⟨some 86, .load none (.t 85), none⟩,
  ⟨some 87, .mov (.t 6), none⟩,
  ⟨some 88, .load (some 4) (.t 7), none⟩,
  ⟨some 89, .iaddr 4 (.t 86) (.t 87), none⟩,
  ⟨none, .store (some 4) (.t 89) (.t 88), none⟩]
noncomputable def s54or19 : List SOper := [
  ⟨some 90, .load (some 2) (.t 8), none⟩,
  ⟨none, .store (some 2) (.t 4) (.t 90), none⟩,
  ⟨some 5, .mov (.k (.d (.int .i64 0))), none⟩]
noncomputable def s54o : SCode := (.seq (.region s54or0 3 []) (.seq (.seq (.region s54or1 0 []) (.cond (.t 28) (.seq (.region s54or2 0 []) (.pause .ret)) .skip)) (.seq (.region s54or3 0 []) (.seq (.seq (.region s54or4 0 []) (.cond (.t 35) (.seq (.region s54or5 0 []) (.pause .ret)) .skip)) (.seq (.region s54or6 1 []) (.seq (.seq (.region s54or7 0 []) (.cond (.t 44) (.seq (.seq (.region s54or8 0 []) (.cond (.t 50) (.seq (.region s54or9 0 []) (.pause .ret)) .skip)) (.region s54or10 0 [])) (.seq (.seq (.region s54or11 0 []) (.cond (.t 63) (.seq (.region s54or12 0 []) (.pause .ret)) .skip)) (.seq (.seq (.region s54or13 0 []) (.cond (.t 67) (.seq (.region s54or14 0 []) (.pause .ret)) .skip)) (.region s54or15 0 []))))) (.seq (.region s54or16 0 []) (.seq (.region s54or17 2 [(1, 5), (1, 7), (4, 7), (5, 7)]) (.seq (.region s54or18 0 []) (.seq (.region s54or19 0 []) (.pause .ret)))))))))))
theorem e54o : AWp P k0 s54o Q st = AWp P k0 (.seq (.region s54or0 3 []) (.seq (.seq (.region s54or1 0 []) (.cond (.t 28) (.seq (.region s54or2 0 []) (.pause .ret)) .skip)) (.seq (.region s54or3 0 []) (.seq (.seq (.region s54or4 0 []) (.cond (.t 35) (.seq (.region s54or5 0 []) (.pause .ret)) .skip)) (.seq (.region s54or6 1 []) (.seq (.seq (.region s54or7 0 []) (.cond (.t 44) (.seq (.seq (.region s54or8 0 []) (.cond (.t 50) (.seq (.region s54or9 0 []) (.pause .ret)) .skip)) (.region s54or10 0 [])) (.seq (.seq (.region s54or11 0 []) (.cond (.t 63) (.seq (.region s54or12 0 []) (.pause .ret)) .skip)) (.seq (.seq (.region s54or13 0 []) (.cond (.t 67) (.seq (.region s54or14 0 []) (.pause .ret)) .skip)) (.region s54or15 0 []))))) (.seq (.region s54or16 0 []) (.seq (.region s54or17 2 [(1, 5), (1, 7), (4, 7), (5, 7)]) (.seq (.region s54or18 0 []) (.seq (.region s54or19 0 []) (.pause .ret))))))))))) Q st := rfl
theorem u54or0 : goReg P s54or0 o p Q st = goLit P (litOf s54or0.eq_1) o p Q st := goReg_of _
theorem u54or1 : goReg P s54or1 o p Q st = goLit P (litOf s54or1.eq_1) o p Q st := goReg_of _
theorem u54or2 : goReg P s54or2 o p Q st = goLit P (litOf s54or2.eq_1) o p Q st := goReg_of _
theorem u54or3 : goReg P s54or3 o p Q st = goLit P (litOf s54or3.eq_1) o p Q st := goReg_of _
theorem u54or4 : goReg P s54or4 o p Q st = goLit P (litOf s54or4.eq_1) o p Q st := goReg_of _
theorem u54or5 : goReg P s54or5 o p Q st = goLit P (litOf s54or5.eq_1) o p Q st := goReg_of _
theorem u54or6 : goReg P s54or6 o p Q st = goLit P (litOf s54or6.eq_1) o p Q st := goReg_of _
theorem u54or7 : goReg P s54or7 o p Q st = goLit P (litOf s54or7.eq_1) o p Q st := goReg_of _
theorem u54or8 : goReg P s54or8 o p Q st = goLit P (litOf s54or8.eq_1) o p Q st := goReg_of _
theorem u54or9 : goReg P s54or9 o p Q st = goLit P (litOf s54or9.eq_1) o p Q st := goReg_of _
theorem u54or10 : goReg P s54or10 o p Q st = goLit P (litOf s54or10.eq_1) o p Q st := goReg_of _
theorem u54or11 : goReg P s54or11 o p Q st = goLit P (litOf s54or11.eq_1) o p Q st := goReg_of _
theorem u54or12 : goReg P s54or12 o p Q st = goLit P (litOf s54or12.eq_1) o p Q st := goReg_of _
theorem u54or13 : goReg P s54or13 o p Q st = goLit P (litOf s54or13.eq_1) o p Q st := goReg_of _
theorem u54or14 : goReg P s54or14 o p Q st = goLit P (litOf s54or14.eq_1) o p Q st := goReg_of _
theorem u54or15 : goReg P s54or15 o p Q st = goLit P (litOf s54or15.eq_1) o p Q st := goReg_of _
theorem u54or16 : goReg P s54or16 o p Q st = goLit P (litOf s54or16.eq_1) o p Q st := goReg_of _
theorem u54or17 : goReg P s54or17 o p Q st = goLit P (litOf s54or17.eq_1) o p Q st := goReg_of _
theorem u54or18 : goReg P s54or18 o p Q st = goLit P (litOf s54or18.eq_1) o p Q st := goReg_of _
theorem u54or19 : goReg P s54or19 o p Q st = goLit P (litOf s54or19.eq_1) o p Q st := goReg_of _
attribute [go_sem] u54or0 u54or1 u54or2 u54or3 u54or4 u54or5 u54or6 u54or7 u54or8 u54or9 u54or10 u54or11 u54or12 u54or13 u54or14 u54or15 u54or16 u54or17 u54or18 u54or19 e54o
set_option maxRecDepth 100000 in
theorem F54o : FnIs Try.prog 54 Try.f54 [1000083] news s54o [.cell 4 (some 2), .tmp 5] 91 := ⟨follows, Try.func54, by kernel_rfl, by kernel_rfl, by kernel_rfl, by kernel_rfl⟩

end

theorem flatE_put : ∀ (l : List En) (k : Nat) (y : En), k < l.length → setCells (flatE l) (k * 4) [.d (.int .i64 y.sess), .d (.int .i64 y.phase), .d (.sl 1 (y.moved.map encB)), .d (.sl 1 (y.opened.map encB))] = flatE (l.set k y)
  | x :: l, 0, y, _ => by
    rw [List.set_cons_zero, flatE_cons, flatE_cons]; rfl
  | x :: l, k + 1, y, hk => by
    rw [List.set_cons_succ, flatE_cons, flatE_cons, ← flatE_put l k y (by simpa using hk), show (k + 1) * 4 = k * 4 + 1 + 1 + 1 + 1 by omega]
    simp only [setCells, List.set_cons_succ]

set_option maxRecDepth 10000 in
theorem refReport_ok (m : Mg) (p : Pk) (hm : m.Sm) (hp : p.Sm) : ACall Try.prog 54 [.d (.agg (encMg m)), .d (.agg (encPk p))] [] (.tup [.d (.agg (encMg (upReport m p).1)), .d (.int .i64 (upReport m p).2)]) [] := by
  have hl := hm.1
  refine F54o.goT ?_
  try simp only [encMg, encPk, go_sem, Nat.reduceAdd, Nat.reduceMul, Nat.reduceSub, Nat.reduceEqDiff, Nat.reduceLT, Nat.reduceLeDiff, Nat.reduceBEq, reduceIte, reduceCtorEq, Int.reduceAdd, Int.reduceLT, Int.reduceLE, Int.reduceGT, Int.reduceGE, Int.reduceEq, Int.reduceNe, Int.reduceBEq, Int.reduceBNe, Int.reduceToNat, Int.reduceNeg]
  (repeat (with_reducible refine ob ?_)); first | refine cl F60 (valid53_ok m hm) ?_ | refine clF F60 (valid53_ok m hm) (fun _ => by simp only [encEn, encMg, encPk, go_sem, Nat.reduceAdd, Nat.reduceMul, Nat.reduceSub, Nat.reduceEqDiff, Nat.reduceLT, Nat.reduceLeDiff, Nat.reduceBEq, reduceIte, reduceCtorEq, Int.reduceAdd, Int.reduceLT, Int.reduceLE, Int.reduceGT, Int.reduceGE, Int.reduceEq, Int.reduceNe, Int.reduceBEq, Int.reduceBNe, Int.reduceToNat, Int.reduceNeg]) ?_
  try (refine ev ?_; try exact True.intro)
  (repeat (with_reducible refine ob ?_)); first | refine cl F75 (valid46_ok p hp) ?_ | refine clF F75 (valid46_ok p hp) (fun _ => by simp only [encEn, encMg, encPk, go_sem, Nat.reduceAdd, Nat.reduceMul, Nat.reduceSub, Nat.reduceEqDiff, Nat.reduceLT, Nat.reduceLeDiff, Nat.reduceBEq, reduceIte, reduceCtorEq, Int.reduceAdd, Int.reduceLT, Int.reduceLE, Int.reduceGT, Int.reduceGE, Int.reduceEq, Int.reduceNe, Int.reduceBEq, Int.reduceBNe, Int.reduceToNat, Int.reduceNeg]) ?_
  try (refine ev ?_; try exact True.intro)
  (repeat (with_reducible refine ob ?_))
  try simp only [rep_guard m p, go_sem, Nat.reduceAdd, Nat.reduceMul, Nat.reduceSub, Nat.reduceEqDiff, Nat.reduceLT, Nat.reduceLeDiff, Nat.reduceBEq, reduceIte, reduceCtorEq, Int.reduceAdd, Int.reduceLT, Int.reduceLE, Int.reduceGT, Int.reduceGE, Int.reduceEq, Int.reduceNe, Int.reduceBEq, Int.reduceBNe, Int.reduceToNat, Int.reduceNeg]
  (repeat (with_reducible refine ob ?_)); refine iff_ _ (fun h => ?_) (fun h => ?_)
  · have hb : upReport m p = (⟨0, []⟩, 1) := by simp only [upReport, h, if_true]
    try simp only [hb, List.map_nil, go_sem, Nat.reduceAdd, Nat.reduceMul, Nat.reduceSub, Nat.reduceEqDiff, Nat.reduceLT, Nat.reduceLeDiff, Nat.reduceBEq, reduceIte, reduceCtorEq, Int.reduceAdd, Int.reduceLT, Int.reduceLE, Int.reduceGT, Int.reduceGE, Int.reduceEq, Int.reduceNe, Int.reduceBEq, Int.reduceBNe, Int.reduceToNat, Int.reduceNeg]
    refine pu ?_
    try (refine ev ?_; try exact True.intro)
  have h0 := h
  obtain ⟨r1, r2, r3, r4, r5⟩ := repOk h0
  have hmw := upValid_mw.1 r1
  try simp only [h, go_sem, Nat.reduceAdd, Nat.reduceMul, Nat.reduceSub, Nat.reduceEqDiff, Nat.reduceLT, Nat.reduceLeDiff, Nat.reduceBEq, reduceIte, reduceCtorEq, Int.reduceAdd, Int.reduceLT, Int.reduceLE, Int.reduceGT, Int.reduceGE, Int.reduceEq, Int.reduceNe, Int.reduceBEq, Int.reduceBNe, Int.reduceToNat, Int.reduceNeg]
  (repeat (with_reducible refine ob ?_)); first | refine cl F89 (index53_ok m p.sess hm) ?_ | refine clF F89 (index53_ok m p.sess hm) (fun _ => by simp only [encEn, encMg, encPk, go_sem, Nat.reduceAdd, Nat.reduceMul, Nat.reduceSub, Nat.reduceEqDiff, Nat.reduceLT, Nat.reduceLeDiff, Nat.reduceBEq, reduceIte, reduceCtorEq, Int.reduceAdd, Int.reduceLT, Int.reduceLE, Int.reduceGT, Int.reduceGE, Int.reduceEq, Int.reduceNe, Int.reduceBEq, Int.reduceBNe, Int.reduceToNat, Int.reduceNeg]) ?_
  try simp only [idx_lt0, index_any hmw, go_sem, Nat.reduceAdd, Nat.reduceMul, Nat.reduceSub, Nat.reduceEqDiff, Nat.reduceLT, Nat.reduceLeDiff, Nat.reduceBEq, reduceIte, reduceCtorEq, Int.reduceAdd, Int.reduceLT, Int.reduceLE, Int.reduceGT, Int.reduceGE, Int.reduceEq, Int.reduceNe, Int.reduceBEq, Int.reduceBNe, Int.reduceToNat, Int.reduceNeg]
  (repeat (with_reducible refine ob ?_)); refine iff_ _ (fun h => ?_) (fun h => ?_)
  · have hb : upReport m p = (⟨0, []⟩, 8) := by simp only [upReport, h0]; simp only [h]; rfl
    try simp only [hb, List.map_nil, go_sem, Nat.reduceAdd, Nat.reduceMul, Nat.reduceSub, Nat.reduceEqDiff, Nat.reduceLT, Nat.reduceLeDiff, Nat.reduceBEq, reduceIte, reduceCtorEq, Int.reduceAdd, Int.reduceLT, Int.reduceLE, Int.reduceGT, Int.reduceGE, Int.reduceEq, Int.reduceNe, Int.reduceBEq, Int.reduceBNe, Int.reduceToNat, Int.reduceNeg]
    refine pu ?_
    try (refine ev ?_; try exact True.intro)
  have h1 : (upFind m p.sess).2 = true := by simpa using h
  have hk : (upFind m p.sess).1 < m.ents.length := upFind_lt h1
  have hx := hm.2 _ (List.getElem_mem hk)
  obtain ⟨v1, v2, _⟩ := upValid_at r1 hk
  have hfl : (m.ents.map encEn).flatten.length = m.ents.length * 4 := by have := flatE_len m.ents; simpa only [flatE, List.length_map] using this
  have hu : upReport m p = (if (repMarks p m.ents[(upFind m p.sess).1]).getD p.from_.toNat false then (⟨0, []⟩, 21)
      else if p.label == 2 && m.ents[(upFind m p.sess).1].phase == 1 then (⟨0, []⟩, 7)
      else (⟨m.roles, m.ents.set (upFind m p.sess).1 (repSet (repMark p m.ents[(upFind m p.sess).1]))⟩, 0)) := by
    simp only [upReport, h0, h1, getD_lt hk]; rfl
  rw [hu]
  clear hu
  have hix : idx (fun x => x.sess == p.sess) m.ents = ((upFind m p.sess).1 : Int) := by
    have ha : m.ents.any (fun x => x.sess == p.sess) = true := by rw [index_any hmw]; exact h1
    obtain ⟨i1, i2⟩ := idx_any ha
    obtain ⟨hk', hs⟩ := upFind_yes h1
    have hs2 : (m.ents[m.ents.findIdx (fun x => x.sess == p.sess)]'i2).sess = p.sess := by simpa using List.findIdx_getElem (w := i2)
    have := sess_inj hmw i2 hk' (hs2.trans hs.symm)
    omega
  have hlab : p.label = 1 ∨ p.label = 2 := (rep_form r2 r3).2.2.2.2
  try simp only [hix, go_sem, Nat.reduceAdd, Nat.reduceMul, Nat.reduceSub, Nat.reduceEqDiff, Nat.reduceLT, Nat.reduceLeDiff, Nat.reduceBEq, reduceIte, reduceCtorEq, Int.reduceAdd, Int.reduceLT, Int.reduceLE, Int.reduceGT, Int.reduceGE, Int.reduceEq, Int.reduceNe, Int.reduceBEq, Int.reduceBNe, Int.reduceToNat, Int.reduceNeg]
  generalize (upFind m p.sess).1 = k at hk hx v1 v2 ⊢
  simp only [getD_map encEn m.ents hk, encEn, go_sem, Nat.reduceAdd, Nat.reduceMul, Nat.reduceSub, Nat.reduceEqDiff, Nat.reduceLT, Nat.reduceLeDiff, Nat.reduceBEq, reduceIte, reduceCtorEq, Int.reduceAdd, Int.reduceLT, Int.reduceLE, Int.reduceGT, Int.reduceGE, Int.reduceEq, Int.reduceNe, Int.reduceBEq, Int.reduceBNe, Int.reduceToNat, Int.reduceNeg]
  (repeat (with_reducible refine ob ?_))
  refine iff_ _ (fun hl1 => ?_) (fun hl1 => ?_)
  · have hl2 : (p.label == 2) = false := by simp at hl1 ⊢; omega
    have e1 : repMarks p m.ents[k] = m.ents[k].moved := by simp only [repMarks, hl2]; rfl
    have e2 : repMark p m.ents[k] = { m.ents[k] with moved := m.ents[k].moved.set p.from_.toNat true } := by simp only [repMark, hl2]; rfl
    simp only [e1, e2, hl2, Bool.false_and, Bool.false_eq_true, if_false]
    try (refine ev ?_; try exact True.intro)
    have hb := getD_map encB m.ents[k].moved (show p.from_.toNat < m.ents[k].moved.length by omega)
    try simp only [hb, encB, go_sem, Nat.reduceAdd, Nat.reduceMul, Nat.reduceSub, Nat.reduceEqDiff, Nat.reduceLT, Nat.reduceLeDiff, Nat.reduceBEq, reduceIte, reduceCtorEq, Int.reduceAdd, Int.reduceLT, Int.reduceLE, Int.reduceGT, Int.reduceGE, Int.reduceEq, Int.reduceNe, Int.reduceBEq, Int.reduceBNe, Int.reduceToNat, Int.reduceNeg]
    (repeat (with_reducible refine ob ?_))
    refine iff_ _ (fun h3 => ?_) (fun h3 => ?_)
    · have h3' : m.ents[k].moved.getD p.from_.toNat false = true := by rw [getD_lt (by omega)]; exact h3
      try simp only [h3', List.map_nil, go_sem, Nat.reduceAdd, Nat.reduceMul, Nat.reduceSub, Nat.reduceEqDiff, Nat.reduceLT, Nat.reduceLeDiff, Nat.reduceBEq, reduceIte, reduceCtorEq, Int.reduceAdd, Int.reduceLT, Int.reduceLE, Int.reduceGT, Int.reduceGE, Int.reduceEq, Int.reduceNe, Int.reduceBEq, Int.reduceBNe, Int.reduceToNat, Int.reduceNeg]
      refine pu ?_
      try (refine ev ?_; try exact True.intro)
    have h3' : m.ents[k].moved.getD p.from_.toNat false = false := by rw [getD_lt (by omega)]; exact h3
    simp only [h3', Bool.false_eq_true, if_false]
    try (refine ev ?_; try exact True.intro)
    (repeat (with_reducible refine ob ?_)); first | refine cl F90u (marked_ok m.ents[k].moved p.from_ hx.1 r5 (by omega)) ?_ | refine clF F90u (marked_ok m.ents[k].moved p.from_ hx.1 r5 (by omega)) (fun _ => by simp only [encEn, encMg, encPk, go_sem, Nat.reduceAdd, Nat.reduceMul, Nat.reduceSub, Nat.reduceEqDiff, Nat.reduceLT, Nat.reduceLeDiff, Nat.reduceBEq, reduceIte, reduceCtorEq, Int.reduceAdd, Int.reduceLT, Int.reduceLE, Int.reduceGT, Int.reduceGE, Int.reduceEq, Int.reduceNe, Int.reduceBEq, Int.reduceBNe, Int.reduceToNat, Int.reduceNeg]) ?_
    try (refine ev ?_; try exact True.intro)
    have hy : ∀ y : En, y = { m.ents[k] with moved := m.ents[k].moved.set p.from_.toNat true } → y.Sm := by rintro y rfl; exact ⟨by simpa using hx.1, by simpa using hx.2⟩
    generalize hyd : { m.ents[k] with moved := m.ents[k].moved.set p.from_.toNat true } = y at hy ⊢
    have hys : m.ents[k].sess = y.sess := by rw [← hyd]
    have hyp : m.ents[k].phase = y.phase := by rw [← hyd]
    have hym : m.ents[k].moved.set p.from_.toNat true = y.moved := by rw [← hyd]
    have hyo : m.ents[k].opened = y.opened := by rw [← hyd]
    simp only [hym, hyo, hys, hyp]
    have hph := phase53_ok y (hy y rfl)
    simp only [encEn] at hph
    (repeat (with_reducible refine ob ?_)); first | refine cl F91 (hph) ?_ | refine clF F91 (hph) (fun _ => by simp only [encEn, encMg, encPk, go_sem, Nat.reduceAdd, Nat.reduceMul, Nat.reduceSub, Nat.reduceEqDiff, Nat.reduceLT, Nat.reduceLeDiff, Nat.reduceBEq, reduceIte, reduceCtorEq, Int.reduceAdd, Int.reduceLT, Int.reduceLE, Int.reduceGT, Int.reduceGE, Int.reduceEq, Int.reduceNe, Int.reduceBEq, Int.reduceBNe, Int.reduceToNat, Int.reduceNeg]) ?_
    try (refine ev ?_; try exact True.intro)
    (repeat (with_reducible refine ob ?_))
    have hput := flatE_put m.ents k (repSet y) hk
    simp only [setCells, repSet] at hput
    try simp only [flatE_def, hput, go_sem, Nat.reduceAdd, Nat.reduceMul, Nat.reduceSub, Nat.reduceEqDiff, Nat.reduceLT, Nat.reduceLeDiff, Nat.reduceBEq, reduceIte, reduceCtorEq, Int.reduceAdd, Int.reduceLT, Int.reduceLE, Int.reduceGT, Int.reduceGE, Int.reduceEq, Int.reduceNe, Int.reduceBEq, Int.reduceBNe, Int.reduceToNat, Int.reduceNeg]
    (repeat (with_reducible refine ob ?_))
    refine pu_frz 4 4 ((m.ents.set k (repSet y)).map encEn) ?_ (flatE_cellD _) (flatE_all _) (en_len _) (D.okWR_noPtr (noPtrR_En _))
    refine pu ?_
    try simp only [List.length_set, List.length_map, go_sem, Nat.reduceAdd, Nat.reduceMul, Nat.reduceSub, Nat.reduceEqDiff, Nat.reduceLT, Nat.reduceLeDiff, Nat.reduceBEq, reduceIte, reduceCtorEq, Int.reduceAdd, Int.reduceLT, Int.reduceLE, Int.reduceGT, Int.reduceGE, Int.reduceEq, Int.reduceNe, Int.reduceBEq, Int.reduceBNe, Int.reduceToNat, Int.reduceNeg]
  · have hl2 : (p.label == 2) = true := by simp at hl1 ⊢; omega
    have e1 : repMarks p m.ents[k] = m.ents[k].opened := by simp only [repMarks, hl2]; rfl
    have e2 : repMark p m.ents[k] = { m.ents[k] with opened := m.ents[k].opened.set p.from_.toNat true } := by simp only [repMark, hl2]; rfl
    simp only [e1, e2, hl2, Bool.true_and]
    try (refine ev ?_; try exact True.intro)
    have hb := getD_map encB m.ents[k].opened (show p.from_.toNat < m.ents[k].opened.length by omega)
    try simp only [hb, encB, go_sem, Nat.reduceAdd, Nat.reduceMul, Nat.reduceSub, Nat.reduceEqDiff, Nat.reduceLT, Nat.reduceLeDiff, Nat.reduceBEq, reduceIte, reduceCtorEq, Int.reduceAdd, Int.reduceLT, Int.reduceLE, Int.reduceGT, Int.reduceGE, Int.reduceEq, Int.reduceNe, Int.reduceBEq, Int.reduceBNe, Int.reduceToNat, Int.reduceNeg]
    (repeat (with_reducible refine ob ?_))
    refine iff_ _ (fun h3 => ?_) (fun h3 => ?_)
    · have h3' : m.ents[k].opened.getD p.from_.toNat false = true := by rw [getD_lt (by omega)]; exact h3
      try simp only [h3', List.map_nil, go_sem, Nat.reduceAdd, Nat.reduceMul, Nat.reduceSub, Nat.reduceEqDiff, Nat.reduceLT, Nat.reduceLeDiff, Nat.reduceBEq, reduceIte, reduceCtorEq, Int.reduceAdd, Int.reduceLT, Int.reduceLE, Int.reduceGT, Int.reduceGE, Int.reduceEq, Int.reduceNe, Int.reduceBEq, Int.reduceBNe, Int.reduceToNat, Int.reduceNeg]
      refine pu ?_
      try (refine ev ?_; try exact True.intro)
    have h3' : m.ents[k].opened.getD p.from_.toNat false = false := by rw [getD_lt (by omega)]; exact h3
    simp only [h3', Bool.false_eq_true, if_false]
    try (refine ev ?_; try exact True.intro)
    refine iff_ _ (fun h4 => ?_) (fun h4 => ?_)
    · try simp only [h4, List.map_nil, go_sem, Nat.reduceAdd, Nat.reduceMul, Nat.reduceSub, Nat.reduceEqDiff, Nat.reduceLT, Nat.reduceLeDiff, Nat.reduceBEq, reduceIte, reduceCtorEq, Int.reduceAdd, Int.reduceLT, Int.reduceLE, Int.reduceGT, Int.reduceGE, Int.reduceEq, Int.reduceNe, Int.reduceBEq, Int.reduceBNe, Int.reduceToNat, Int.reduceNeg]
      refine pu ?_
      try (refine ev ?_; try exact True.intro)
    simp only [h4, Bool.false_eq_true, if_false]
    try (refine ev ?_; try exact True.intro)
    (repeat (with_reducible refine ob ?_)); first | refine cl F90u (marked_ok m.ents[k].opened p.from_ hx.2 r5 (by omega)) ?_ | refine clF F90u (marked_ok m.ents[k].opened p.from_ hx.2 r5 (by omega)) (fun _ => by simp only [encEn, encMg, encPk, go_sem, Nat.reduceAdd, Nat.reduceMul, Nat.reduceSub, Nat.reduceEqDiff, Nat.reduceLT, Nat.reduceLeDiff, Nat.reduceBEq, reduceIte, reduceCtorEq, Int.reduceAdd, Int.reduceLT, Int.reduceLE, Int.reduceGT, Int.reduceGE, Int.reduceEq, Int.reduceNe, Int.reduceBEq, Int.reduceBNe, Int.reduceToNat, Int.reduceNeg]) ?_
    try (refine ev ?_; try exact True.intro)
    have hy : ∀ y : En, y = { m.ents[k] with opened := m.ents[k].opened.set p.from_.toNat true } → y.Sm := by rintro y rfl; exact ⟨by simpa using hx.1, by simpa using hx.2⟩
    generalize hyd : { m.ents[k] with opened := m.ents[k].opened.set p.from_.toNat true } = y at hy ⊢
    have hys : m.ents[k].sess = y.sess := by rw [← hyd]
    have hyp : m.ents[k].phase = y.phase := by rw [← hyd]
    have hym : m.ents[k].moved = y.moved := by rw [← hyd]
    have hyo : m.ents[k].opened.set p.from_.toNat true = y.opened := by rw [← hyd]
    simp only [hym, hyo, hys, hyp]
    have hph := phase53_ok y (hy y rfl)
    simp only [encEn] at hph
    (repeat (with_reducible refine ob ?_)); first | refine cl F91 (hph) ?_ | refine clF F91 (hph) (fun _ => by simp only [encEn, encMg, encPk, go_sem, Nat.reduceAdd, Nat.reduceMul, Nat.reduceSub, Nat.reduceEqDiff, Nat.reduceLT, Nat.reduceLeDiff, Nat.reduceBEq, reduceIte, reduceCtorEq, Int.reduceAdd, Int.reduceLT, Int.reduceLE, Int.reduceGT, Int.reduceGE, Int.reduceEq, Int.reduceNe, Int.reduceBEq, Int.reduceBNe, Int.reduceToNat, Int.reduceNeg]) ?_
    try (refine ev ?_; try exact True.intro)
    (repeat (with_reducible refine ob ?_))
    have hput := flatE_put m.ents k (repSet y) hk
    simp only [setCells, repSet] at hput
    try simp only [flatE_def, hput, go_sem, Nat.reduceAdd, Nat.reduceMul, Nat.reduceSub, Nat.reduceEqDiff, Nat.reduceLT, Nat.reduceLeDiff, Nat.reduceBEq, reduceIte, reduceCtorEq, Int.reduceAdd, Int.reduceLT, Int.reduceLE, Int.reduceGT, Int.reduceGE, Int.reduceEq, Int.reduceNe, Int.reduceBEq, Int.reduceBNe, Int.reduceToNat, Int.reduceNeg]
    (repeat (with_reducible refine ob ?_))
    refine pu_frz 4 4 ((m.ents.set k (repSet y)).map encEn) ?_ (flatE_cellD _) (flatE_all _) (en_len _) (D.okWR_noPtr (noPtrR_En _))
    refine pu ?_
    try simp only [List.length_set, List.length_map, go_sem, Nat.reduceAdd, Nat.reduceMul, Nat.reduceSub, Nat.reduceEqDiff, Nat.reduceLT, Nat.reduceLeDiff, Nat.reduceBEq, reduceIte, reduceCtorEq, Int.reduceAdd, Int.reduceLT, Int.reduceLE, Int.reduceGT, Int.reduceGE, Int.reduceEq, Int.reduceNe, Int.reduceBEq, Int.reduceBNe, Int.reduceToNat, Int.reduceNeg]

/-- The statement's function returns true. -/
theorem upgradeReport_ok (m o : Mg) (p : Pk) (hm : m.ents.length ≤ maxLen) (ho : o.ents.length ≤ maxLen) (hp : p.values.length ≤ maxLen) : ACall Try.prog 10 [.d (.agg (encMg m)), .d (.agg (encMg o)), .d (.agg (encPk p))] [] (.d (.bool true)) [] :=
  upgradeReport_of refReport_ok m o p hm ho hp
end Go.Proofs.Ythcpckcgjplhiaa
