/- UpgradeOrders. -/
import Derived.Test.YthcpckcgjplhiaaGj
namespace Go.Proofs.Ythcpckcgjplhiaa
open Go.Abs
set_option linter.unusedSimpArgs false

theorem fewM_sm {m : Mg} (h : fewM m = true) : m.Sm := by
  simp only [fewM, Bool.and_eq_true, decide_eq_true_eq, List.all_eq_true] at h
  refine ⟨by omega, fun x hx => ?_⟩
  have := h.1 x hx
  simp only [fewE, Bool.not_eq_true', Bool.or_eq_false_iff, decide_eq_false_iff_not] at this
  exact ⟨by omega, by omega⟩

theorem ordPk_sm (s r label : Int) : (ordPk s r label).Sm := ⟨Nat.zero_le _, Nat.zero_le _⟩
theorem mem_ordTo {s label : Int} {marks : List Bool} {n : Nat} {p : Pk} (h : p ∈ ordTo s label marks n) : ∃ r, r < n ∧ r < marks.length ∧ p = ordPk s r label := by
  simp only [ordTo, List.mem_flatMap, List.mem_range] at h
  obtain ⟨r, hr, hp⟩ := h
  unfold ordAt at hp
  split at hp
  · simp at hp
  · rename_i hq
    refine ⟨r, hr, ?_, by simpa using hp⟩
    rcases Nat.lt_or_ge r marks.length with h | h
    · exact h
    · simp [List.getD, h] at hq
theorem mem_orders {m : Mg} {p : Pk} (h : p ∈ upOrders m) : ∃ s r label : Int, p = ordPk s r label ∧ 1 ≤ s ∧ s ≤ 32 ∧ 0 ≤ r ∧ r < 6 ∧ (label = 1 ∨ label = 2) := by
  unfold upOrders at h
  split at h
  · rename_i hv
    simp only [ordersTo, List.mem_flatMap, List.mem_range] at h
    obtain ⟨i, hi, hp⟩ := h
    rw [getD_lt hi] at hp
    obtain ⟨r, hr, _, rfl⟩ := mem_ordTo hp
    obtain ⟨a1, a2, _⟩ := upValid_at hv hi
    obtain ⟨b1, b2, _⟩ := upValid_at2 hv hi
    have hro := upValid_roles hv
    have hml : ((enMarks m.ents[i]).length : Int) = m.roles := by unfold enMarks; split <;> omega
    exact ⟨_, r, _, rfl, b1, b2, by omega, by omega, by unfold enLabel; split <;> simp⟩
  · simp at h
theorem orders_sm {m : Mg} {p : Pk} (h : p ∈ upOrders m) : p.Sm := by
  obtain ⟨s, r, label, rfl, _⟩ := mem_orders h
  exact ordPk_sm _ _ _
theorem orders_valid {m : Mg} {p : Pk} (h : p ∈ upOrders m) : packetValid p = true := by
  obtain ⟨s, r, label, rfl, h1, h2, h3, h4, h5⟩ := mem_orders h
  rcases h5 with rfl | rfl <;> simp [packetValid, kindOk, order, role, bare, ordPk, h1, h2, h3, h4]
theorem orders_len {m : Mg} (hm : m.Sm) : (upOrders m).length ≤ 1000000 := by
  unfold upOrders
  split
  · have := ordersTo_len m hm _ (Nat.le_refl _)
    have := hm.1
    omega
  · simp

def Slaw (l : List Pk) (i : { i : Nat // i ≤ l.length }) : St :=
  ⟨[(2, true, .d (.bool false)), (3, true, .d (.sl 9 (l.map encPk))), (4, true, .d (.sl 9 (l.map encPk))), (5, true, .d (.int .i64 (i.val : Nat)))], [], [], 1⟩

set_option maxRecDepth 10000 in
theorem upgradeOrders_ok (m : Mg) (hm : m.ents.length ≤ maxLen) : ACall Try.prog 7 [.d (.agg (encMg m))] [] (.d (.bool true)) [] := by
  refine F7.go ?_
  try simp only [encMg, go_sem, Nat.reduceAdd, Nat.reduceMul, Nat.reduceSub, Nat.reduceEqDiff, Nat.reduceLT, Nat.reduceLeDiff, Nat.reduceBEq, reduceIte, reduceCtorEq, Int.reduceAdd, Int.reduceLT, Int.reduceLE, Int.reduceGT, Int.reduceGE, Int.reduceEq, Int.reduceNe, Int.reduceBEq, Int.reduceBNe, Int.reduceToNat, Int.reduceNeg]
  (repeat (with_reducible refine ob ?_)); first | refine cl F41 (awake53_ok) ?_ | refine clF F41 (awake53_ok) (fun _ => by simp only [encEn, encMg, encPk, go_sem, Nat.reduceAdd, Nat.reduceMul, Nat.reduceSub, Nat.reduceEqDiff, Nat.reduceLT, Nat.reduceLeDiff, Nat.reduceBEq, reduceIte, reduceCtorEq, Int.reduceAdd, Int.reduceLT, Int.reduceLE, Int.reduceGT, Int.reduceGE, Int.reduceEq, Int.reduceNe, Int.reduceBEq, Int.reduceBNe, Int.reduceToNat, Int.reduceNeg]) ?_
  try (refine ev ?_; try exact True.intro)
  (repeat (with_reducible refine ob ?_)); refine no_ ?_
  try (refine ev ?_; try exact True.intro)
  (repeat (with_reducible refine ob ?_)); first | refine cl F42 (fewM_ok m hm) ?_ | refine clF F42 (fewM_ok m hm) (fun _ => by simp only [encEn, encMg, encPk, go_sem, Nat.reduceAdd, Nat.reduceMul, Nat.reduceSub, Nat.reduceEqDiff, Nat.reduceLT, Nat.reduceLeDiff, Nat.reduceBEq, reduceIte, reduceCtorEq, Int.reduceAdd, Int.reduceLT, Int.reduceLE, Int.reduceGT, Int.reduceGE, Int.reduceEq, Int.reduceNe, Int.reduceBEq, Int.reduceBNe, Int.reduceToNat, Int.reduceNeg]) ?_
  try (refine ev ?_; try exact True.intro)
  (repeat (with_reducible refine ob ?_)); refine iff_ _ (fun h => ?_) (fun h => ?_)
  · try (refine ev ?_; try exact True.intro)
  have hf : fewM m = true := by simpa using h
  have sm := fewM_sm hf
  have hll := orders_len sm
  try (refine ev ?_; try exact True.intro)
  (repeat (with_reducible refine ob ?_)); first | refine cl F44 (to53_ok m sm.1) ?_ | refine clF F44 (to53_ok m sm.1) (fun _ => by simp only [encEn, encMg, encPk, go_sem, Nat.reduceAdd, Nat.reduceMul, Nat.reduceSub, Nat.reduceEqDiff, Nat.reduceLT, Nat.reduceLeDiff, Nat.reduceBEq, reduceIte, reduceCtorEq, Int.reduceAdd, Int.reduceLT, Int.reduceLE, Int.reduceGT, Int.reduceGE, Int.reduceEq, Int.reduceNe, Int.reduceBEq, Int.reduceBNe, Int.reduceToNat, Int.reduceNeg]) ?_
  try simp only [encMg, go_sem, Nat.reduceAdd, Nat.reduceMul, Nat.reduceSub, Nat.reduceEqDiff, Nat.reduceLT, Nat.reduceLeDiff, Nat.reduceBEq, reduceIte, reduceCtorEq, Int.reduceAdd, Int.reduceLT, Int.reduceLE, Int.reduceGT, Int.reduceGE, Int.reduceEq, Int.reduceNe, Int.reduceBEq, Int.reduceBNe, Int.reduceToNat, Int.reduceNeg]
  (repeat (with_reducible refine ob ?_)); first | refine cl F43 (upOrders_ok m sm) ?_ | refine clF F43 (upOrders_ok m sm) (fun _ => by simp only [encEn, encMg, encPk, go_sem, Nat.reduceAdd, Nat.reduceMul, Nat.reduceSub, Nat.reduceEqDiff, Nat.reduceLT, Nat.reduceLeDiff, Nat.reduceBEq, reduceIte, reduceCtorEq, Int.reduceAdd, Int.reduceLT, Int.reduceLE, Int.reduceGT, Int.reduceGE, Int.reduceEq, Int.reduceNe, Int.reduceBEq, Int.reduceBNe, Int.reduceToNat, Int.reduceNeg]) ?_
  try simp only [encMg, go_sem, Nat.reduceAdd, Nat.reduceMul, Nat.reduceSub, Nat.reduceEqDiff, Nat.reduceLT, Nat.reduceLeDiff, Nat.reduceBEq, reduceIte, reduceCtorEq, Int.reduceAdd, Int.reduceLT, Int.reduceLE, Int.reduceGT, Int.reduceGE, Int.reduceEq, Int.reduceNe, Int.reduceBEq, Int.reduceBNe, Int.reduceToNat, Int.reduceNeg]
  (repeat (with_reducible refine ob ?_)); first | refine cl F45 (refOrders_ok m sm) ?_ | refine clF F45 (refOrders_ok m sm) (fun _ => by simp only [encEn, encMg, encPk, go_sem, Nat.reduceAdd, Nat.reduceMul, Nat.reduceSub, Nat.reduceEqDiff, Nat.reduceLT, Nat.reduceLeDiff, Nat.reduceBEq, reduceIte, reduceCtorEq, Int.reduceAdd, Int.reduceLT, Int.reduceLE, Int.reduceGT, Int.reduceGE, Int.reduceEq, Int.reduceNe, Int.reduceBEq, Int.reduceBNe, Int.reduceToNat, Int.reduceNeg]) ?_
  try (refine ev ?_; try exact True.intro)
  (repeat (with_reducible refine ob ?_)); refine no_ ?_
  try (refine ev ?_; try exact True.intro)
  refine AWp_loop (Slaw (upOrders m)) (fun i => (upOrders m).length - i.val) ⟨0, Nat.zero_le _⟩ ?_ (fun i => ?_)
  · try simp only [Slaw, go_sem, Nat.reduceAdd, Nat.reduceMul, Nat.reduceSub, Nat.reduceEqDiff, Nat.reduceLT, Nat.reduceLeDiff, Nat.reduceBEq, reduceIte, reduceCtorEq, Int.reduceAdd, Int.reduceLT, Int.reduceLE, Int.reduceGT, Int.reduceGE, Int.reduceEq, Int.reduceNe, Int.reduceBEq, Int.reduceBNe, Int.reduceToNat, Int.reduceNeg]
  obtain ⟨i, hi⟩ := i
  try simp only [Slaw, go_sem, Nat.reduceAdd, Nat.reduceMul, Nat.reduceSub, Nat.reduceEqDiff, Nat.reduceLT, Nat.reduceLeDiff, Nat.reduceBEq, reduceIte, reduceCtorEq, Int.reduceAdd, Int.reduceLT, Int.reduceLE, Int.reduceGT, Int.reduceGE, Int.reduceEq, Int.reduceNe, Int.reduceBEq, Int.reduceBNe, Int.reduceToNat, Int.reduceNeg]
  (repeat (with_reducible refine ob ?_)); refine iff_ _ (fun h => ?_) (fun h => ?_)
  · have hil : i < (upOrders m).length := by simpa using h
    have hmem := List.getElem_mem hil
    simp only [getD_map encPk (upOrders m) hil, encPk, go_sem, Nat.reduceAdd, Nat.reduceMul, Nat.reduceSub, Nat.reduceEqDiff, Nat.reduceLT, Nat.reduceLeDiff, Nat.reduceBEq, reduceIte, reduceCtorEq, Int.reduceAdd, Int.reduceLT, Int.reduceLE, Int.reduceGT, Int.reduceGE, Int.reduceEq, Int.reduceNe, Int.reduceBEq, Int.reduceBNe, Int.reduceToNat, Int.reduceNeg]
    (repeat (with_reducible refine ob ?_))
    (repeat (with_reducible refine ob ?_)); first | refine cl F46 (pkEqual46_ok (upOrders m)[i] (upOrders m)[i] (orders_sm hmem)) ?_ | refine clF F46 (pkEqual46_ok (upOrders m)[i] (upOrders m)[i] (orders_sm hmem)) (fun _ => by simp only [encEn, encMg, encPk, go_sem, Nat.reduceAdd, Nat.reduceMul, Nat.reduceSub, Nat.reduceEqDiff, Nat.reduceLT, Nat.reduceLeDiff, Nat.reduceBEq, reduceIte, reduceCtorEq, Int.reduceAdd, Int.reduceLT, Int.reduceLE, Int.reduceGT, Int.reduceGE, Int.reduceEq, Int.reduceNe, Int.reduceBEq, Int.reduceBNe, Int.reduceToNat, Int.reduceNeg]) ?_
    try simp only [getD_map encPk (upOrders m) hil, encPk, go_sem, Nat.reduceAdd, Nat.reduceMul, Nat.reduceSub, Nat.reduceEqDiff, Nat.reduceLT, Nat.reduceLeDiff, Nat.reduceBEq, reduceIte, reduceCtorEq, Int.reduceAdd, Int.reduceLT, Int.reduceLE, Int.reduceGT, Int.reduceGE, Int.reduceEq, Int.reduceNe, Int.reduceBEq, Int.reduceBNe, Int.reduceToNat, Int.reduceNeg]
    (repeat (with_reducible refine ob ?_))
    (repeat (with_reducible refine ob ?_)); first | refine cl F47 (packetValid_ok (upOrders m)[i] (orders_sm hmem).v (orders_sm hmem).c) ?_ | refine clF F47 (packetValid_ok (upOrders m)[i] (orders_sm hmem).v (orders_sm hmem).c) (fun _ => by simp only [encEn, encMg, encPk, go_sem, Nat.reduceAdd, Nat.reduceMul, Nat.reduceSub, Nat.reduceEqDiff, Nat.reduceLT, Nat.reduceLeDiff, Nat.reduceBEq, reduceIte, reduceCtorEq, Int.reduceAdd, Int.reduceLT, Int.reduceLE, Int.reduceGT, Int.reduceGE, Int.reduceEq, Int.reduceNe, Int.reduceBEq, Int.reduceBNe, Int.reduceToNat, Int.reduceNeg]) ?_
    try simp only [orders_valid hmem, go_sem, Nat.reduceAdd, Nat.reduceMul, Nat.reduceSub, Nat.reduceEqDiff, Nat.reduceLT, Nat.reduceLeDiff, Nat.reduceBEq, reduceIte, reduceCtorEq, Int.reduceAdd, Int.reduceLT, Int.reduceLE, Int.reduceGT, Int.reduceGE, Int.reduceEq, Int.reduceNe, Int.reduceBEq, Int.reduceBNe, Int.reduceToNat, Int.reduceNeg]
    (repeat (with_reducible refine ob ?_))
    try simp only [orders_valid hmem, go_sem, Nat.reduceAdd, Nat.reduceMul, Nat.reduceSub, Nat.reduceEqDiff, Nat.reduceLT, Nat.reduceLeDiff, Nat.reduceBEq, reduceIte, reduceCtorEq, Int.reduceAdd, Int.reduceLT, Int.reduceLE, Int.reduceGT, Int.reduceGE, Int.reduceEq, Int.reduceNe, Int.reduceBEq, Int.reduceBNe, Int.reduceToNat, Int.reduceNeg]
    (repeat (with_reducible refine ob ?_)); refine no_ ?_
    try (refine ev ?_; try exact True.intro)
    refine ⟨⟨i + 1, hil⟩, ?_, by dsimp only; omega⟩
    try simp only [Slaw, wrap_succ (show i < 9223372036854775807 by omega), go_sem, Nat.reduceAdd, Nat.reduceMul, Nat.reduceSub, Nat.reduceEqDiff, Nat.reduceLT, Nat.reduceLeDiff, Nat.reduceBEq, reduceIte, reduceCtorEq, Int.reduceAdd, Int.reduceLT, Int.reduceLE, Int.reduceGT, Int.reduceGE, Int.reduceEq, Int.reduceNe, Int.reduceBEq, Int.reduceBNe, Int.reduceToNat, Int.reduceNeg]
  · try (refine ev ?_; try exact True.intro)
end Go.Proofs.Ythcpckcgjplhiaa
