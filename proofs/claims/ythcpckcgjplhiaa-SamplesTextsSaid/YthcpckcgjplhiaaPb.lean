/- Queues of messages with consecutive numbers, plainly. -/
import Derived.Test.YthcpckcgjplhiaaPa
import Derived.Test.YthcpckcgjplhiaaCk
namespace Go.Proofs.Ythcpckcgjplhiaa
open Go.Abs
set_option linter.unusedSimpArgs false

theorem message_msg {s : Int} (h1 : 1 ≤ s) (h2 : s ≤ 1000) : message (msg s) = true := by
  have h3 : 0 ≤ s.tmod 40 := Int.tmod_nonneg _ (by omega)
  have h4 : s.tmod 40 < 40 := Int.tmod_lt_of_pos _ (by omega)
  have hk : (msg s).kind = 1 := rfl
  have e1 : (msg s).values = [] := rfl
  have e2 : (msg s).clock = [] := rfl
  simp only [message, packetValid, kindOk, data, numbered, role, hk, if_true, e1, e2, List.any_nil, List.length_nil, Bool.and_eq_true, Bool.or_eq_true, decide_eq_true_eq, beq_iff_eq, bne_iff_ne, Bool.not_eq_true']
  simp only [msg]
  refine ⟨trivial, ⟨⟨by decide, by decide⟩, by decide⟩, ⟨⟨⟨⟨⟨⟨⟨⟨⟨⟨by decide, by decide⟩, by decide⟩, h1⟩, by omega⟩, .inl trivial⟩, h3⟩, h4⟩, by decide⟩, by decide⟩, trivial⟩, trivial⟩

theorem alike_msg (s t : Int) : alike (msg s) (msg t) = true := by simp [alike, msg]

def can (a c : Nat) : Qu := ⟨a, c, (List.range (a - c)).map fun (j : Nat) => msg ((c : Int) + 1 + (j : Int))⟩

theorem can_len (a c : Nat) : (can a c).items.length = a - c := by simp [can]
theorem can_get (a c i : Nat) (h : i < (can a c).items.length) : (can a c).items[i] = msg ((c : Int) + 1 + (i : Int)) := by simp [can]

theorem can_valid {a c : Nat} (hc : c ≤ a) (h4 : a - c ≤ 4) (ha : a ≤ 100) : qValid (can a c) = true := by
  rw [qValid_iff]
  refine ⟨by simp only [can]; omega, by simp only [can]; omega, by simp only [can]; omega, by rw [can_len]; simp only [can]; omega, by rw [can_len]; omega, fun i hi => ?_⟩
  have hl := can_len a c
  rw [can_get, can_get]
  exact ⟨message_msg (by omega) (by omega), alike_msg _ _, rfl⟩

theorem can_sm {a c : Nat} (ha : a ≤ 100) : (can a c).Sm := by
  refine ⟨by rw [can_len]; omega, fun p hp => ?_⟩
  simp only [can, List.mem_map] at hp
  obtain ⟨j, _, rfl⟩ := hp
  exact msg_sm _

theorem can_alike {a c : Nat} {s : Int} : (decide (((can a c).items.length : Int) > 0) && !alike (msg s) ((can a c).items.getD 0 default)) = false := by
  by_cases h : 0 < (can a c).items.length
  · rw [getD_lt h, can_get, alike_msg]; simp
  · have : (can a c).items.length = 0 := by omega
    rw [this]; rfl

theorem can_offer_yes {a c : Nat} (hc : c ≤ a) (h4 : a - c < 4) (ha : a < 100) : qOffer (can a c) (msg ((a : Int) + 1)) = (can (a + 1) c, 0) := by
  have hv := can_valid hc (by omega) (show a ≤ 100 by omega)
  have hm := message_msg (s := (a : Int) + 1) (by omega) (by omega)
  have hl := can_len a c
  have hw : IntKind.i64.wrap ((can a c).acc + 1) = (a : Int) + 1 := wrap_i64 (by simp only [can]; omega) (by simp only [can]; omega)
  unfold qOffer
  rw [hv, hm, can_alike, hw]
  have h1 : decide ((msg ((a : Int) + 1)).seq ≤ (can a c).acc) = false := by
    show decide ((a : Int) + 1 ≤ a) = false
    rw [decide_eq_false_iff_not]; omega
  have h2 : decide ((msg ((a : Int) + 1)).seq > (a : Int) + 1) = false := by
    show decide ((a : Int) + 1 > a + 1) = false
    rw [decide_eq_false_iff_not]; omega
  have h3 : (((can a c).items.length : Int) == 4) = false := by rw [hl]; simp; omega
  simp only [h1, h2, h3, Bool.not_true, Bool.or_false, Bool.false_eq_true, if_false]
  simp only [can, Prod.mk.injEq, Qu.mk.injEq, and_true, true_and]
  refine ⟨by simp [msg], ?_⟩
  rw [show a + 1 - c = (a - c) + 1 by omega, List.range_succ, List.map_append]
  simp only [List.map_cons, List.map_nil]
  congr 3
  omega

theorem can_offer_no {a c : Nat} {seq : Int} (ha : a < 100) (h : ¬ (seq = (a : Int) + 1 ∧ a - c < 4)) (h4 : a - c ≤ 4) : ((qOffer (can a c) (msg seq)).2 == 0) = false := by
  have hl := can_len a c
  have hw : IntKind.i64.wrap ((can a c).acc + 1) = (a : Int) + 1 := wrap_i64 (by simp only [can]; omega) (by simp only [can]; omega)
  unfold qOffer
  rw [hw]
  split
  · rfl
  split
  · rfl
  split
  · rfl
  split
  · rfl
  rename_i h1 h2 h3
  simp only [decide_eq_true_eq] at h1 h2
  simp only [msg, can] at h1 h2
  rw [hl] at h3
  simp only [beq_iff_eq] at h3
  exact absurd ⟨by omega, by omega⟩ h

theorem can_consume_yes {a c : Nat} (hc : c < a) (h4 : a - c ≤ 4) (ha : a ≤ 100) : qConsume (can a c) ((c : Int) + 1) = (can a (c + 1), 0) := by
  have hv := can_valid (show c ≤ a by omega) h4 ha
  have hl := can_len a c
  have h0 : 0 < (can a c).items.length := by omega
  unfold qConsume
  rw [hv, getD_lt h0, can_get]
  have h1 : (decide ((c : Int) + 1 ≥ 1) && decide ((c : Int) + 1 ≤ (can a c).cons)) = false := by
    simp only [Bool.and_eq_false_iff, decide_eq_false_iff_not]
    simp only [can]
    omega
  have h2 : (((can a c).items.length : Int) == 0) = false := by rw [beq_eq_false_iff_ne]; omega
  have h3 : ((c : Int) + 1 != (msg ((c : Int) + 1 + ((0 : Nat) : Int))).seq) = false := by simp [msg]
  simp only [h1, h2, h3, Bool.not_true, Bool.or_false, Bool.false_eq_true, if_false]
  simp only [can, Prod.mk.injEq, Qu.mk.injEq, and_true, true_and]
  refine ⟨by omega, ?_⟩
  rw [show a - c = (a - (c + 1)) + 1 by omega, List.range_succ_eq_map, List.map_cons, List.drop_one, List.tail_cons, List.map_map]
  apply List.map_congr_left
  intro j _
  simp only [Function.comp]
  congr 1
  omega

theorem can_consume_no {a c : Nat} {seq : Int} (hc : c ≤ a) (h : ¬ (seq = (c : Int) + 1 ∧ c < a)) : ((qConsume (can a c) seq).2 == 0) = false := by
  have hl := can_len a c
  unfold qConsume
  split
  · rfl
  split
  · rfl
  split
  · rfl
  rename_i h3
  simp only [Bool.or_eq_true, beq_iff_eq, bne_iff_ne, not_or, Classical.not_not] at h3
  have h0 : 0 < (can a c).items.length := by omega
  have h4 := h3.2
  rw [getD_lt h0, can_get] at h4
  simp only [msg] at h4
  exact absurd ⟨by omega, by omega⟩ h

theorem can_first_yes {a c : Nat} (hc : c < a) : qFirst (can a c) = (msg ((c : Int) + 1), true) := by
  have : (can a c).items = msg ((c : Int) + 1) :: ((List.range (a - c - 1)).map fun j => msg ((c : Int) + 1 + ((j + 1 : Nat) : Int))) := by
    simp only [can]
    rw [show a - c = (a - c - 1) + 1 by omega, List.range_succ_eq_map, List.map_cons, List.map_map]
    simp [Function.comp]
  simp only [qFirst, this]

theorem can_first_no {a : Nat} : qFirst (can a a) = (⟨0, 0, 0, 0, 0, 0, 0, [], []⟩, false) := by
  have : (can a a).items = [] := by simp [can]
  simp only [qFirst, this]
  rfl
end Go.Proofs.Ythcpckcgjplhiaa
