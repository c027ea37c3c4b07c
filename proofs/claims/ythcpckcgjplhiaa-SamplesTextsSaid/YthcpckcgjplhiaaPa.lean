/- Layer 51, plainly: the program's queues and the reference's. -/
import Derived.Test.YthcpckcgjplhiaaCj
namespace Go.Proofs.Ythcpckcgjplhiaa
open Go.Abs
set_option linter.unusedSimpArgs false

theorem val46_eq (v : AV) : val46 v = proper v := by
  rw [Bool.eq_iff_iff]
  by_cases h1 : v.kind = 1
  · by_cases hs : v.s = [] <;> simp [val46, proper46, proper, h1, hs]
  · by_cases h2 : v.kind = 2 <;> simp [val46, proper46, proper, h1, h2]

theorem clk46_eq (n : Int) : clk46 n = !(decide (n < 0) || decide (n > 1099511627776)) := by
  rw [Bool.eq_iff_iff]
  simp [clk46, in46]

theorem content46_eq (p : Pk) : content46 p = (decide ((p.values.length : Int) ≤ 4) && decide ((p.clock.length : Int) ≤ 6) && !(p.values.any fun v => !proper v) && !(p.clock.any fun n => decide (n < 0) || decide (n > 1099511627776))) := by
  have h1 : p.values.all val46 = !(p.values.any fun v => !proper v) := by
    rw [List.not_any_eq_all_not]
    congr 1
    funext v
    simp [val46_eq]
  have h2 : p.clock.all clk46 = !(p.clock.any fun n => decide (n < 0) || decide (n > 1099511627776)) := by
    rw [List.not_any_eq_all_not]
    congr 1
    funext n
    rw [clk46_eq]
  rw [content46, h1, h2]
  congr 2
  rw [Bool.eq_iff_iff]
  simp

theorem ite_nf (x y : Bool) : (if (!x) = true then false else y) = (x && y) := by cases x <;> rfl

theorem message_eq (p : Pk) : message p = (valid46 p && p.kind == 1) := by
  by_cases hk : p.kind = 1
  · have h46 : valid46 p = (in46 p.sess 1 32 && (in46 p.epoch 0 1 && pair46 p && in46 p.seq 1 1099511627776 && in46 p.label 0 39 && content46 p)) := by
      simp only [valid46, hk, ite_nf, beq_self_eq_true, if_true]
    rw [h46, Bool.eq_iff_iff]
    simp only [message, packetValid, kindOk, data, numbered, role, pair46, in46, content46_eq, hk, beq_self_eq_true, Bool.true_and, Bool.and_true, if_true, Bool.and_eq_true, decide_eq_true_eq, Bool.or_eq_true, beq_iff_eq, Bool.not_eq_true', bne_iff_ne]
    generalize (p.values.any fun v => !proper v) = a
    generalize (p.clock.any fun n => decide (n < 0) || decide (n > 1099511627776)) = b
    constructor
    · intro h; grind
    · intro h; grind
  · have : (p.kind == 1) = false := by simpa using hk
    simp only [message, this, Bool.false_and, Bool.and_false]

/-- A valid queue. -/
structure QV (q : Qu) : Prop where
  lo : 0 ≤ q.cons
  le : q.cons ≤ q.acc
  hi : q.acc ≤ 1099511627776
  len : (q.items.length : Int) = q.acc - q.cons
  few : q.items.length ≤ 4
  item : ∀ (i : Nat) (h : i < q.items.length), message q.items[i] = true ∧ alike q.items[i] (q.items[0]'(by omega)) = true ∧ q.items[i].seq = q.cons + 1 + i

theorem wrap_q {c : Int} {i : Nat} (h1 : 0 ≤ c) (h2 : c ≤ 1099511627776) (h3 : i ≤ 4) : IntKind.i64.wrap (IntKind.i64.wrap (c + 1) + (i : Int)) = c + 1 + i := by
  rw [wrap_i64 (n := c + 1) (by omega) (by omega), wrap_i64 (by omega) (by omega)]

theorem qItem_iff {q : Qu} {i : Nat} (h1 : 0 ≤ q.cons) (h2 : q.cons ≤ 1099511627776) (h3 : q.items.length ≤ 4) (hi : i < q.items.length) :
    qItem q i = true ↔ message q.items[i] = true ∧ alike q.items[i] (q.items[0]'(by omega)) = true ∧ q.items[i].seq = q.cons + 1 + i := by
  have h0 : 0 < q.items.length := by omega
  simp only [qItem, getD_lt hi, getD_lt h0, Bool.and_eq_true, beq_iff_eq, wrap_q h1 h2 (show i ≤ 4 by omega), and_assoc]

theorem item51_iff {q : Qu} {i : Nat} (h1 : 0 ≤ q.cons) (h2 : q.cons ≤ 1099511627776) (h3 : q.items.length ≤ 4) (hi : i < q.items.length) :
    item51 q i = true ↔ message q.items[i] = true ∧ alike q.items[i] (q.items[0]'(by omega)) = true ∧ q.items[i].seq = q.cons + 1 + i := by
  have h0 : 0 < q.items.length := by omega
  simp only [item51, getD_lt hi, getD_lt h0, wrap_q h1 h2 (show i ≤ 4 by omega), message_eq, Bool.not_eq_true', Bool.or_eq_false_iff, Bool.not_eq_false', bne_eq_false_iff_eq, Bool.and_eq_true, beq_iff_eq]
  grind

theorem qValid_iff (q : Qu) : qValid q = true ↔ QV q := by
  simp only [qValid, Bool.and_eq_true, decide_eq_true_eq, beq_iff_eq, allTo_iff]
  constructor
  · rintro ⟨h, ⟨⟨⟨h1, h2⟩, h3⟩, h4⟩, h5⟩
    rw [wrap_i64 (by omega) (by omega)] at h4
    exact ⟨h1, h2, h3, h4, by omega, fun i hi => (qItem_iff h1 (by omega) (by omega) hi).1 (h i hi)⟩
  · rintro ⟨h1, h2, h3, h4, h5, h6⟩
    rw [wrap_i64 (by omega) (by omega)]
    exact ⟨fun i hi => (qItem_iff h1 (by omega) h5 hi).2 (h6 i hi), ⟨⟨⟨h1, h2⟩, h3⟩, h4⟩, by omega⟩

theorem valid51_iff (q : Qu) : valid51 q = true ↔ QV q := by
  simp only [valid51, bad51, Bool.and_eq_true, Bool.not_eq_true', Bool.or_eq_false_iff, decide_eq_false_iff_not, bne_eq_false_iff_eq, allTo_iff]
  constructor
  · rintro ⟨⟨⟨⟨⟨h1, h2⟩, h3⟩, h5⟩, h4⟩, h⟩
    rw [wrap_i64 (by omega) (by omega)] at h4
    exact ⟨by omega, by omega, by omega, h4, by omega, fun i hi => (item51_iff (by omega) (by omega) (by omega) hi).1 (h i hi)⟩
  · rintro ⟨h1, h2, h3, h4, h5, h6⟩
    rw [wrap_i64 (by omega) (by omega)]
    exact ⟨⟨⟨⟨⟨by omega, by omega⟩, by omega⟩, by omega⟩, h4⟩, fun i hi => (item51_iff h1 (by omega) h5 hi).2 (h6 i hi)⟩

theorem valid51_eq (q : Qu) : valid51 q = qValid q := by rw [Bool.eq_iff_iff, valid51_iff, qValid_iff]

theorem qEmpty_valid : qValid qEmpty = true := by decide

theorem alike_trans {p q r : Pk} (h1 : alike p r = true) (h2 : alike q r = true) : alike p q = true := by
  simp only [alike, Bool.and_eq_true, beq_iff_eq] at *
  grind

/-- Consume, plainly. -/
theorem consume_law (q : Qu) (seq : Int) : qConsume q seq = consume51 q seq ∧ qValid (qConsume q seq).1 = true := by
  unfold qConsume consume51
  rw [valid51_eq]
  by_cases hv : qValid q = true
  · have h := (qValid_iff q).1 hv
    simp only [hv, Bool.not_true, Bool.false_eq_true, if_false]
    split
    · exact ⟨by first | trivial | rfl, qEmpty_valid⟩
    · rcases Nat.eq_zero_or_pos q.items.length with h0 | h0
      · simp only [h0, Int.cast_ofNat_Int, beq_self_eq_true, Bool.true_or, if_true]
        exact ⟨by first | trivial | rfl, qEmpty_valid⟩
      · have hs := (h.item 0 h0).2.2
        have h1 := h.lo
        have h2 := h.le
        have h3 := h.hi
        have h4 := h.len
        have h5 := h.few
        have hw : IntKind.i64.wrap (q.cons + 1) = q.cons + 1 := wrap_i64 (by omega) (by omega)
        have hs' : (q.items.getD 0 default).seq = q.cons + 1 := by rw [getD_lt h0, hs]; simp
        rw [hs', hw]
        split
        · exact ⟨by first | trivial | rfl, qEmpty_valid⟩
        · rename_i hc
          have hseq : seq = q.cons + 1 := by simp at hc; exact hc.2
          subst hseq
          refine ⟨rfl, (qValid_iff _).2 ⟨by dsimp only; omega, by dsimp only; omega, h3, by simp only [List.length_drop]; omega, by simp only [List.length_drop]; omega, fun i hi => ?_⟩⟩
          simp only [List.length_drop] at hi
          obtain ⟨m1, m2, m3⟩ := h.item (1 + i) (by omega)
          obtain ⟨n1, n2, n3⟩ := h.item 1 (by omega)
          simp only [List.getElem_drop, Nat.add_zero]
          exact ⟨m1, alike_trans m2 n2, by rw [m3]; omega⟩
  · have hv' : qValid q = false := by simpa using hv
    simp only [hv', Bool.not_false, if_true]
    exact ⟨by first | trivial | rfl, qEmpty_valid⟩

/-- Offer, plainly. -/
theorem offer_law (q : Qu) (p : Pk) : qOffer q p = offer51 q p ∧ qValid (qOffer q p).1 = true := by
  unfold qOffer offer51
  rw [valid51_eq]
  have hm : (!qValid q || !valid46 p || p.kind != 1) = (!qValid q || !message p) := by
    rw [message_eq, Bool.not_and]
    rw [Bool.or_assoc]; rfl
  rw [hm]
  by_cases hv : (!qValid q || !message p || (decide ((q.items.length : Int) > 0) && !alike p (q.items.getD 0 default))) = true
  · simp only [hv, if_true]
    exact ⟨by first | trivial | rfl, qEmpty_valid⟩
  · simp only [hv, Bool.false_eq_true, if_false]
    simp only [Bool.or_eq_true, Bool.not_eq_true', Bool.and_eq_true, decide_eq_true_eq, not_or, Bool.not_eq_false, not_and] at hv
    obtain ⟨⟨v1, v2⟩, v3⟩ := hv
    have h := (qValid_iff q).1 v1
    have h1 := h.lo
    have h2 := h.le
    have h3 := h.hi
    have h4 := h.len
    have h5 := h.few
    have hw : IntKind.i64.wrap (q.acc + 1) = q.acc + 1 := wrap_i64 (by omega) (by omega)
    rw [hw]
    split
    · exact ⟨by first | trivial | rfl, qEmpty_valid⟩
    split
    · exact ⟨by first | trivial | rfl, qEmpty_valid⟩
    split
    · exact ⟨by first | trivial | rfl, qEmpty_valid⟩
    rename_i c1 c2 c3
    simp only [decide_eq_true_eq, beq_iff_eq] at c1 c2 c3
    have hs : p.seq = q.acc + 1 := by omega
    have hp : p.seq ≤ 1099511627776 := by
      rw [message_eq, Bool.and_eq_true] at v2
      have hk : (p.kind == 1) = true := v2.2
      have h46 := v2.1
      simp only [valid46, ite_nf, hk, if_true, Bool.and_eq_true, in46, decide_eq_true_eq] at h46
      grind
    rw [hs]
    refine ⟨rfl, (qValid_iff _).2 ⟨h1, by dsimp only; omega, by dsimp only; omega, by simp only [List.length_append, List.length_cons, List.length_nil]; omega, by simp only [List.length_append, List.length_cons, List.length_nil]; omega, fun i hi => ?_⟩⟩
    simp only [List.length_append, List.length_cons, List.length_nil] at hi
    by_cases hlt : i < q.items.length
    · obtain ⟨m1, m2, m3⟩ := h.item i hlt
      simp only [List.getElem_append_left hlt, List.getElem_append_left (show 0 < q.items.length by omega)]
      exact ⟨m1, m2, m3⟩
    · have hie : i = q.items.length := by omega
      subst hie
      rcases Nat.eq_zero_or_pos q.items.length with h0 | h0
      · have hnil : q.items = [] := List.eq_nil_of_length_eq_zero h0
        simp only [hnil, List.nil_append, List.length_nil, List.getElem_cons_zero]
        refine ⟨v2, by simp [alike], ?_⟩
        rw [hs]; simp; omega
      · have ha := v3 (by omega)
        rw [getD_lt h0] at ha
        simp only [List.getElem_append_left h0, List.getElem_append_right (Nat.le_refl _), Nat.sub_self, List.getElem_cons_zero]
        exact ⟨v2, ha, by rw [hs]; omega⟩
end Go.Proofs.Ythcpckcgjplhiaa
