/- The abstract layer, part 10: append, make, literals of slices, the bytes of a string. -/
import Derived.Test.YthcpckcgjplhiaaAi
import Derived.Laws.CopyRow
namespace Go.Abs

section
variable {P : Program} {N tb : Nat} {T : Nat → Prop} {g : Ghost} {w : World} {st : St} {a : Act} {oper : Oper}

/-- The source of an append: how many elements, and their cells. -/
def Source (P : Program) (size : Nat) (x : Value) (n : Nat) (w : World) (news : List Value) : Prop :=
  (Builtin.lenOf x).run P w = .ok n w ∧ (Builtin.firstCells size n x).run P w = .ok news.toArray w

theorem run_append_fits {t u ty e : TypeId} {i : TypeInfo} (ht : P.underlying t = some (.slice e)) (hi : P.info? e = some i) (hu : (∃ f, P.underlying u = some (.slice f)) ∨ P.underlying u = some .string)
    (ad : Addr) (sLen sCap : Nat) {x : Value} {n : Nat} {news : List Value} (hx : Source P i.size x n w news) (hn : sLen + n ≤ sCap) :
    (Builtin.append_ #[t, u] ty #[.slice (some ad) sLen sCap, x]).run P w =
      ((storeCells (ad.add (sLen * i.size)) news).run P w).andThen fun _ w' => .ok (.slice (some ad) (sLen + n) sCap) w' := by
  obtain ⟨h1, h2⟩ := hx
  rcases hu with ⟨f, hu⟩ | hu
  · simp only [Builtin.append_, Sem.run_bind, run_underlying ht, run_underlying hu, run_sizeOf_info hi, Result.andThen_ok, h1, List.getElem?_toArray, List.getElem?_cons_zero, List.getElem?_cons_succ, Sem.run_pure, Bool.false_eq_true, if_false, hn, if_true, h2, Bool.not_false]
  · simp only [Builtin.append_, Sem.run_bind, run_underlying ht, run_underlying hu, run_sizeOf_info hi, Result.andThen_ok, h1, List.getElem?_toArray, List.getElem?_cons_zero, List.getElem?_cons_succ, Sem.run_pure, Bool.false_eq_true, if_false, hn, if_true, h2, Bool.not_false]

theorem run_append_nofits {t u ty e : TypeId} {i : TypeInfo} (ht : P.underlying t = some (.slice e)) (hi : P.info? e = some i) (hu : (∃ f, P.underlying u = some (.slice f)) ∨ P.underlying u = some .string)
    (sLen sCap : Nat) {x : Value} {n : Nat} {news : List Value} (hx : Source P i.size x n w news) (hn : sLen + n ≤ sCap) :
    (Builtin.append_ #[t, u] ty #[.slice none sLen sCap, x]).run P w = .ok (.slice none (sLen + n) sCap) w := by
  obtain ⟨h1, h2⟩ := hx
  rcases hu with ⟨f, hu⟩ | hu
  · simp only [Builtin.append_, Sem.run_bind, run_underlying ht, run_underlying hu, run_sizeOf_info hi, Result.andThen_ok, h1, List.getElem?_toArray, List.getElem?_cons_zero, List.getElem?_cons_succ, Sem.run_pure, Bool.false_eq_true, if_false, hn, if_true, h2, Bool.not_false]
  · simp only [Builtin.append_, Sem.run_bind, run_underlying ht, run_underlying hu, run_sizeOf_info hi, Result.andThen_ok, h1, List.getElem?_toArray, List.getElem?_cons_zero, List.getElem?_cons_succ, Sem.run_pure, Bool.false_eq_true, if_false, hn, if_true, h2, Bool.not_false]

theorem run_append_more {t u ty e : TypeId} {i : TypeInfo} {z : Value} (ht : P.underlying t = some (.slice e)) (hi : P.info? e = some i) (hz : i.zero = some z) (hu : (∃ f, P.underlying u = some (.slice f)) ∨ P.underlying u = some .string) (hb0 : i.bytes ≠ 0)
    (base : Option Addr) (sLen sCap : Nat) {x : Value} {n : Nat} {olds news : List Value} (hl : (Builtin.lenOf x).run P w = .ok n w) (hx : (Builtin.firstCells i.size n x).run P w.drew = .ok news.toArray w.drew)
    (ho : (Builtin.firstCells i.size sLen (.slice base sLen sCap)).run P w.drew = .ok olds.toArray w.drew)
    (hn : sCap < sLen + n) (hfit : Builtin.nextslicecap (sLen + n) sCap * i.bytes ≤ 281474976710656) :
    (Builtin.append_ #[t, u] ty #[.slice base sLen sCap, x]).run P w =
      .ok (.slice (some ⟨w.heap.size, 0, none⟩) (sLen + n) (grownCap w (sLen + n) sCap e))
        (w.drew.alloc (.cells (olds.toArray ++ news.toArray ++ Builtin.zeroCells z.cells (grownCap w (sLen + n) sCap e - (sLen + n))) e)) := by
  have hn' : ¬ (sLen + n ≤ sCap) := by omega
  have h48' : ¬ (281474976710656 < Builtin.nextslicecap (sLen + n) sCap * i.bytes) := by omega
  have hb : ¬ (((sLen + n : Nat) : Int) > IntKind.i64.max ∧ (false = true ∨ i.bytes = 0)) := by simp [hb0]
  rcases hu with ⟨f, hu⟩ | hu
  · simp [Builtin.append_, run_underlying ht, run_underlying hu, run_sizeOf_info hi, typeInfo, zeroValue, hi, hz, hl, hn', hx, ho, h48', hb0, Question.forced, newRow, grownCap]
    congr 2
    apply Array.ext'
    simp
  · simp [Builtin.append_, run_underlying ht, run_underlying hu, run_sizeOf_info hi, typeInfo, zeroValue, hi, hz, hl, hn', hx, ho, h48', hb0, Question.forced, newRow, grownCap]
    congr 2
    apply Array.ext'
    simp

theorem rl_of_sl {v : Value} {es : Nat} {rows : List (List D)} (h : RV g w v (.sl es rows)) :
    ∃ vs : List Value, RL g w vs rows.flatten ∧ ∃ cap, ((∃ ad, v = .slice ad 0 cap ∧ (ad = none → cap = 0)) ∧ rows = []) ∨ (∃ b off, v = .slice (some ⟨b, off, none⟩) rows.length cap ∧ (∀ r ∈ rows, r.length = es) ∧
      ∀ (j : Nat) (u : Value), vs[j]? = some u → w.cell? ((⟨b, off, none⟩ : Addr).add j) = some u) := by
  rcases rv_sl h with ⟨⟨ad, cp, hv, hn0⟩, rfl⟩ | ⟨b, off, cap, n, o, f, hv, hg, hn, hcap, hes, hcl, hcell, hrv⟩
  · exact ⟨[], ⟨rfl, by simp, by simp⟩, cp, .inl ⟨⟨ad, hv, hn0⟩, rfl⟩⟩
  · refine ⟨(List.range rows.flatten.length).map f, ⟨by simp, hcl, ?_⟩, cap, .inr ⟨b, off, hv, hes, ?_⟩⟩
    · intro j u d hj hd
      simp only [List.getElem?_map, Option.map_eq_some_iff] at hj
      obtain ⟨i, hi, rfl⟩ := hj
      have hlt : j < rows.flatten.length := (List.getElem?_eq_some_iff.1 hd).1
      rw [List.getElem?_range hlt] at hi
      cases hi
      exact hrv j d hd
    · intro j u hj
      simp only [List.getElem?_map, Option.map_eq_some_iff] at hj
      obtain ⟨i, hi, rfl⟩ := hj
      have hlt : j < rows.flatten.length := by have := (List.getElem?_eq_some_iff.1 hi).1; simpa using this
      rw [List.getElem?_range hlt] at hi
      cases hi
      rw [Addr.add_lit]
      exact hcell j _ (List.getElem?_eq_getElem hlt)

theorem source_of {live : List Nat} {v : Value} {s : ASlot} {es : Nat} {r : List (List D)} (h : RS g w live v s) (hr : srcOf es s = some r) :
    (∀ row ∈ r, row.length = es) ∧ ∃ news : List Value, RL g w news r.flatten ∧ Source P es v r.length w news ∧ (Builtin.firstCells es r.length v).run P w.drew = .ok news.toArray w.drew := by
  by_cases hstr : ∃ l, s = .d (.str l)
  · obtain ⟨l, rfl⟩ := hstr
    simp only [srcOf] at hr
    split at hr
    · rename_i h1
      cases hr
      subst h1
      have hv := rv_str (rs_d h)
      subst hv
      have hlen : (byteRows l).length = l.length := by simp [byteRows]
      have hext : (⟨l.toArray⟩ : ByteArray).extract 0 l.length = ⟨l.toArray⟩ := by
        apply ByteArray.ext
        simp [ByteArray.data_extract]
      have hcells : ∀ w0 : World, (Builtin.firstCells 1 (byteRows l).length (.string ⟨l.toArray⟩)).run P w0 = .ok (l.map fun b => Value.int .u8 b.toNat).toArray w0 := by
        intro w0
        rw [hlen]
        simp [Builtin.firstCells, hext]
      refine ⟨by simp [byteRows], l.map fun b => Value.int .u8 b.toNat, ?_, ⟨?_, hcells w⟩, hcells w.drew⟩
      · rw [flat_byteRows]
        refine ⟨by simp, fun d hd => by obtain ⟨c, _, rfl⟩ := List.mem_map.1 hd; rfl, fun j u d hu hd => ?_⟩
        simp only [List.getElem?_map, Option.map_eq_some_iff] at hu hd
        obtain ⟨c, hc, rfl⟩ := hu
        obtain ⟨c', hc', rfl⟩ := hd
        rw [hc] at hc'; cases hc'
        exact .int _ _
      · simp [Builtin.lenOf, hlen, size_mk]
    · cases hr
  · have hr' : ∃ e, s.rows = some (e, r) ∧ (e = es ∨ r = []) := by
      unfold srcOf at hr
      split at hr
      · rename_i l; exact (hstr ⟨l, rfl⟩).elim
      · split at hr
        · rename_i e r' hrow
          split at hr
          · rename_i hc; cases hr; exact ⟨e, hrow, hc⟩
          · cases hr
        · cases hr
    obtain ⟨e, hrow, hc⟩ := hr'
    obtain ⟨vs, hrl, cap, hcase⟩ := rl_of_sl (rs_rows h hrow)
    rcases hcase with ⟨⟨ad, rfl, _⟩, rfl⟩ | ⟨b, off, rfl, hes, hcell⟩
    · have : vs = [] := by have := hrl.1; simpa using this
      subst this
      have hfc : ∀ w0 : World, (Builtin.firstCells es 0 (.slice ad 0 cap)).run P w0 = .ok #[] w0 := by
        intro w0
        cases ad with
        | none => simp [Builtin.firstCells]
        | some a0 => exact run_firstCells_some (P := P) w0 es 0 a0 _ _ [] (by simp) (by simp)
      exact ⟨by simp, [], hrl, ⟨by simp [Builtin.lenOf], hfc w⟩, hfc w.drew⟩
    · have hes' : ∀ row ∈ r, row.length = es := by
        rcases hc with rfl | rfl
        · exact hes
        · simp
      have hl : vs.length = r.length * es := by rw [hrl.1, flat_length hes']
      refine ⟨hes', vs, hrl, ⟨by simp [Builtin.lenOf], ?_⟩, ?_⟩
      · exact run_firstCells_some (P := P) w es r.length _ _ _ vs hl hcell
      · exact run_firstCells_some (P := P) w.drew es r.length _ _ _ vs hl (by simpa using hcell)

end
end Go.Abs
