/- Texts Aj, Ak, Al, Am, An. -/
import Derived.Test.YtkcdbcbpbolgkaaGreatDoorMqc
import Derived.Laws.CopyRow
set_option linter.unusedSimpArgs false
set_option linter.unusedVariables false
namespace Go.Abs
section
variable {P : Program} {N tb : Nat} {T : Nat → Prop} {g : Ghost} {w : World} {st : St} {a : Act} {oper : Oper}
theorem getElem?_chunks : ∀ (n es : Nat) (l : List D), n * es ≤ l.length → (qb2 es n l).flatten = l.take (n * es) ∧ (∀ r ∈ qb2 es n l, r.length = es) ∧ (qb2 es n l).length = n
 | 0, es, l, _ => by simp [qb2]
 | n + 1, es, l, h => by
  rw [Nat.succ_mul] at h
  obtain ⟨h1, h2, h3⟩ := getElem?_chunks n es (l.drop es) (by simp; omega)
  refine ⟨?_, ?_, by simp [qb2, h3]⟩
  ·simp only [qb2, List.flatten_cons, h1]
   rw [Nat.succ_mul, Nat.add_comm, List.take_add]
  ·intro r hr
   simp only [qb2, List.mem_cons] at hr
   rcases hr with rfl | hr
   ·simp; omega
   ·exact h2 r hr
theorem q5b (hs : SR N T g w st a) {v : Value} {id off es n : Nat} (h : RV g w v (.ref id off es n)) (hok : qsc st.os id off es n) :
  (∀ row ∈ qa6 st.os id off es n, row.length = es) ∧ (qa6 st.os id off es n).length = n ∧ ∃ us : List Value, RL g w us (qa6 st.os id off es n).flatten ∧
   ((n = 0 ∧ ∃ ad, v = .slice ad 0 0) ∨ ∃ b cap, v = .slice (some ⟨b, off, none⟩) n cap ∧ ∀ (j : Nat) (u : Value), us[j]? = some u → w.cell? ⟨b, off + j, none⟩ = some u) := by
 obtain ⟨h1, h2⟩ := hok
 obtain ⟨c1, c2, c3⟩ := getElem?_chunks n es (((qh st.os id).drop off).map ASlot.cellD) (by simp; omega)
 refine ⟨c2, c3, ?_⟩
 show ∃ us : List Value, RL g w us (qb2 es n (((qh st.os id).drop off).map ASlot.cellD)).flatten ∧ _
 rw [c1]
 generalize hy : D.ref id off es n = y at h
 cases h with
 | ref b off' id' es' len cap hg hcap hmx hsz =>
  cases hy
  by_cases h0 : n * es = 0
  ·refine ⟨[], ?_, .inr ⟨b, cap, rfl, by simp⟩⟩
   rw [h0]
   exact ⟨by simp, by simp, by simp⟩
  ·obtain ⟨c, e, q1, q2, q3⟩ := qs6 hs hg (by omega)
   have hlen : ((c.toList.drop off).take (n * es)).length = n * es := by simp; omega
   refine ⟨(c.toList.drop off).take (n * es), ⟨by rw [hlen]; simp; omega, ?_, ?_⟩, .inr ⟨b, cap, rfl, ?_⟩⟩
   ·intro d hd
    rw [← List.map_take, List.mem_map] at hd
    obtain ⟨s, hs', rfl⟩ := hd
    have := List.all_eq_true.1 h2 s hs'
    cases s <;> simp_all [ASlot.isCellD, ASlot.cellD] <;> rfl
   ·intro j u d hu hd
    rw [← List.map_take, List.getElem?_map, Option.map_eq_some_iff] at hd
    obtain ⟨s, hs', rfl⟩ := hd
    have hall := List.all_eq_true.1 h2 s (List.mem_of_getElem? hs')
    have hsj : (qh st.os id)[off + j]? = some s := by rw [List.getElem?_take] at hs'; split at hs' <;> simp_all
    have huj : c[off + j]? = some u := by rw [List.getElem?_take] at hu; split at hu <;> simp_all
    obtain ⟨v, hv1, _, hv2⟩ := q3 (off + j) s hsj
    rw [huj] at hv1
    cases hv1
    exact (qu9 (st := st) hv2 hall).1
   ·intro j u hu
    rw [List.getElem?_take] at hu
    split at hu
    ·simpa [World.cell?, q1] using hu
    ·cases hu
 | refnil ad id' off' es' =>
  cases hy
  refine ⟨[], ?_, .inl ⟨rfl, ad, rfl⟩⟩
  rw [Nat.zero_mul]
  exact ⟨by simp, by simp, by simp⟩
 | _ => cases hy
theorem qvc {s t e : TypeId} {x : Operand} {y : Opd} {r : Src} (h1 : (y.get st.fr).rows = none) (h2 : qbp 1 st.os (y.get st.fr) = some r) (ho : oper.op = .convert s t x) (hsrc : P.underlying s = some (.slice e)) (he : P.underlying e = some (.int .u8)) (hdst : P.underlying t = some .string)
  (hx : qp x = some y) (hs : SR N T g w st a) (hob : (sem tb (.b2s y) st).ob) : yi P g w st a oper (sem tb (.b2s y) st).v := by
 simp only [sem, h1, h2] at hob ⊢
 obtain ⟨hok, hrok, l, hl⟩ := hob
 have r1 := xc hs hx hok
 cases hy : y.get st.fr with
 | d p =>
  cases p with
  | ref id off es n =>
   rw [hy] at h2 r1
   simp only [qbp] at h2
   split at h2
   ·rename_i hes
    subst hes
    cases h2
    obtain ⟨c1, c2, us, c3, c4⟩ := q5b hs (wj r1) hrok
    simp only at hl
    rw [hl] at c2 c3 ⊢
    rw [qb5]
    refine ⟨.string ⟨l.toArray⟩, ?_, .str l⟩
    have hflat := qat l
    have hln : l.length = n := by simpa [qd] using c2
    have hus : us = l.map fun c => Value.int .u8 c.toNat := by
     refine List.ext_getElem? fun j => ?_
     rcases Nat.lt_or_ge j l.length with hj | hj
     ·have hlt : j < us.length := by rw [c3.1, hflat]; simpa using hj
      rw [List.getElem?_eq_getElem hlt, List.getElem?_map, List.getElem?_eq_getElem hj]
      have := c3.2.2 j us[j] (D.int .u8 l[j].toNat) (List.getElem?_eq_getElem hlt) (by rw [hflat]; simp [hj])
      rw [vg this]; rfl
     ·rw [List.getElem?_eq_none (by rw [c3.1, hflat]; simpa using hj), List.getElem?_eq_none (by simpa using hj)]
    rcases c4 with ⟨h0, ad, hv⟩ | ⟨b, cap, hv, hc⟩
    ·have : l = [] := List.eq_nil_of_length_eq_zero (by omega)
     subst this
     cases ad with
     | none =>
      simp [execOp, ho, hv, run_convert_bytes_string w s t e _ _ _ hsrc he hdst, Conv.bytesToString]
      rfl
     | some a0 =>
      have hload : (loadCells a0 0).run P w = .ok (([] : List Int).map (Value.int .u8)).toArray w := by simpa using run_loadCells_list (P := P) w a0 [] (by simp)
      have hrun := run_bytesToString w a0 0 0 [] hload
      simp only [execOp, ho, hv, Sem.run_bind, run_convert_bytes_string w s t e _ _ _ hsrc he hdst, hrun]
      simp [ByteArray.empty, ByteArray.emptyWithCapacity]
      rfl
    ·have hload : (loadCells ⟨b, off, none⟩ n).run P w = .ok ((l.map fun c => (c.toNat : Int)).map (Value.int .u8)).toArray w := by
      have := run_loadCells_list (P := P) w ⟨b, off, none⟩ ((l.map fun c => (c.toNat : Int)).map (Value.int .u8)) (by
       intro j v hj
       rw [Addr.add_lit]
       apply hc
       rw [hus]
       simpa using hj)
      simpa [hln] using this
     have hrun := run_bytesToString w ⟨b, off, none⟩ n cap (l.map fun c => (c.toNat : Int)) hload
     rw [qdd] at hrun
     simp only [execOp, ho, hv, Sem.run_bind, run_convert_bytes_string w s t e _ _ _ hsrc he hdst, hrun]
     simp [ByteArray.empty, ByteArray.emptyWithCapacity]
     rfl
   ·cases h2
  | _ => rw [hy] at h2; simp [qbp] at h2
 | _ => rw [hy] at h2; simp [qbp] at h2
def Source (P : Program) (size : Nat) (x : Value) (n : Nat) (w : World) (news : List Value) : Prop :=
 (Builtin.lenOf x).run P w = .ok n w ∧ (Builtin.firstCells size n x).run P w = .ok news.toArray w
theorem w8 {t u ty e : TypeId} {i : TypeInfo} (ht : P.underlying t = some (.slice e)) (hi : P.info? e = some i) (hu : (∃ f, P.underlying u = some (.slice f)) ∨ P.underlying u = some .string)
  (ad : Addr) (sLen sCap : Nat) {x : Value} {n : Nat} {news : List Value} (hx : Source P i.size x n w news) (hn : sLen + n ≤ sCap) :
  (Builtin.append_ #[t, u] ty #[.slice (some ad) sLen sCap, x]).run P w =
   ((storeCells (ad.add (sLen * i.size)) news).run P w).andThen fun _ w' => .ok (.slice (some ad) (sLen + n) sCap) w' := by
 obtain ⟨h1, h2⟩ := hx
 rcases hu with ⟨f, hu⟩ | hu
 ·simp only [Builtin.append_, Sem.run_bind, run_underlying ht, run_underlying hu, qt hi, Result.andThen_ok, h1, List.getElem?_toArray, List.getElem?_cons_zero, List.getElem?_cons_succ, Sem.run_pure, Bool.false_eq_true, if_false, hn, if_true, h2, Bool.not_false]
 ·simp only [Builtin.append_, Sem.run_bind, run_underlying ht, run_underlying hu, qt hi, Result.andThen_ok, h1, List.getElem?_toArray, List.getElem?_cons_zero, List.getElem?_cons_succ, Sem.run_pure, Bool.false_eq_true, if_false, hn, if_true, h2, Bool.not_false]
theorem qcp {t u ty e : TypeId} {i : TypeInfo} (ht : P.underlying t = some (.slice e)) (hi : P.info? e = some i) (hu : (∃ f, P.underlying u = some (.slice f)) ∨ P.underlying u = some .string)
  (sLen sCap : Nat) {x : Value} {n : Nat} {news : List Value} (hx : Source P i.size x n w news) (hn : sLen + n ≤ sCap) :
  (Builtin.append_ #[t, u] ty #[.slice none sLen sCap, x]).run P w = .ok (.slice none (sLen + n) sCap) w := by
 obtain ⟨h1, h2⟩ := hx
 rcases hu with ⟨f, hu⟩ | hu
 ·simp only [Builtin.append_, Sem.run_bind, run_underlying ht, run_underlying hu, qt hi, Result.andThen_ok, h1, List.getElem?_toArray, List.getElem?_cons_zero, List.getElem?_cons_succ, Sem.run_pure, Bool.false_eq_true, if_false, hn, if_true, h2, Bool.not_false]
 ·simp only [Builtin.append_, Sem.run_bind, run_underlying ht, run_underlying hu, qt hi, Result.andThen_ok, h1, List.getElem?_toArray, List.getElem?_cons_zero, List.getElem?_cons_succ, Sem.run_pure, Bool.false_eq_true, if_false, hn, if_true, h2, Bool.not_false]
theorem qb6 {t u ty e : TypeId} {i : TypeInfo} {z : Value} (ht : P.underlying t = some (.slice e)) (hi : P.info? e = some i) (hz : i.zero = some z) (hu : (∃ f, P.underlying u = some (.slice f)) ∨ P.underlying u = some .string) (hb0 : i.bytes ≠ 0)
  (base : Option Addr) (sLen sCap : Nat) {x : Value} {n : Nat} {olds news : List Value} (hl : (Builtin.lenOf x).run P w = .ok n w) (hx : (Builtin.firstCells i.size n x).run P w.drew = .ok news.toArray w.drew)
  (ho : (Builtin.firstCells i.size sLen (.slice base sLen sCap)).run P w.drew = .ok olds.toArray w.drew)
  (hn : sCap < sLen + n) (hfit : Builtin.nextslicecap (sLen + n) sCap * i.bytes ≤ 281474976710656) :
  (Builtin.append_ #[t, u] ty #[.slice base sLen sCap, x]).run P w =
   .ok (.slice (some ⟨w.heap.size, 0, none⟩) (sLen + n) (grownCap w (sLen + n) sCap e))
    (w.drew.alloc (.cells (olds.toArray ++ news.toArray ++ Builtin.zeroCells z.cells (grownCap w (sLen + n) sCap e - (sLen + n))) e)) := by
 have hn' : ¬ (sLen + n ≤ sCap) := by omega
 have h48' : ¬ (281474976710656 < Builtin.nextslicecap (sLen + n) sCap * i.bytes) := by omega
 have hb : ¬ (((sLen + n : Nat) : Int) > IntKind.i64.max ∧ (false = true ∨ i.bytes = 0)) := by simp [hb0]
 rcases hu with ⟨f, hu⟩ | hu
 ·simp [Builtin.append_, run_underlying ht, run_underlying hu, qt hi, typeInfo, zeroValue, hi, hz, hl, hn', hx, ho, h48', hb0, Question.forced, newRow, grownCap]
  congr 2
  apply Array.ext'
  simp
 ·simp [Builtin.append_, run_underlying ht, run_underlying hu, qt hi, typeInfo, zeroValue, hi, hz, hl, hn', hx, ho, h48', hb0, Question.forced, newRow, grownCap]
  congr 2
  apply Array.ext'
  simp
theorem qvd {v : Value} {es : Nat} {rows : List (List D)} (h : RV g w v (.sl es rows)) :
  ∃ vs : List Value, RL g w vs rows.flatten ∧ ∃ cap, ((∃ ad, v = .slice ad 0 cap ∧ (ad = none → cap = 0)) ∧ rows = []) ∨ (∃ b off, v = .slice (some ⟨b, off, none⟩) rows.length cap ∧ (∀ r ∈ rows, r.length = es) ∧
   ∀ (j : Nat) (u : Value), vs[j]? = some u → w.cell? ((⟨b, off, none⟩ : Addr).add j) = some u) := by
 rcases qsd h with ⟨⟨ad, cp, hv, hn0⟩, rfl⟩ | ⟨b, off, cap, n, o, f, hv, hg, hn, hcap, hes, hcl, hcell, hrv⟩
 ·exact ⟨[], ⟨rfl, by simp, by simp⟩, cp, .inl ⟨⟨ad, hv, hn0⟩, rfl⟩⟩
 ·refine ⟨(List.range rows.flatten.length).map f, ⟨by simp, hcl, ?_⟩, cap, .inr ⟨b, off, hv, hes, ?_⟩⟩
  ·intro j u d hj hd
   simp only [List.getElem?_map, Option.map_eq_some_iff] at hj
   obtain ⟨i, hi, rfl⟩ := hj
   have hlt : j < rows.flatten.length := (List.getElem?_eq_some_iff.1 hd).1
   rw [List.getElem?_range hlt] at hi
   cases hi
   exact hrv j d hd
  ·intro j u hj
   simp only [List.getElem?_map, Option.map_eq_some_iff] at hj
   obtain ⟨i, hi, rfl⟩ := hj
   have hlt : j < rows.flatten.length := by have := (List.getElem?_eq_some_iff.1 hi).1; simpa using this
   rw [List.getElem?_range hlt] at hi
   cases hi
   rw [Addr.add_lit]
   exact hcell j _ (List.getElem?_eq_getElem hlt)
theorem qpf {live : List Nat} {v : Value} {s : ASlot} {es : Nat} {r : List (List D)} (h : RS g w live v s) (hr : (∃ l, s = .d (.str l) ∧ es = 1 ∧ r = qd l) ∨ ∃ e, s.rows = some (e, r) ∧ (e = es ∨ r = [])) :
  (∀ row ∈ r, row.length = es) ∧ ∃ news : List Value, RL g w news r.flatten ∧ Source P es v r.length w news ∧ (Builtin.firstCells es r.length v).run P w.drew = .ok news.toArray w.drew ∧ ∀ k, k ≤ r.length → (Builtin.firstCells es k v).run P w = .ok (news.take (k * es)).toArray w := by
 rcases hr with ⟨l, rfl, rfl, rfl⟩ | hr'
 ·
  ·have hv := qcm (wj h)
   subst hv
   have hlen : (qd l).length = l.length := by simp [qd]
   have hext : (⟨l.toArray⟩ : ByteArray).extract 0 l.length = ⟨l.toArray⟩ := by
    apply ByteArray.ext
    simp [ByteArray.data_extract]
   have hcells : ∀ w0 : World, (Builtin.firstCells 1 (qd l).length (.string ⟨l.toArray⟩)).run P w0 = .ok (l.map fun b => Value.int .u8 b.toNat).toArray w0 := by
    intro w0
    rw [hlen]
    simp [Builtin.firstCells, hext]
   have hpre : ∀ k, k ≤ (qd l).length → (Builtin.firstCells 1 k (.string ⟨l.toArray⟩)).run P w = .ok ((l.map fun b => Value.int .u8 b.toNat).take (k * 1)).toArray w := by
    intro k hk
    rw [hlen] at hk
    simp [Builtin.firstCells, ← List.map_take]
   refine ⟨by simp [qd], l.map fun b => Value.int .u8 b.toNat, ?_, ⟨?_, hcells w⟩, hcells w.drew, hpre⟩
   ·rw [qat]
    refine ⟨by simp, fun d hd => by obtain ⟨c, _, rfl⟩ := List.mem_map.1 hd; rfl, fun j u d hu hd => ?_⟩
    simp only [List.getElem?_map, Option.map_eq_some_iff] at hu hd
    obtain ⟨c, hc, rfl⟩ := hu
    obtain ⟨c', hc', rfl⟩ := hd
    rw [hc] at hc'; cases hc'
    exact .int _ _
   ·simp [Builtin.lenOf, hlen, qo8]
 ·obtain ⟨e, hrow, hc⟩ := hr'
  obtain ⟨vs, hrl, cap, hcase⟩ := qvd (qi7 h hrow)
  rcases hcase with ⟨⟨ad, rfl, _⟩, rfl⟩ | ⟨b, off, rfl, hes, hcell⟩
  ·have : vs = [] := by have := hrl.1; simpa using this
   subst this
   have hfc : ∀ w0 : World, (Builtin.firstCells es 0 (.slice ad 0 cap)).run P w0 = .ok #[] w0 := by
    intro w0
    cases ad with
    | none => simp [Builtin.firstCells]
    | some a0 => exact run_firstCells_some (P := P) w0 es 0 a0 _ _ [] (by simp) (by simp)
   exact ⟨by simp, [], hrl, ⟨by simp [Builtin.lenOf], hfc w⟩, hfc w.drew, fun k hk => (by have : k = 0 := (by simpa using hk); subst this; simpa using hfc w)⟩
  ·have hes' : ∀ row ∈ r, row.length = es := by
    rcases hc with rfl | rfl
    ·exact hes
    ·simp
   have hl : vs.length = r.length * es := by rw [hrl.1, xf hes']
   refine ⟨hes', vs, hrl, ⟨by simp [Builtin.lenOf], ?_⟩, ?_, fun k hk => ?_⟩
   ·exact run_firstCells_some (P := P) w es r.length _ _ _ vs hl hcell
   ·exact run_firstCells_some (P := P) w.drew es r.length _ _ _ vs hl (by simpa using hcell)
   ·have hke : k * es ≤ r.length * es := Nat.mul_le_mul_right _ hk
    refine run_firstCells_some (P := P) w es k _ _ _ _ (by rw [List.length_take]; omega) (fun j u hj => hcell j u ?_)
    rw [List.getElem?_take] at hj
    split at hj
    ·exact hj
    ·cases hj
theorem qfu (hs : SR N T g w st a) {v : Value} {s : ASlot} {es : Nat} {r : Src} (h : RS g w st.live v s) (hr : y8 es st.os s = some r) (hok : r.ok) :
  (∀ row ∈ r.rows, row.length = es) ∧ ∃ news : List Value, RL g w news r.rows.flatten ∧ Source P es v r.rows.length w news ∧ (Builtin.firstCells es r.rows.length v).run P w.drew = .ok news.toArray w.drew ∧ ∀ k, k ≤ r.rows.length → (Builtin.firstCells es k v).run P w = .ok (news.take (k * es)).toArray w := by
 unfold y8 at hr
 split at hr
 ·rename_i l
  split at hr
  ·rename_i h1; cases hr; exact qpf h (.inl ⟨l, rfl, h1, rfl⟩)
  ·cases hr
 ·split at hr
  ·rename_i e r' hrow
   split at hr
   ·rename_i hc; cases hr; exact qpf h (.inr ⟨e, hrow, hc⟩)
   ·cases hr
  ·unfold qbp at hr
   split at hr
   ·rename_i id off e n _ _
    split at hr
    ·rename_i he
     subst he
     cases hr
     obtain ⟨c1, c2, us, c3, c4⟩ := q5b hs (wj h) hok
     refine ⟨c1, us, c3, ?_⟩
     simp only
     rw [c2]
     rcases c4 with ⟨rfl, ad, rfl⟩ | ⟨b, cap, rfl, hc⟩
     ·have : us = [] := by
       have h1 := c3.1
       rw [xf c1, c2] at h1
       exact List.eq_nil_of_length_eq_zero (by simpa using h1)
      subst this
      have hfc : ∀ w0 : World, (Builtin.firstCells e 0 (.slice ad 0 0)).run P w0 = .ok #[] w0 := by
       intro w0
       cases ad with
       | none => simp [Builtin.firstCells]
       | some a0 => exact run_firstCells_some (P := P) w0 e 0 a0 _ _ [] (by simp) (by simp)
      exact ⟨⟨by simp [Builtin.lenOf], hfc w⟩, hfc w.drew, fun k hk => (by have : k = 0 := (by omega); subst this; simpa using hfc w)⟩
     ·have hl : us.length = n * e := by rw [c3.1, xf c1, c2]
      refine ⟨⟨by simp [Builtin.lenOf], ?_⟩, ?_, fun k hk => ?_⟩
      ·exact run_firstCells_some (P := P) w e n _ _ _ us hl (fun j u hj => by rw [Addr.add_lit]; exact hc j u hj)
      ·exact run_firstCells_some (P := P) w.drew e n _ _ _ us hl (fun j u hj => by rw [Addr.add_lit]; exact hc j u hj)
      ·have hke : k * e ≤ n * e := Nat.mul_le_mul_right _ hk
       refine run_firstCells_some (P := P) w e k _ _ _ _ (by rw [List.length_take]; omega) (fun j u hj => ?_)
       rw [List.getElem?_take] at hj
       split at hj
       ·rw [Addr.add_lit]; exact hc j u hj
       ·cases hj
    ·cases hr
   ·cases hr
end
end Go.Abs
namespace Go.Abs
section
variable {P : Program} {N tb : Nat} {T : Nat → Prop} {g : Ghost} {w : World} {st : St} {a : Act} {oper : Oper} {live live' : List Nat}
theorem xf9 {v : Value} {e es : Nat} {l : List (List D)} (h : RV g w v (.sl e l)) (he : e = es ∨ l = []) : RV g w v (.sl es l) := by
 rcases he with rfl | rfl
 ·exact h
 ·rcases qsd h with ⟨⟨ad, cp, rfl, hn0⟩, _⟩ | ⟨b, off, cap, n, o, f, rfl, hg, hn, hcap, hes, hcl, hcell, hrv⟩
  ·exact .nilsl ad cp es hn0
  ·exact .sl b off cap es n o [] f hg hn hcap (by simp) hcl hcell hrv
theorem xa1 {v : Value} {es : Nat} {l : List (List D)} (h : RV g w v (.sl es l)) : ∀ r ∈ l, r.length = es := by
 rcases qsd h with ⟨_, rfl⟩ | ⟨b, off, cap, n, o, f, _, _, _, _, hes, _⟩
 all_goals grind
theorem xl9 {v : Value} {es : Nat} {l : List (List D)} (h : RV g w v (.sl es l)) :
  ∃ olds : List Value, RL g w olds l.flatten ∧ (Builtin.firstCells es l.length v).run P w.drew = .ok olds.toArray w.drew := by
 obtain ⟨vs, hrl, cap, hcase⟩ := qvd h
 rcases hcase with ⟨⟨ad, rfl, _⟩, rfl⟩ | ⟨b, off, rfl, hes, hcell⟩
 ·have : vs = [] := by have := hrl.1; grind
  subst this
  cases ad with
  | none => simp_all [Builtin.firstCells]
  | some a0 => grind [run_firstCells_some]
 ·exact ⟨vs, hrl, run_firstCells_some (P := P) w.drew es l.length _ _ _ vs (by rw [hrl.1, xf hes]) (by simp_all)⟩
theorem RL.quiet {g' : Ghost} {w' : World} {vs : List Value} {ds : List D} (h : RL g w vs ds) (hd : Dom g w) (hq : Qt T g w g' w' live live') : RL g' w' vs ds :=
 ⟨h.1, h.2.1, fun j v d hv hd' => hq.rv hd (h.2.2 j v d hv hd')⟩
theorem qfv {g' : Ghost} {w' : World} {b cap : Nat} {c : Array Value} {e : TypeId} {fz : Nat × Nat} {t : Option Nat} {es : Nat} {rows : List (List D)} {vs : List Value} {n : Nat} (hh : w'.heap[b]? = some (.cells c e fz))
  (hg : g' b = .row n t) (hn : rows.flatten.length ≤ n) (hes : ∀ r ∈ rows, r.length = es) (hcap : rows.length ≤ cap) (hrl : RL g' w' vs rows.flatten) (hc : ∀ (j : Nat) (u : Value), vs[j]? = some u → c[j]? = some u) :
  RV g' w' (.slice (some ⟨b, 0, none⟩) rows.length cap) (.sl es rows) := by
 refine .sl b 0 cap es n t rows (fun j => vs.getD j undef) hg (by omega) hcap hes hrl.2.1 (fun j d hj => ?_) (fun j d hj => ?_)
 ·have hlt : j < vs.length := by rw [hrl.1]; grind
  grind [List.getElem?_eq_getElem, World.cell?, List.getD]
 ·have hlt : j < vs.length := by rw [hrl.1]; grind
  have : vs.getD j undef = vs[j] := by grind
  simp only [this]
  exact hrl.2.2 j _ d (List.getElem?_eq_getElem hlt) hj
theorem qd6 (z : Array Value) (n : Nat) : (Builtin.zeroCells z n).size = n * z.size := size_zeroCells z n
theorem q2l {t u ty e : TypeId} {i : TypeInfo} {z : Value} (hd : Dom g w) (ht : P.underlying t = some (.slice e)) (hi : P.info? e = some i) (hz : i.zero = some z) (hzs : z.cells.size = i.size)
  (hu : (∃ f, P.underlying u = some (.slice f)) ∨ P.underlying u = some .string) (hb0 : i.bytes ≠ 0)
  {base : Option Addr} {sCap : Nat} {x : Value} {l r : List (List D)} {news : List Value} (hs : RV g w (.slice base l.length sCap) (.sl i.size l))
  (hl : (Builtin.lenOf x).run P w = .ok r.length w) (hx : (Builtin.firstCells i.size r.length x).run P w.drew = .ok news.toArray w.drew) (hrl : RL g w news r.flatten) (hes : ∀ row ∈ r, row.length = i.size)
  (hn : sCap < l.length + r.length) (h63 : l.length + r.length ≤ 9223372036854775807) (hby : (l.length + r.length) * i.bytes ≤ 140737488355328) (tk : Nat)
  (hlive : ∀ t, T t → t ∈ live' → t ∈ live) :
  ∃ v w' g', (Builtin.append_ #[t, u] ty #[.slice base l.length sCap, x]).run P w = .ok v w' ∧ Qt T g w g' w' live live' ∧ RC g' w' live' v (.own tk i.size (l ++ r)) := by
 obtain ⟨olds, ho1, ho2⟩ := xl9 (P := P) hs
 have hfit : Builtin.nextslicecap (l.length + r.length) sCap * i.bytes ≤ 281474976710656 := growslice_fits (by omega) hby
 have hrun := qb6 (P := P) (w := w) (ty := ty) ht hi hz hu hb0 base l.length sCap hl hx ho2 hn hfit
 have hq : Qt T g w (g.at w.heap.size (.row ((l.length + r.length) * i.size) (some tk))) (w.drew.alloc (.cells (olds.toArray ++ news.toArray ++ Builtin.zeroCells z.cells (grownCap w (l.length + r.length) sCap e - (l.length + r.length))) e)) live live' :=
  Qt.newRow hd w.drew rfl rfl rfl rfl _ _ (some tk) hlive
 have hge := grownCap_ge w (l.length + r.length) sCap e
 have hle := grownCap_le_maxLen w (l.length + r.length) sCap e (by grind [maxLen])
 have hesl := xa1 hs
 have hesa : ∀ row ∈ l ++ r, row.length = i.size := fun row hr => by grind
 have hfl : (l ++ r).flatten.length = (l.length + r.length) * i.size := by rw [xf hesa, List.length_append]
 have hnew : (w.drew.alloc (.cells (olds.toArray ++ news.toArray ++ Builtin.zeroCells z.cells (grownCap w (l.length + r.length) sCap e - (l.length + r.length))) e)).heap[w.heap.size]? = some (.cells (olds.toArray ++ news.toArray ++ Builtin.zeroCells z.cells (grownCap w (l.length + r.length) sCap e - (l.length + r.length))) e (0, 0)) := heap_alloc_new w.drew _
 have hrl2 : RL g w (olds ++ news) (l ++ r).flatten := by rw [List.flatten_append]; exact ho1.append hrl
 have hrv := qfv (cap := grownCap w (l.length + r.length) sCap e) (rows := l ++ r) hnew (Ghost.at_same _ _ _) (Nat.le_of_eq hfl) hesa (by grind) (hrl2.quiet hd hq) (fun j u hj => by
  grind)
 rw [List.length_append] at hrv
 refine ⟨_, _, _, hrun, hq, hrv, fun _ => .inr ⟨w.heap.size, _, _, e, by simp, ?_, hnew, ?_, hle, ?_⟩⟩
 ·rw [Ghost.at_same, List.length_append]
 ·grind
 ·have h1 : olds.length = l.length * i.size := by rw [ho1.1, xf hesl]
  have h2 : news.length = r.length * i.size := by rw [hrl.1, xf hes]
  simp only [Array.size_append, List.size_toArray, qd6, hzs, h1, h2, ← Nat.add_mul]
  grind
theorem q2m {t u ty e : TypeId} {i : TypeInfo} (hd : Dom g w) (ht : P.underlying t = some (.slice e)) (hi : P.info? e = some i)
  (hu : (∃ f, P.underlying u = some (.slice f)) ∨ P.underlying u = some .string)
  {b cap tk0 : Nat} {cur : Array Value} {te : TypeId} {x : Value} {l r : List (List D)} {news : List Value} (hs : RV g w (.slice (some ⟨b, 0, none⟩) l.length cap) (.sl i.size l))
  (hg : g b = .row (l.length * i.size) (some tk0)) (hh : w.heap[b]? = some (.cells cur te (0, 0))) (hcm : cap ≤ maxLen) (hcs : cap * i.size ≤ cur.size)
  (hx : Source P i.size x r.length w news) (hrl : RL g w news r.flatten) (hes : ∀ row ∈ r, row.length = i.size)
  (hn : l.length + r.length ≤ cap) (tk : Nat) (hlive : ∀ t, T t → t ∈ live' → t ∈ live ∧ t ≠ tk0) :
  ∃ v w' g', (Builtin.append_ #[t, u] ty #[.slice (some ⟨b, 0, none⟩) l.length cap, x]).run P w = .ok v w' ∧ Qt T g w g' w' live live' ∧ RC g' w' live' v (.own tk i.size (l ++ r)) := by
 have hrun := w8 (P := P) (w := w) (ty := ty) ht hi hu ⟨b, 0, none⟩ l.length cap hx hn
 have hesl := xa1 hs
 have hesa : ∀ row ∈ l ++ r, row.length = i.size := fun row hr => by grind
 have h1 : l.flatten.length = l.length * i.size := xf hesl
 have h2 : news.length = r.length * i.size := by rw [hrl.1, xf hes]
 have hfl : (l ++ r).flatten.length = (l.length + r.length) * i.size := by rw [xf hesa, List.length_append]
 have hone : ∀ v ∈ news, v.oneCell' = true := by
  intro v hv
  obtain ⟨j, hj⟩ := List.getElem?_of_mem hv
  have hlt : j < r.flatten.length := by grind
  exact (hrl.2.2 j v _ hj (List.getElem?_eq_getElem hlt)).oneCell (hrl.2.1 _ (List.getElem_mem hlt))
 have hsz : (l.length + r.length) * i.size ≤ cap * i.size := Nat.mul_le_mul_right _ hn
 rw [Nat.add_mul] at hsz
 have hst := run_storeCells_at P b (l.length * i.size) te news 0 cur w hh (by omega) hone
 rw [Addr.add_lit, Nat.zero_add] at hrun
 rw [hst] at hrun
 simp only [Nat.add_zero, Result.andThen_ok] at hrun
 generalize hcur' : (cur.toList.take (l.length * i.size) ++ news ++ cur.toList.drop (l.length * i.size + news.length)).toArray = cur' at hrun
 have hb : b < w.heap.size := hd.lt_row hg
 have hheap : (w.setRow b cur').heap[b]? = some (.cells cur' te (0, 0)) := setRow_heap w b cur cur' te (0, 0) hh
 have hother : ∀ k, k ≠ b → (w.setRow b cur').heap[k]? = w.heap[k]? := fun k hk => setRow_other w b k cur' hk
 have hsize : (w.setRow b cur').heap.size = w.heap.size := by simp
 have hlen' : cap * i.size ≤ cur'.size := by
  grind [List.size_toArray, List.length_append, List.length_take, List.length_drop, Array.length_toList]
 have hkeep : ∀ j, j < l.length * i.size → cur'[j]? = cur[j]? := by
  grind [Array.length_toList, List.append_assoc, List.getElem?_append_left, List.length_take]
 have hput : ∀ (j : Nat) (v : Value), news[j]? = some v → cur'[l.length * i.size + j]? = some v := by
  intro j v hj
  have hlt : j < news.length := (List.getElem?_eq_some_iff.1 hj).1
  have hle : (cur.toList.take (l.length * i.size)).length = l.length * i.size := by grind
  rw [← hcur']
  simp only [List.getElem?_toArray, List.append_assoc]
  simp_all [List.getElem?_append_right, Nat.add_sub_cancel_left, List.getElem?_append_left]
 have hq : Qt T g w (g.at b (.row ((l.length + r.length) * i.size) (some tk))) (w.setRow b cur') live live' := by
  have hgo : ∀ k, k ≠ b → g.at b (.row ((l.length + r.length) * i.size) (some tk)) k = g k := fun k hk => Ghost.at_ne g _ hk
  refine ⟨⟨rfl, rfl, rfl, by omega, fun k hk hgk => ?_, fun k m hk hgk => ?_, fun k m t' hk hgk => ?_, fun k id hk hgk => ?_⟩, ⟨fun k hk => ?_, hd.2.same fun k m hk hgk => by grind⟩, fun k id hgk => ?_, fun k id hgk => ?_, fun k m t' htb htl hgk => ?_, fun t' h h' => (hlive t' h h').1, fun k t' htb htl hgk => ?_⟩
  ·grind
  ·grind
  ·grind [Ghost.at_same, Nat.mul_le_mul_right, World.cell?, Option.isSome_none, Bool.false_eq_true]
  ·have : k ≠ b := by grind
   grind [Nat.le_of_eq, ji]
  ·have : k ≠ b := by omega
   rw [hgo k this]; exact hd.1 k (by omega)
  ·grind
  ·have : k ≠ b := by rintro rfl; grind [Ghost.at_same]
   grind
  all_goals grind
 obtain ⟨vs, hvs, c0, hcase⟩ := qvd hs
 have hvs' : ∀ (j : Nat) (u : Value), vs[j]? = some u → cur[j]? = some u := by
  rcases hcase with ⟨_, hnil⟩ | ⟨b', off', h, _, hcell⟩
  ·intro j u hj
   have hv0 : vs = [] := by have := hvs.1; grind
   grind
  ·cases h
   simp_all [Addr.add_lit, Nat.zero_add, World.cell?]
 have hrl2 : RL g w (vs ++ news) (l ++ r).flatten := by rw [List.flatten_append]; exact hvs.append hrl
 have hvl : vs.length = l.length * i.size := by rw [hvs.1, h1]
 have hrv := qfv (cap := cap) (rows := l ++ r) hheap (Ghost.at_same _ _ _) (Nat.le_of_eq hfl) hesa (by grind) (hrl2.quiet hd hq) (fun j u hj => by
  grind)
 rw [List.length_append] at hrv
 refine ⟨_, _, _, hrun, hq, hrv, fun _ => .inr ⟨b, cap, cur', te, by simp, ?_, hheap, ?_, hcm, hlen'⟩⟩
 all_goals grind [Ghost.at_same, List.length_append]
theorem q5c {t es : Nat} {l : List (List D)} {v : Value} (h : UniOk g w t es l v) :
  ∃ base cap olds, v = .slice base l.length cap ∧ l.length ≤ cap ∧ (∀ r ∈ l, r.length = es) ∧ RL g w olds l.flatten ∧ (Builtin.firstCells es l.length v).run P w.drew = .ok olds.toArray w.drew := by
 rcases h with ⟨ad, rfl, rfl⟩ | ⟨b, cap, cur, e, rfl, h2, h3, h4, h5, h6, h7, h8⟩
 ·refine ⟨ad, 0, [], rfl, Nat.le_refl _, by simp, ⟨by simp, by simp, by simp⟩, ?_⟩
  cases ad with
  | none => rfl
  | some a0 => grind [run_firstCells_some]
 ·have hfl : l.flatten.length = l.length * es := xf h7
  have hrow : l.length * es ≤ cap * es := Nat.mul_le_mul_right _ h4
  have hlen : (cur.toList.take (l.length * es)).length = l.length * es := by grind
  refine ⟨_, cap, cur.toList.take (l.length * es), rfl, h4, h7, ⟨by omega, fun d hd => ?_, fun j v d hv hd => ?_⟩, ?_⟩
  ·grind [List.getElem?_of_mem]
  ·grind
  ·refine run_firstCells_some (P := P) w.drew es l.length _ _ _ _ hlen (fun j u hj => ?_)
   rw [List.getElem?_take] at hj
   split at hj
   ·rw [Addr.add_lit, Nat.zero_add]
    have h3' : w.drew.heap[b]? = some (.cells cur e (0, 0)) := h3
    grind [World.cell?]
   grind
theorem qhe {t u ty e : TypeId} {i : TypeInfo} {z : Value} (hd : Dom g w) (ht : P.underlying t = some (.slice e)) (hi : P.info? e = some i) (hz : i.zero = some z) (hzs : z.cells.size = i.size)
  (hu : (∃ f, P.underlying u = some (.slice f)) ∨ P.underlying u = some .string) (hb0 : i.bytes ≠ 0)
  {base : Option Addr} {sCap : Nat} {x : Value} {l r : List (List D)} {olds news : List Value} (hesl : ∀ row ∈ l, row.length = i.size) (ho1 : RL g w olds l.flatten)
  (ho2 : (Builtin.firstCells i.size l.length (.slice base l.length sCap)).run P w.drew = .ok olds.toArray w.drew)
  (hl : (Builtin.lenOf x).run P w = .ok r.length w) (hx : (Builtin.firstCells i.size r.length x).run P w.drew = .ok news.toArray w.drew) (hrl : RL g w news r.flatten) (hes : ∀ row ∈ r, row.length = i.size)
  (hn : sCap < l.length + r.length) (h63 : l.length + r.length ≤ 9223372036854775807) (hby : (l.length + r.length) * i.bytes ≤ 140737488355328) (tk : Nat)
  (hlive : ∀ t, T t → t ∈ live' → t ∈ live) :
  ∃ v w' g', (Builtin.append_ #[t, u] ty #[.slice base l.length sCap, x]).run P w = .ok v w' ∧ Qt T g w g' w' live live' ∧ RC g' w' live' v (.uni tk i.size (l ++ r)) := by
 have hfit : Builtin.nextslicecap (l.length + r.length) sCap * i.bytes ≤ 281474976710656 := growslice_fits (by omega) hby
 have hrun := qb6 (P := P) (w := w) (ty := ty) ht hi hz hu hb0 base l.length sCap hl hx ho2 hn hfit
 have hq : Qt T g w (g.at w.heap.size (.uni tk)) (w.drew.alloc (.cells (olds.toArray ++ news.toArray ++ Builtin.zeroCells z.cells (grownCap w (l.length + r.length) sCap e - (l.length + r.length))) e)) live live' :=
  Qt.newUni hd w.drew rfl rfl rfl rfl _ tk hlive
 have hge := grownCap_ge w (l.length + r.length) sCap e
 have hle := grownCap_le_maxLen w (l.length + r.length) sCap e (by grind [maxLen])
 have hesa : ∀ row ∈ l ++ r, row.length = i.size := fun row hr => by grind
 have hnew : (w.drew.alloc (.cells (olds.toArray ++ news.toArray ++ Builtin.zeroCells z.cells (grownCap w (l.length + r.length) sCap e - (l.length + r.length))) e)).heap[w.heap.size]? = some (.cells (olds.toArray ++ news.toArray ++ Builtin.zeroCells z.cells (grownCap w (l.length + r.length) sCap e - (l.length + r.length))) e (0, 0)) := heap_alloc_new w.drew _
 have hrl2 : RL g w (olds ++ news) (l ++ r).flatten := by rw [List.flatten_append]; exact ho1.append hrl
 have hrl3 := hrl2.quiet hd hq
 refine ⟨_, _, _, hrun, hq, ⟨_, _, by rw [List.length_append]⟩, fun _ => .inr ⟨w.heap.size, _, _, e, by simp, Ghost.at_same _ _ _, hnew, ?_, hle, ?_, hesa, fun j d hj => ?_⟩⟩
 ·grind
 ·have h1 : olds.length = l.length * i.size := by rw [ho1.1, xf hesl]
  have h2 : news.length = r.length * i.size := by rw [hrl.1, xf hes]
  simp only [Array.size_append, List.size_toArray, qd6, hzs, h1, h2, ← Nat.add_mul]
  grind
 ·have hlt : j < (olds ++ news).length := by rw [hrl2.1]; grind
  refine ⟨hrl3.2.1 d (List.mem_of_getElem? hj), (olds ++ news)[j], ?_, hrl3.2.2 j _ d (List.getElem?_eq_getElem hlt) hj⟩
  grind
theorem qm6 {t u ty e : TypeId} {i : TypeInfo} (hd : Dom g w) (ht : P.underlying t = some (.slice e)) (hi : P.info? e = some i)
  (hu : (∃ f, P.underlying u = some (.slice f)) ∨ P.underlying u = some .string)
  {b cap tk0 : Nat} {cur : Array Value} {te : TypeId} {x : Value} {l r : List (List D)} {news : List Value} (hesl : ∀ row ∈ l, row.length = i.size)
  (hcell : ∀ (j : Nat) (d : D), l.flatten[j]? = some d → d.isCell = true ∧ ∃ u, cur[j]? = some u ∧ RV g w u d)
  (hg : g b = .uni tk0) (hh : w.heap[b]? = some (.cells cur te (0, 0))) (hcm : cap ≤ maxLen) (hcs : cap * i.size ≤ cur.size)
  (hx : Source P i.size x r.length w news) (hrl : RL g w news r.flatten) (hes : ∀ row ∈ r, row.length = i.size)
  (hn : l.length + r.length ≤ cap) (tk : Nat) (hlive : ∀ t, T t → t ∈ live' → t ∈ live ∧ t ≠ tk0) :
  ∃ v w' g', (Builtin.append_ #[t, u] ty #[.slice (some ⟨b, 0, none⟩) l.length cap, x]).run P w = .ok v w' ∧ Qt T g w g' w' live live' ∧ RC g' w' live' v (.uni tk i.size (l ++ r)) := by
 have hrun := w8 (P := P) (w := w) (ty := ty) ht hi hu ⟨b, 0, none⟩ l.length cap hx hn
 have hesa : ∀ row ∈ l ++ r, row.length = i.size := fun row hr => by grind
 have h1 : l.flatten.length = l.length * i.size := xf hesl
 have h2 : news.length = r.length * i.size := by rw [hrl.1, xf hes]
 have hone : ∀ v ∈ news, v.oneCell' = true := by
  intro v hv
  obtain ⟨j, hj⟩ := List.getElem?_of_mem hv
  have hlt : j < r.flatten.length := by rw [← hrl.1]; grind
  exact (hrl.2.2 j v _ hj (List.getElem?_eq_getElem hlt)).oneCell (hrl.2.1 _ (List.getElem_mem hlt))
 have hsz : (l.length + r.length) * i.size ≤ cap * i.size := Nat.mul_le_mul_right _ hn
 rw [Nat.add_mul] at hsz
 have hst := run_storeCells_at P b (l.length * i.size) te news 0 cur w hh (by omega) hone
 rw [Addr.add_lit, Nat.zero_add] at hrun
 rw [hst] at hrun
 simp only [Nat.add_zero, Result.andThen_ok] at hrun
 generalize hcur' : (cur.toList.take (l.length * i.size) ++ news ++ cur.toList.drop (l.length * i.size + news.length)).toArray = cur' at hrun
 have hb : b < w.heap.size := hd.lt_uni hg
 have hheap : (w.setRow b cur').heap[b]? = some (.cells cur' te (0, 0)) := setRow_heap w b cur cur' te (0, 0) hh
 have hother : ∀ k, k ≠ b → (w.setRow b cur').heap[k]? = w.heap[k]? := fun k hk => setRow_other w b k cur' hk
 have hsize : (w.setRow b cur').heap.size = w.heap.size := by simp
 have hlen' : cap * i.size ≤ cur'.size := by
  grind
 have hkeep : ∀ j, j < l.length * i.size → cur'[j]? = cur[j]? := by
  grind
 have hput : ∀ (j : Nat) (v : Value), news[j]? = some v → cur'[l.length * i.size + j]? = some v := by
  intro j v hj
  have hlt : j < news.length := (List.getElem?_eq_some_iff.1 hj).1
  have hle : (cur.toList.take (l.length * i.size)).length = l.length * i.size := by grind
  rw [← hcur']
  simp only [List.getElem?_toArray, List.append_assoc]
  simp_all [List.getElem?_append_right, Nat.add_sub_cancel_left, List.getElem?_append_left]
 have hq : Qt T g w (g.at b (.uni tk)) (w.setRow b cur') live live' := by
  have hgo : ∀ k, k ≠ b → g.at b (.uni tk) k = g k := fun k hk => Ghost.at_ne g _ hk
  refine ⟨⟨rfl, rfl, rfl, by omega, fun k hk hgk => ?_, fun k m hk hgk => ?_, fun k m t' hk hgk => ?_, fun k id hk hgk => ?_⟩, ⟨fun k hk => ?_, hd.2.same fun k m hk hgk => by grind⟩, fun k id hgk => ?_, fun k id hgk => ?_, fun k m t' htb htl hgk => ?_, fun t' h h' => (hlive t' h h').1, fun k t' htb htl hgk => ?_⟩
  ·grind
  ·grind
  ·have hkb : k ≠ b := by grind
   exact ⟨m, some t', by grind, Nat.le_refl _, fun j v _ hv => by grind [ky]⟩
  ·have : k ≠ b := by grind
   grind [Nat.le_of_eq, ji]
  ·have : k ≠ b := by omega
   rw [hgo k this]; exact hd.1 k (by omega)
  ·grind
  ·have : k ≠ b := by rintro rfl; grind [Ghost.at_same]
   grind
  all_goals grind
 refine ⟨_, _, _, hrun, hq, ⟨_, _, by rw [List.length_append]⟩, fun _ => .inr ⟨b, cap, cur', te, by simp, Ghost.at_same _ _ _, hheap, by grind, hcm, hlen', hesa, fun j d hj => ?_⟩⟩
 rw [List.flatten_append] at hj
 by_cases hjl : j < l.flatten.length
 ·rw [List.getElem?_append_left hjl] at hj
  obtain ⟨c1, u, c2, c3⟩ := hcell j d hj
  exact ⟨c1, u, by grind, hq.rv hd c3⟩
 ·rw [List.getElem?_append_right (by omega)] at hj
  have hlt : j - l.flatten.length < news.length := by rw [hrl.1]; grind
  have := hput (j - l.flatten.length) _ (List.getElem?_eq_getElem hlt)
  rw [show l.length * i.size + (j - l.flatten.length) = j by omega] at this
  exact ⟨hrl.2.1 d (List.mem_of_getElem? hj), _, this, hq.rv hd (hrl.2.2 _ _ d (List.getElem?_eq_getElem hlt) hj)⟩
def qn (live : List Nat) (o : Out) : List Nat := (live.filter fun t => !o.cons.contains t) ++ o.iss
theorem jf {live : List Nat} {o : Out} {t : Nat} : t ∈ qn live o ↔ (t ∈ live ∧ t ∉ o.cons) ∨ t ∈ o.iss := by
 simp [qn]
theorem qpg {t u e : TypeId} {s x : Operand} {s' x' : Opd} {i : TypeInfo} {z : List D} (ho : oper.op = .call { callee := .builtin .append, args := #[s, x], argTypes := #[t, u] })
  (ht : P.underlying t = some (.slice e)) (hi : P.info? e = some i) (hz : jc P e = some z) (hsz : i.size = z.length) (hb : 0 < i.bytes)
  (hu : (∃ f, P.underlying u = some (.slice f)) ∨ P.underlying u = some .string) (hs' : qp s = some s') (hx' : qp x = some x') (hs : SR N T g w st a) (hfr : Fresh T tb)
  (hob : (sem tb (.append false i.size i.bytes s' x') st).ob) (hlv : ∀ t ∈ (sem tb (.append false i.size i.bytes s' x') st).cons, t ∈ st.live) :
  ∃ v w' g', (execOp a.eval oper).run P w = .ok (.value v) w' ∧ Qt T g w g' w' st.live (qn st.live (sem tb (.append false i.size i.bytes s' x') st)) ∧
   RS g' w' (qn st.live (sem tb (.append false i.size i.bytes s' x') st)) v (sem tb (.append false i.size i.bytes s' x') st).v := by
 simp only [sem] at hob hlv ⊢
 obtain ⟨o1, o2, hob⟩ := hob
 have rs := xc hs hs' o1
 have rx := xc hs hx' o2
 obtain ⟨i', zv, hi', hzv, hzm⟩ := k7 hz
 rw [hi] at hi'; cases hi'
 have hzs : zv.cells.size = i.size := by have := (jy hzm).1; grind
 unfold jw at hob hlv ⊢
 cases hsrc : y8 i.size st.os (x'.get st.fr) with
 | none => grind [Out.bad]
 | some rr =>
  obtain ⟨r, rdd, rok⟩ := rr
  cases hrow : (s'.get st.fr).rows with
  | none => grind [Out.bad]
  | some p =>
   obtain ⟨e0, l⟩ := p
   simp only [hsrc, hrow] at hob hlv ⊢
   obtain ⟨hrok, he, hkind, hby, h63⟩ := hob
   obtain ⟨hes, news, hrl, hsource, hfirst, _⟩ := qfu (P := P) hs rx hsrc hrok
   have hrvs := xf9 (qi7 rs hrow) he
   obtain ⟨base, cap, hv⟩ := qj2 hrvs
   have hcap : l.length ≤ cap := by
    rcases qsd hrvs with ⟨h, rfl⟩ | ⟨b, off, c, n, o, f, h, _, _, hc, _⟩
    all_goals grind
   rw [hv] at hrvs rs
   have exec : ∀ v w', (Builtin.append_ #[t, u] oper.type #[.slice base l.length cap, a.eval x]).run P w = .ok v w' → (execOp a.eval oper).run P w = .ok (.value v) w' := by
    simp_all [execOp, resolve, invoke, builtin]
   have more : ∀ (live' : List Nat), (∀ t, T t → t ∈ live' → t ∈ st.live) → cap < l.length + r.length →
     ∃ v w' g', (execOp a.eval oper).run P w = .ok (.value v) w' ∧ Qt T g w g' w' st.live live' ∧ RS g' w' live' v (.own tb i.size (l ++ r)) := by
    intro live' hl hn
    obtain ⟨v, w', g', h1, h2, h3⟩ := q2l (P := P) (ty := oper.type) hs.dom ht hi hzv hzs hu (by omega) hrvs hsource.1 hfirst hrl hes hn h63 hby tb hl
    exact ⟨v, w', g', exec v w' h1, h2, h3⟩
   have nothing : ∀ (live' : List Nat), (∀ t, T t → t ∈ live' → t ∈ st.live) → cap = l.length → ¬ cap < l.length + r.length →
     ∃ v w' g', (execOp a.eval oper).run P w = .ok (.value v) w' ∧ Qt T g w g' w' st.live live' ∧ RS g' w' live' v (.own tb i.size (l ++ r)) := by
    intro live' hl hce hn
    have hr0 : r = [] := List.eq_nil_of_length_eq_zero (by omega)
    subst hr0
    have hnews : news = [] := by have := hrl.1; grind
    subst hnews
    refine ⟨.slice base l.length cap, w, g, exec _ _ ?_, ⟨G.refl g w, hs.dom, fun _ _ _ => rfl, fun _ _ h => h, fun _ _ _ _ _ h => ⟨h, rfl⟩, hl, fun _ _ _ _ h => ⟨h, rfl⟩⟩, ?_⟩
    ·cases base with
     | none =>
      have := qcp (P := P) (ty := oper.type) ht hi hu l.length cap hsource (by omega)
      omega
     | some ad =>
      have := w8 (P := P) (ty := oper.type) ht hi hu ad l.length cap hsource (by omega)
      simp_all [storeCells]
    ·rw [List.append_nil]
     exact ⟨hrvs, fun _ => .inl ⟨base, by rw [hce]⟩⟩
   cases hk : s'.get st.fr with
   | own t0 e1 l1 =>
    rw [hk] at hrow hkind rs hlv
    have hlv0 : t0 ∈ st.live := hlv t0 (by simp [qbx])
    simp only [ASlot.rows, Option.some.injEq, Prod.mk.injEq] at hrow
    obtain ⟨rfl, rfl⟩ := hrow
    simp only [qbx]
    have hl : ∀ (vv : ASlot) (oo : Prop), ∀ t, T t → t ∈ qn st.live { v := vv, ob := oo, rd := rdd, cons := [t0], iss := [tb] } → t ∈ st.live ∧ t ≠ t0 := by
     intro vv oo t htb htl
     rcases jf.1 htl with ⟨h1, h2⟩ | h
     ·grind
     ·simp at h; exact (hfr.ne htb h).elim
    rcases rs.2 hlv0 with ⟨ad, hfull⟩ | ⟨b, c, cur, te, hval, hg, hh, hle, hcm, hcs⟩
    ·cases hfull
     by_cases hn : l1.length < l1.length + r.length
     ·exact more _ (fun t h h' => (hl _ _ t h h').1) hn
     ·exact nothing _ (fun t h h' => (hl _ _ t h h').1) rfl hn
    ·cases hval
     by_cases hn : cap < l1.length + r.length
     ·exact more _ (fun t h h' => (hl _ _ t h h').1) hn
     ·have hes1 := hkind
      subst hes1
      obtain ⟨v, w', g', q1, q2, q3⟩ := q2m (P := P) (ty := oper.type) hs.dom ht hi hu hrvs hg hh hcm hcs hsource hrl hes (by grind) tb (hl _ _)
      exact ⟨v, w', g', exec v w' q1, q2, q3⟩
   | full e1 l1 =>
    rw [hk] at hrow hkind rs
    simp only [ASlot.rows, Option.some.injEq, Prod.mk.injEq] at hrow
    obtain ⟨rfl, rfl⟩ := hrow
    simp only [qbx]
    obtain ⟨ad, hfull⟩ := rs.2
    cases hfull
    have hl : ∀ (vv : ASlot) (oo : Prop), ∀ t, T t → t ∈ qn st.live { v := vv, ob := oo, rd := rdd, cons := [], iss := [tb] } → t ∈ st.live := by
     intro vv oo t htb htl
     rcases jf.1 htl with ⟨h1, h2⟩ | h
     ·exact h1
     ·simp at h; exact (hfr.ne htb h).elim
    by_cases hn : l1.length < l1.length + r.length
    ·exact more _ (hl _ _) hn
    ·exact nothing _ (hl _ _) rfl hn
   | d x =>
    rw [hk] at hrow hkind rs
    cases x <;> first | grind | skip
    simp only [ASlot.rows, Option.some.injEq, Prod.mk.injEq] at hrow
    obtain ⟨rfl, rfl⟩ := hrow
    simp only [qbx]
    have hl : ∀ (vv : ASlot) (oo : Prop), ∀ t, T t → t ∈ qn st.live { v := vv, ob := oo, rd := rdd, cons := [], iss := [tb] } → t ∈ st.live := by
     intro vv oo t htb htl
     rcases jf.1 htl with ⟨h1, h2⟩ | h
     ·exact h1
     ·simp at h; exact (hfr.ne htb h).elim
    have hcap0 : cap = 0 := by
     have rs' : RV g w (.slice base 0 cap) .nilsl := rs
     generalize hx0 : Value.slice base 0 cap = u0 at rs'
     generalize hy0 : D.nilsl = y0 at rs'
     cases rs' <;> first | grind | grind
    by_cases hn : cap < ([] : List (List D)).length + r.length
    ·exact more _ (hl _ _) hn
    ·exact nothing _ (hl _ _) (by omega) hn
   | _ => grind
theorem qph {t u e : TypeId} {s x : Operand} {s' x' : Opd} {i : TypeInfo} {z : List D} (ho : oper.op = .call { callee := .builtin .append, args := #[s, x], argTypes := #[t, u] })
  (ht : P.underlying t = some (.slice e)) (hi : P.info? e = some i) (hz : jc P e = some z) (hsz : i.size = z.length) (hb : 0 < i.bytes)
  (hu : (∃ f, P.underlying u = some (.slice f)) ∨ P.underlying u = some .string) (hs' : qp s = some s') (hx' : qp x = some x') (hs : SR N T g w st a) (hfr : Fresh T tb)
  (hob : (sem tb (.append true i.size i.bytes s' x') st).ob) (hlv : ∀ t ∈ (sem tb (.append true i.size i.bytes s' x') st).cons, t ∈ st.live) :
  ∃ v w' g', (execOp a.eval oper).run P w = .ok (.value v) w' ∧ Qt T g w g' w' st.live (qn st.live (sem tb (.append true i.size i.bytes s' x') st)) ∧
   RS g' w' (qn st.live (sem tb (.append true i.size i.bytes s' x') st)) v (sem tb (.append true i.size i.bytes s' x') st).v := by
 simp only [sem] at hob hlv ⊢
 obtain ⟨o1, o2, hob⟩ := hob
 have rs := xc hs hs' o1
 have rx := xc hs hx' o2
 obtain ⟨i', zv, hi', hzv, hzm⟩ := k7 hz
 rw [hi] at hi'; cases hi'
 have hzs : zv.cells.size = i.size := by have := (jy hzm).1; grind
 unfold jw at hob hlv ⊢
 cases hsrc : y8 i.size st.os (x'.get st.fr) with
 | none => grind [Out.bad]
 | some rr =>
  obtain ⟨r, rdd, rok⟩ := rr
  simp only [hsrc] at hob hlv ⊢
  have exec : ∀ (base : Option Addr) (n cap : Nat) v w', a.eval s = .slice base n cap → (Builtin.append_ #[t, u] oper.type #[.slice base n cap, a.eval x]).run P w = .ok v w' → (execOp a.eval oper).run P w = .ok (.value v) w' := by
   simp_all [execOp, resolve, invoke, builtin]
  have fresh : ∀ (ad : Option Addr) (live' : List Nat), a.eval s = .slice ad 0 0 → rok → r.length * i.bytes ≤ 140737488355328 → r.length ≤ 9223372036854775807 → (∀ t, T t → t ∈ live' → t ∈ st.live) →
    ∃ v w' g', (execOp a.eval oper).run P w = .ok (.value v) w' ∧ Qt T g w g' w' st.live live' ∧ RS g' w' live' v (.uni tb i.size r) := by
   intro ad live' hv hrok hby h63 hl
   obtain ⟨hes, news, hrl, hsource, hfirst, _⟩ := qfu (P := P) hs rx hsrc hrok
   have hfc : (Builtin.firstCells i.size 0 (.slice ad 0 0)).run P w.drew = .ok #[] w.drew := by
    cases ad with
    | none => rfl
    | some a0 => grind [run_firstCells_some]
   by_cases hn : 0 < r.length
   ·obtain ⟨v, w', g', h1, h2, h3⟩ := qhe (P := P) (ty := oper.type) (l := []) (olds := []) hs.dom ht hi hzv hzs hu (by omega) (by simp) ⟨by simp, by simp, by simp⟩ hfc hsource.1 hfirst hrl hes (by grind) (by grind) (by grind) tb hl
    exact ⟨v, w', g', exec _ _ _ v w' hv h1, h2, h3⟩
   ·have hr0 : r = [] := List.eq_nil_of_length_eq_zero (by omega)
    subst hr0
    refine ⟨.slice ad 0 0, w, g, exec _ _ _ _ _ hv ?_, ⟨G.refl g w, hs.dom, fun _ _ _ => rfl, fun _ _ h => h, fun _ _ _ _ _ h => ⟨h, rfl⟩, hl, fun _ _ _ _ h => ⟨h, rfl⟩⟩, ⟨ad, 0, rfl⟩, fun _ => .inl ⟨ad, rfl, rfl⟩⟩
    have hnews : news = [] := by have := hrl.1; grind
    subst hnews
    cases ad with
    | none =>
     have := qcp (P := P) (ty := oper.type) ht hi hu 0 0 hsource (by simp)
     omega
    | some ad =>
     have := w8 (P := P) (ty := oper.type) ht hi hu ad 0 0 hsource (by simp)
     simp_all [storeCells]
  cases hk : s'.get st.fr with
  | uni t0 e1 l =>
   rw [hk] at rs
   simp only [hk, qai] at hob hlv ⊢
   obtain ⟨hrok, rfl, hby, h63⟩ := hob
   have hlv0 : t0 ∈ st.live := hlv t0 (by simp)
   have hl : ∀ (vv : ASlot) (oo : Prop), ∀ t, T t → t ∈ qn st.live { v := vv, ob := oo, rd := rdd, cons := [t0], iss := [tb] } → t ∈ st.live ∧ t ≠ t0 := by
    intro vv oo t htb htl
    rcases jf.1 htl with ⟨h1, h2⟩ | h
    ·grind
    ·simp at h; exact (hfr.ne htb h).elim
   obtain ⟨hes, news, hrl, hsource, hfirst, _⟩ := qfu (P := P) hs rx hsrc hrok
   have hu0 := rs.2 hlv0
   obtain ⟨base, cap, olds, hv, hcap, hesl, ho1, ho2⟩ := q5c (P := P) hu0
   rw [hv] at ho2
   by_cases hn : cap < l.length + r.length
   ·obtain ⟨v, w', g', h1, h2, h3⟩ := qhe (P := P) (ty := oper.type) hs.dom ht hi hzv hzs hu (by omega) hesl ho1 ho2 hsource.1 hfirst hrl hes hn h63 hby tb (fun t h h' => (hl _ _ t h h').1)
    exact ⟨v, w', g', exec _ _ _ v w' hv h1, h2, h3⟩
   ·rcases hu0 with ⟨ad, hv2, rfl⟩ | ⟨b, c, cur, te, hval, hg, hh, hle, hcm, hcs, hes1, hcell⟩
    ·rw [hv] at hv2
     cases hv2
     have hr0 : r = [] := List.eq_nil_of_length_eq_zero (by omega)
     subst hr0
     exact fresh base _ hv hrok (by simp) (by simp) (fun t h h' => (hl _ _ t h h').1)
    ·rw [hval] at hv
     cases hv
     obtain ⟨v, w', g', q1, q2, q3⟩ := qm6 (P := P) (ty := oper.type) hs.dom ht hi hu hesl hcell hg hh hcm hcs hsource hrl hes (by grind) tb (hl _ _)
     exact ⟨v, w', g', exec _ _ _ v w' hval q1, q2, q3⟩
  | full e1 l =>
   rw [hk] at rs
   simp only [hk, qai] at hob hlv ⊢
   obtain ⟨hrok, rfl, hby, h63⟩ := hob
   obtain ⟨ad, hfull⟩ := rs.2
   exact fresh ad _ hfull hrok hby h63 (fun t htb htl => by
    rcases jf.1 htl with ⟨h1, h2⟩ | h
    ·exact h1
    ·simp at h; exact (hfr.ne htb h).elim)
  | d y =>
   rw [hk] at rs
   cases y with
   | nilsl =>
    simp only [hk, qai] at hob hlv ⊢
    obtain ⟨hrok, hby, h63⟩ := hob
    have hv : a.eval s = .slice none 0 0 := by
     have rs' : RV g w (a.eval s) .nilsl := rs
     generalize a.eval s = u0 at rs'
     cases rs'
     rfl
    exact fresh none _ hv hrok hby h63 (fun t htb htl => by
     rcases jf.1 htl with ⟨h1, h2⟩ | h
     ·exact h1
     ·simp at h; exact (hfr.ne htb h).elim)
   | _ => grind [qai, Out.bad]
  | _ => grind [qai, Out.bad]
end
end Go.Abs
namespace Go.Abs
section
variable {P : Program} {N tb : Nat} {T : Nat → Prop} {g : Ghost} {w : World} {st : St} {a : Act} {oper : Oper} {live live' : List Nat}
theorem qm7 : ∀ (ps : List (Nat × List D)) (z : List D), (∀ p ∈ ps, p.1 + p.2.length ≤ z.length) → (qo1 z ps).length = z.length
 | [], z, _ => rfl
 | (off, cs) :: ps, z, h => by
  have h0 := h (off, cs) (by simp)
  have hl : (z.take off ++ cs ++ z.drop (off + cs.length)).length = z.length := by simp at h0 ⊢; omega
  simp only [qo1]
  rw [qm7 ps _ (fun p hp => by rw [hl]; exact h p (by simp [hp])), hl]
theorem qlt {zv : Value} {z : List D} (hm : zv.cells.toList.mapM qcl = some z) : ∀ (n k : Nat), k = zv.cells.size → 0 < k →
  RL g w ((Array.range (n * k)).map (zv.cells[· % zv.cells.size]!)).toList (List.replicate n z).flatten := by
 intro n k hk h0
 have hrl : RL g w zv.cells.toList z := RL.consts hm
 have hzl : z.length = k := by have := hrl.1; simp at this; omega
 have hfl : (List.replicate n z).flatten.length = n * k := by simp [hzl]
 have hget : ∀ j, j < n * k → (List.replicate n z).flatten[j]? = z[j % k]? := by
  intro j hj
  have hes : ∀ r ∈ List.replicate n z, r.length = k := by intro r hr; rw [List.eq_of_mem_replicate hr, hzl]
  have hdiv : j / k < n := Nat.div_lt_of_lt_mul (by rw [Nat.mul_comm]; exact hj)
  have hmod : j % k < k := Nat.mod_lt _ h0
  have hrow : (List.replicate n z).getD (j / k) [] = z := by simp [List.getD, hdiv]
  have := qo7 hes (j / k) (j % k) z[j % k] (by rw [hrow]; exact List.getElem?_eq_getElem (by omega))
  rw [show j / k * k + j % k = j by rw [Nat.mul_comm]; exact Nat.div_add_mod j k] at this
  rw [this, List.getElem?_eq_getElem (by omega)]
 refine ⟨by simp [hzl], ?_, ?_⟩
 ·intro d hd
  obtain ⟨j, hj⟩ := List.getElem?_of_mem hd
  have hlt : j < n * k := by rw [← hfl]; exact (List.getElem?_eq_some_iff.1 hj).1
  rw [hget j hlt] at hj
  exact hrl.2.1 d (List.mem_of_getElem? hj)
 ·intro j v d hv hd
  have hlt : j < n * k := by rw [← hfl]; exact (List.getElem?_eq_some_iff.1 hd).1
  rw [hget j hlt] at hd
  have hmod : j % k < zv.cells.size := by rw [← hk]; exact Nat.mod_lt _ h0
  simp [hlt, ← hk] at hv
  have : zv.cells[j % k]! = zv.cells[j % k]'hmod := by simp [hmod]
  rw [this] at hv
  exact hrl.2.2 (j % k) v d (by subst hv; simp) hd
theorem qj8 {t e : TypeId} {l c : Operand} {i : TypeInfo} {zv : Value} {k1 k2 : IntKind} {n m : Int} (ho : oper.op = .makeSlice t l c) (ht : P.underlying t = some (.slice e)) (hi : P.info? e = some i) (hzv : i.zero = some zv) (h0 : 0 < i.size)
  (e1 : a.eval l = .int k1 n) (e2 : a.eval c = .int k2 m) (o3 : 0 ≤ n) (o4 : n ≤ m) (o5 : m ≤ 9223372036854775807) (o6 : m * i.bytes ≤ 281474976710656) :
  (execOp a.eval oper).run P w = .ok (.value (.slice (some ⟨w.heap.size, 0, none⟩) n.toNat m.toNat)) (w.alloc (.cells ((Array.range (m.toNat * i.size)).map (zv.cells[· % zv.cells.size]!)) e)) := by
 have w1 : IntKind.i64.wrap n = n := by rw [IntKind.wrap_i64]; omega
 have w2 : IntKind.i64.wrap m = m := by rw [IntKind.wrap_i64]; omega
 have hmul : ((m.toNat * i.bytes : Nat) : Int) = m * i.bytes := by rw [Int.natCast_mul]; congr 1; omega
 generalize hcells : (Array.range (m.toNat * i.size)).map (zv.cells[· % zv.cells.size]!) = cells
 have hcell0 : m.toNat * i.size = 0 → cells = #[] := by intro h; rw [← hcells, h]; simp [Array.range_zero']
 have t1 : ¬ (281474976710656 < (i.bytes : Int) * m) := by rw [Int.mul_comm]; omega
 have t2 : ¬ (m < 0) := by omega
 have t3 : ¬ (n < 0) := by omega
 have t4 : ¬ (n > m) := by omega
 have t5 : ¬ (m < n) := by omega
 by_cases hz0 : m.toNat * i.size = 0
 ·have hm0 : m.toNat = 0 := by rcases Nat.mul_eq_zero.1 hz0 with h | h; exact h; omega
  simp [execOp, ho, Instr.makeSlice, run_underlying ht, e1, e2, asInt, asIntOf, typeInfo, hi, w1, w2, t1, t2, t3, t5, qt hi, hm0, newRow, hcell0 hz0, Array.range_zero']
 ·simp [execOp, ho, Instr.makeSlice, run_underlying ht, e1, e2, asInt, asIntOf, typeInfo, hi, w1, w2, t1, t2, t3, t5, qt hi, newRow, zeroValue, hzv, hcells]
  exact fun h => (hz0 h).elim
theorem qs8 {zv : Value} {n m : Int} {k : Nat} (o4 : n ≤ m) : ∀ (j : Nat) (v : Value), ((Array.range (n.toNat * k)).map (zv.cells[· % zv.cells.size]!)).toList[j]? = some v → ((Array.range (m.toNat * k)).map (zv.cells[· % zv.cells.size]!))[j]? = some v := fun j v hj => by
 have hlt : j < n.toNat * k := by have := (List.getElem?_eq_some_iff.1 hj).1; simpa using this
 have hlt2 : j < m.toNat * k := by
  have : n.toNat * k ≤ m.toNat * k := Nat.mul_le_mul_right _ (by omega)
  omega
 simp [hlt] at hj
 simp [hlt2, hj]
theorem qsg {u : Bool} {t e : TypeId} {l c : Operand} {l' c' : Opd} {i : TypeInfo} {z : List D} (ho : oper.op = .makeSlice t l c) (ht : P.underlying t = some (.slice e)) (hi : P.info? e = some i) (hz : jc P e = some z)
  (hsz : i.size = z.length) (h0 : 0 < i.size) (hl' : qp l = some l') (hc' : qp c = some c') (hs : SR N T g w st a) (hfr : Fresh T tb)
  (hob : (sem tb (.makeSlice u i.size i.bytes z l' c') st).ob) :
  ∃ v w' g', (execOp a.eval oper).run P w = .ok (.value v) w' ∧ Qt T g w g' w' st.live (qn st.live (sem tb (.makeSlice u i.size i.bytes z l' c') st)) ∧
   RS g' w' (qn st.live (sem tb (.makeSlice u i.size i.bytes z l' c') st)) v (sem tb (.makeSlice u i.size i.bytes z l' c') st).v := by
 simp only [sem] at hob ⊢
 obtain ⟨i', zv, hi', hzv, hzm⟩ := k7 hz
 rw [hi] at hi'; cases hi'
 have hzs : i.size = zv.cells.size := by have := (jy hzm).1; rw [hsz]; simpa using this.symm
 cases h1 : l'.get st.fr with
 | d p =>
  cases p with
  | int k1 n =>
   cases h2 : c'.get st.fr with
   | d q =>
    cases q with
    | int k2 m =>
     simp only [h1, h2] at hob ⊢
     obtain ⟨o1, o2, o3, o4, o5, o6⟩ := hob
     have r1 := xc hs hl' o1
     have r2 := xc hs hc' o2
     rw [h1] at r1; rw [h2] at r2
     have e1 := vg (wj r1)
     have e2 := vg (wj r2)
     have hrun := qj8 (P := P) (w := w) ho ht hi hzv h0 e1 e2 o3 o4 o5 o6
     have hget := qs8 (zv := zv) (k := i.size) o4
     have hcs0 : ((Array.range (m.toNat * i.size)).map (zv.cells[· % zv.cells.size]!)).size = m.toNat * i.size := by simp
     generalize (Array.range (m.toNat * i.size)).map (zv.cells[· % zv.cells.size]!) = cells at hrun hget hcs0
     have hnew : (w.alloc (.cells cells e)).heap[w.heap.size]? = some (.cells cells e (0, 0)) := heap_alloc_new w _
     have hcs : cells.size = m.toNat * i.size := hcs0
     have hrl := qlt (g := g) (w := w) hzm n.toNat i.size hzs h0
     have hes : ∀ r ∈ List.replicate n.toNat z, r.length = i.size := by intro r hr; rw [List.eq_of_mem_replicate hr, hsz]
     have hfl : (List.replicate n.toNat z).flatten.length = n.toNat * i.size := by rw [xf hes]; simp
     have hl : ∀ (vv : ASlot) (oo : Prop), ∀ t, T t → t ∈ qn st.live { v := vv, ob := oo, iss := [tb] } → t ∈ st.live := fun vv oo t h h' => by
      rcases jf.1 h' with ⟨h1, _⟩ | h1
      ·exact h1
      ·simp at h1; exact (hfr.ne h h1).elim
     cases u with
     | false =>
      have hq := Qt.newRow hs.dom w rfl rfl rfl rfl (.cells cells e) (n.toNat * i.size) (some tb) (hl (ASlot.own tb i.size (List.replicate n.toNat z)) (l'.ok st.fr = true ∧ c'.ok st.fr = true ∧ 0 ≤ n ∧ n ≤ m ∧ m ≤ 9223372036854775807 ∧ m * i.bytes ≤ 281474976710656))
      have hrv := qfv (cap := m.toNat) (rows := List.replicate n.toNat z) hnew (Ghost.at_same _ _ _) (Nat.le_of_eq hfl) hes (by simp; omega) (hrl.quiet hs.dom hq) hget
      rw [List.length_replicate] at hrv
      refine ⟨_, _, _, hrun, hq, hrv, fun _ => .inr ⟨w.heap.size, _, _, e, by rw [List.length_replicate], ?_, hnew, ?_, ?_, Nat.le_of_eq hcs.symm⟩⟩
      ·rw [Ghost.at_same, List.length_replicate]
      ·rw [List.length_replicate]; omega
      ·unfold maxLen; omega
     | true =>
      have hq := Qt.newUni hs.dom w rfl rfl rfl rfl (.cells cells e) tb (hl (ASlot.uni tb i.size (List.replicate n.toNat z)) (l'.ok st.fr = true ∧ c'.ok st.fr = true ∧ 0 ≤ n ∧ n ≤ m ∧ m ≤ 9223372036854775807 ∧ m * i.bytes ≤ 281474976710656))
      have hrl2 := hrl.quiet hs.dom hq
      refine ⟨_, _, _, hrun, hq, ⟨_, _, by rw [List.length_replicate]⟩, fun _ => .inr ⟨w.heap.size, _, _, e, by rw [List.length_replicate], Ghost.at_same _ _ _, hnew, ?_, ?_, Nat.le_of_eq hcs.symm, hes, fun j d hj => ?_⟩⟩
      ·rw [List.length_replicate]; omega
      ·unfold maxLen; omega
      ·have hlt : j < ((Array.range (n.toNat * i.size)).map (zv.cells[· % zv.cells.size]!)).toList.length := by rw [hrl.1]; exact (List.getElem?_eq_some_iff.1 hj).1
       exact ⟨hrl2.2.1 d (List.mem_of_getElem? hj), _, hget j _ (List.getElem?_eq_getElem hlt), hrl2.2.2 j _ d (List.getElem?_eq_getElem hlt) hj⟩
    | _ => simp [h1, h2, Out.bad] at hob
   | _ => simp [h1, h2, Out.bad] at hob
  | _ => simp [h1, Out.bad] at hob
 | _ => simp [h1, Out.bad] at hob
theorem xga {s t e : TypeId} {x : Operand} {y : Opd} (ho : oper.op = .convert s t x) (hsrc : P.underlying s = some .string) (hdst : P.underlying t = some (.slice e)) (he : P.underlying e = some (.int .u8)) (hx : qp x = some y) (hs : SR N T g w st a)
  (hob : (sem tb (.s2b y) st).ob) :
  ∃ v w' g', (execOp a.eval oper).run P w = .ok (.value v) w' ∧ Qt T g w g' w' st.live (qn st.live (sem tb (.s2b y) st)) ∧ RS g' w' (qn st.live (sem tb (.s2b y) st)) v (sem tb (.s2b y) st).v := by
 simp only [sem] at hob ⊢
 cases h1 : y.get st.fr with
 | d p =>
  cases p with
  | str l =>
   simp only [h1] at hob ⊢
   have r1 := xc hs hx hob
   rw [h1] at r1
   have hv := qcm (wj r1)
   generalize hc : (Question.appendCap l.length 0 e).cut (w.tape w.drawn (.appendCap l.length 0 e)) = cap
   have hge : l.length ≤ cap := by rw [← hc]; simp [Question.cut]
   generalize hcells : (l.map fun b => Value.int .u8 b.toNat).toArray ++ Array.replicate (cap - l.length) (Value.int .u8 0) = cells
   have hcs : cells.size = cap := by rw [← hcells]; simp; omega
   have hheap : ∀ (h : Array Obj), (h.push (.cells cells e)).modify h.size (fun | .cells c elem (lo, hi) => .cells c elem (if lo == hi then (cap, cap + 1) else (min lo cap, max hi (cap + 1))) | o => o) = h.push (.cells cells e (cap, cap + 1)) := by
    intro h
    apply Array.ext
    ·simp
    ·intro j h1 h2
     simp only [Array.getElem_modify, Array.getElem_push]
     by_cases hj : j < h.size
     ·have : h.size ≠ j := by omega
      simp [hj, this]
     ·have : h.size = j := by simp at h2; omega
      subst this
      simp
   have hrun : (execOp a.eval oper).run P w = .ok (.value (.slice (some ⟨w.heap.size, 0, none⟩) l.length cap)) (w.drew.alloc (.cells cells e (cap, cap + 1))) := by
    have hmark : (markStringish ⟨w.heap.size, 0, none⟩).run P (w.drew.alloc (.cells cells e)) = .ok () (w.drew.alloc (.cells cells e (cap, cap + 1))) := by
     have hsh : (w.drew.alloc (.cells cells e)).shape? w.heap.size = some (e, cap) := by
      have : (w.drew.alloc (.cells cells e)).heap[w.heap.size]? = some (.cells cells e (0, 0)) := heap_alloc_new w.drew _
      unfold World.shape?
      rw [this]
      simp [hcs]
     have hfr : (w.drew.alloc (.cells cells e)).freeze ⟨w.heap.size, cap, none⟩ 1 = w.drew.alloc (.cells cells e (cap, cap + 1)) := by
      unfold World.freeze
      rw [if_neg (by omega)]
      have := hheap w.heap
      simp only [World.alloc, World.drew] at this ⊢
      rw [← this]
      rfl
     simp only [markStringish, Sem.run_bind, run_shape, hsh, Result.andThen_ok, run_freeze, hfr]
    have hd : Array.map (fun b : UInt8 => Value.int IntKind.u8 (b.toNat : Int)) (⟨l.toArray⟩ : ByteArray).data = (l.map fun b => Value.int .u8 b.toNat).toArray := by simp
    have hsz : (⟨l.toArray⟩ : ByteArray).size = l.length := qo8 l
    simp only [execOp, ho, hv, convert, Sem.run_bind, run_underlying hsrc, run_underlying hdst, run_underlying he, Result.andThen_ok, Conv.stringToBytes, hsz, hd, newRow]
    rw [run_choose]
    simp [Question.forced, hc, hcells, hmark]
   have hnew : (w.drew.alloc (.cells cells e (cap, cap + 1))).heap[w.heap.size]? = some (.cells cells e (cap, cap + 1)) := heap_alloc_new w.drew _
   have hl : qn st.live { v := ASlot.d (.sl 1 (qd l)), ob := y.ok st.fr = true } = st.live := by simp [qn]
   have hq : Qt T g w (g.at w.heap.size (.row l.length none)) (w.drew.alloc (.cells cells e (cap, cap + 1))) st.live
     (qn st.live { v := ASlot.d (.sl 1 (qd l)), ob := y.ok st.fr = true }) := by
    rw [hl]
    exact Qt.newRow hs.dom w.drew rfl rfl rfl rfl _ _ _ (fun _ _ h => h)
   have hes : ∀ r ∈ qd l, r.length = 1 := by simp [qd]
   have hbl : (qd l).length = l.length := by simp [qd]
   have hfl : (qd l).flatten.length = l.length := by rw [qat]; simp
   have hrl : RL g w (l.map fun b => Value.int .u8 b.toNat) (qd l).flatten := by
    rw [qat]
    refine ⟨by simp, fun d hd => by obtain ⟨c, _, rfl⟩ := List.mem_map.1 hd; rfl, fun j u d hu hd => ?_⟩
    simp only [List.getElem?_map, Option.map_eq_some_iff] at hu hd
    obtain ⟨c, hc, rfl⟩ := hu
    obtain ⟨c', hc', rfl⟩ := hd
    rw [hc] at hc'; cases hc'
    exact .int _ _
   have hrv := qfv (cap := cap) (rows := qd l) hnew (Ghost.at_same _ _ _) (Nat.le_of_eq hfl) hes (by omega) (hrl.quiet hs.dom hq) (fun j u hj => by
    have hlt : j < (l.map fun b => Value.int .u8 b.toNat).length := (List.getElem?_eq_some_iff.1 hj).1
    rw [← hcells, Array.getElem?_append_left (by simpa using hlt)]
    simpa using hj)
   rw [hbl] at hrv
   exact ⟨_, _, _, hrun, hq, hrv⟩
  | _ => simp [h1, Out.bad] at hob
 | _ => simp [h1, Out.bad] at hob
end
end Go.Abs
namespace Go.Abs
section
variable {P : Program} {N tb : Nat} {T : Nat → Prop} {g : Ghost} {w : World} {st : St} {a : Act} {oper : Oper} {live live' : List Nat}
theorem qpi {u : Bool} {t e : TypeId} {len : Nat} {parts : Array (Nat × Operand)} {i : TypeInfo} {z : List D} {ps : List (Nat × Nat × Opd)} (ho : oper.op = .buildSlice t len parts) (ht : P.underlying t = some (.slice e)) (hi : P.info? e = some i)
  (hz : jc P e = some z) (hp : partsOf P t parts.toList = some ps) (hsz : i.size = z.length) (h0 : 0 < i.size) (hlim : len * i.size ≤ 16777216) (hs : SR N T g w st a) (hfr : Fresh T tb)
  (hob : (sem tb (.buildSlice u i.size len z ps) st).ob) :
  ∃ v w' g', (execOp a.eval oper).run P w = .ok (.value v) w' ∧ Qt T g w g' w' st.live (qn st.live (sem tb (.buildSlice u i.size len z ps) st)) ∧
   RS g' w' (qn st.live (sem tb (.buildSlice u i.size len z ps) st)) v (sem tb (.buildSlice u i.size len z ps) st).v := by
 simp only [sem] at hob ⊢
 obtain ⟨hob, hob1⟩ := hob
 obtain ⟨i', zv, hi', hzv, hzm⟩ := k7 hz
 rw [hi] at hi'; cases hi'
 have hzs : i.size = zv.cells.size := by have := (jy hzm).1; rw [hsz]; simpa using this.symm
 obtain ⟨l1, l2⟩ := qyd (P := P) hs hp (len * i.size) hob
 have hrl0 := qlt (g := g) (w := w) hzm len i.size hzs h0
 have hzl : (List.replicate len z).flatten.length = len * i.size := by have := hrl0.1; simpa using this.symm
 obtain ⟨cells', f1, f2⟩ := qoi (g := g) (w := w) (fun j => some (j * i.size, i.size)) _ _ _ _ hrl0 l1 (fun k p q hk hq => by
  obtain ⟨a1, a2, a3⟩ := l2 k p q hk hq
  refine ⟨?_, a2, by rw [hzl]; exact a3⟩
  simp only [qlq, ht, hi, Option.map_some] at a1
  exact a1)
 generalize hds : qo1 (List.replicate len z).flatten (ps.map fun p => (p.1, (p.2.2.get st.fr).dCells)) = ds at f2 ⊢
 have hdl : ds.length = len * i.size := by
  rw [← hds, qm7, hzl]
  intro p hp'
  obtain ⟨q, hq, rfl⟩ := List.mem_map.1 hp'
  obtain ⟨_, _, o3, o4⟩ := hob q hq
  simp only
  rw [hzl, o3]
  exact o4
 have hmap : (parts.toList.map fun (i, x) => (i, a.eval x)) = parts.toList.map fun x => (x.1, a.eval x.2) := rfl
 have hrun : (execOp a.eval oper).run P w = .ok (.value (.slice (some ⟨w.heap.size, 0, none⟩) len len)) (w.alloc (.cells cells' e)) := by
  have hlim' : ¬ (len * i.size > 2 ^ 24) := by omega
  by_cases hl0 : len * i.size = 0
  ·have hlen0 : len = 0 := by rcases Nat.mul_eq_zero.1 hl0 with h | h; exact h; omega
   subst hlen0
   have f1' := f1
   simp only [Nat.zero_mul, Array.range_zero', Array.map_empty] at f1'
   rw [hmap] at f1'
   simp only [execOp, ho, Instr.buildSlice, Sem.run_bind, run_underlying ht, qt hi, Result.andThen_ok, Nat.zero_mul, if_true]
   simp [Array.range_zero', f1', newRow]
  ·rw [hmap] at f1
   simp [execOp, ho, Instr.buildSlice, run_underlying ht, qt hi, hlim', zeroValue, typeInfo, hi, hzv, f1, newRow]
   exact fun h => (hl0 h).elim
 have hnew : (w.alloc (.cells cells' e)).heap[w.heap.size]? = some (.cells cells' e (0, 0)) := heap_alloc_new w _
 obtain ⟨c1, c2, c3⟩ := getElem?_chunks len i.size ds (by omega)
 have hfl : (qb2 i.size len ds).flatten = ds := by rw [c1, ← hdl, List.take_length]
 cases u with
 | false =>
  have hl : ∀ oo, qn st.live { v := ASlot.full i.size (qb2 i.size len ds), ob := oo } = st.live := fun oo => by simp [qn]
  simp only [hl]
  have hq : Qt T g w (g.at w.heap.size (.row (len * i.size) none)) (w.alloc (.cells cells' e)) st.live st.live := Qt.newRow hs.dom w rfl rfl rfl rfl _ _ _ (fun _ _ h => h)
  have hrv := qfv (cap := len) (rows := qb2 i.size len ds) (vs := cells'.toList) hnew (Ghost.at_same _ _ _) (by rw [hfl, hdl]; exact Nat.le_refl _) c2 (by omega) (by rw [hfl]; exact f2.quiet hs.dom hq) (fun j u hj => by simpa using hj)
  rw [c3] at hrv
  exact ⟨_, _, _, hrun, hq, hrv, some ⟨w.heap.size, 0, none⟩, by rw [c3]⟩
 | true =>
  have hlen := hob1 rfl
  have hl : ∀ (vv : ASlot) (oo : Prop), ∀ t, T t → t ∈ qn st.live { v := vv, ob := oo, iss := [tb] } → t ∈ st.live := fun vv oo t h h' => by
   rcases jf.1 h' with ⟨h1, _⟩ | h1
   ·exact h1
   ·simp at h1; exact (hfr.ne h h1).elim
  have hq := Qt.newUni hs.dom w rfl rfl rfl rfl (.cells cells' e) tb (hl (ASlot.uni tb i.size (qb2 i.size len ds)) ((∀ p ∈ ps, p.2.2.ok st.fr = true ∧ (p.2.2.get st.fr).dCellsOk = true ∧ (p.2.2.get st.fr).dCells.length = p.2.1 ∧ p.1 + p.2.1 ≤ len * i.size) ∧ (true = true → len ≤ 1000)))
  have hrl3 := f2.quiet hs.dom hq
  refine ⟨_, _, _, hrun, hq, ⟨_, _, by rw [c3]⟩, fun _ => .inr ⟨w.heap.size, len, cells', e, by rw [c3], Ghost.at_same _ _ _, hnew, by rw [c3]; exact Nat.le_refl _, by unfold maxLen; omega, ?_, c2, fun j d hj => ?_⟩⟩
  ·have := f2.1; simp at this; omega
  ·rw [hfl] at hj
   have hlt : j < cells'.toList.length := by rw [f2.1]; exact (List.getElem?_eq_some_iff.1 hj).1
   exact ⟨hrl3.2.1 d (List.mem_of_getElem? hj), cells'.toList[j], by simp, hrl3.2.2 j _ d (List.getElem?_eq_getElem hlt) hj⟩
theorem RC.keepR {g' : Ghost} {w' : World} (hk : RowsKept g w g' w') (hobj : ∀ k i, g k = .obj i → g' k = .obj i ∧ qc2 w k ≤ qc2 w' k) (hrow : ∀ k n o, g k = .row n o → g' k = .row n o ∧ w'.heap[k]? = w.heap[k]?) (huni : ∀ k t, g k = .uni t → g' k = .uni t ∧ w'.heap[k]? = w.heap[k]?) {v : Value} {s : ASlot} (h : RC g w live v s) : RC g' w' live v s := by
 cases s with
 | d x => exact h.mono hk hobj
 | own t es rows =>
  refine ⟨h.1.mono hk hobj, fun hl => ?_⟩
  rcases h.2 hl with hf | ⟨c, cap, cur, e, h1, h2, h3, h4⟩
  ·exact .inl hf
  ·obtain ⟨r1, r2⟩ := hrow c _ _ h2
   exact .inr ⟨c, cap, cur, e, h1, r1, by rw [r2]; exact h3, h4⟩
 | uni t es rows => exact ⟨h.1, fun hl => (h.2 hl).mono (fun b hb => huni b _ hb) (fun _ _ hv => hv.mono hk hobj)⟩
 | full es rows => exact ⟨h.1.mono hk hobj, h.2⟩
 | rd cells =>
  obtain ⟨c, off, n, o, f, rfl, hg, hn, hc⟩ := h
  obtain ⟨n', o', hg', hnn, hcell⟩ := hk c n o hg
  refine ⟨c, off, n', o', f, rfl, hg', by omega, fun j d hj => ?_⟩
  obtain ⟨c1, c2, c3⟩ := hc j d hj
  have : j < cells.length := (List.getElem?_eq_some_iff.1 hj).1
  exact ⟨c1, hcell _ _ (by omega) c2, c3.mono hk hobj⟩
 | tup l => exact h.elim
 | bad => trivial
theorem RC.keep {g' : Ghost} {w' : World} (htoG : G g w g' w') (hd : Dom g w) (hrow : ∀ k n o, g k = .row n o → g' k = .row n o ∧ w'.heap[k]? = w.heap[k]?) (huni : ∀ k t, g k = .uni t → g' k = .uni t ∧ w'.heap[k]? = w.heap[k]?) {v : Value} {s : ASlot} (h : RC g w live v s) : RC g' w' live v s :=
 RC.keepR (htoG.rowsKept hd) (fun k i h => htoG.obj k i (hd.lt_obj h) h) hrow huni h
theorem SR.still {w' : World} {st : St} {a : Act} (hs : SR N T g w st a) (hw : ∀ k, g k ≠ .out → w'.heap[k]? = w.heap[k]?) (hsz : w.heap.size ≤ w'.heap.size) : SR N T g w' st a := by
 have hk : RowsKept g w g w' := fun k n o hg => ⟨n, o, hg, Nat.le_refl _, fun i u _ hu => by rw [ky (hw k (by rw [hg]; simp))]; exact hu⟩
 have rc : ∀ {v : Value} {s : ASlot}, RC g w st.live v s → RC g w' st.live v s := fun h =>
  RC.keepR hk (fun k i hg => ⟨hg, Nat.le_of_eq (ji (hw k (by rw [hg]; simp))).symm⟩) (fun k n o hg => ⟨hg, hw k (by rw [hg]; simp)⟩) (fun k t hg => ⟨hg, hw k (by rw [hg]; simp)⟩) h
 have rs : ∀ {v : Value} {s : ASlot}, RS g w st.live v s → RS g w' st.live v s := by
  intro v s h
  cases s with
  | tup l =>
   obtain ⟨vs, rfl, hl, hc⟩ := h
   exact ⟨vs, rfl, hl, fun i u s hu hsl => rc (hc i u s hu hsl)⟩
  | _ => exact je (rc (qas h (by simp)))
 refine ⟨⟨fun k h => hs.dom.1 k (by omega), hs.dom.2.same fun k m _ hg => ⟨hw k (by rw [hg]; simp), hg⟩⟩, hs.defers, hs.size, fun k v s h => ?_, fun i o ho hn => ?_, hs.inj, hs.ids, hs.wf⟩
 ·obtain ⟨h1, h2⟩ := hs.slots k v s h
  exact ⟨fun hv => rs (h1 hv), h2⟩
 ·rcases hs.objs i o ho hn with ⟨c, hc, hr⟩ | h
  ·have hcb := hw c (by rw [hc]; simp)
   refine .inl ⟨c, hc, ?_⟩
   cases o with
   | none => exact hr.elim
   | row cells =>
    obtain ⟨cc, e, q1, q2, q3⟩ := hr
    exact ⟨cc, e, by rw [hcb]; exact q1, q2, fun j s hj => by obtain ⟨v, v1, v2, v3⟩ := q3 j s hj; exact ⟨v, v1, v2, rc v3⟩⟩
   | map es clock => exact MapIs.mono hr hk hcb
   | iter m since seen last => exact IterIs.mono (R := fun v => RC g w st.live v m) (R' := fun v => RC g w' st.live v m) hr hcb (fun o hv => rc hv)
  ·exact .inr h
theorem SR.dead {w' : World} {st : St} {a : Act} {b : Nat} (hs : SR N T g w st a) (hb : g b = .out) (hw : ∀ k, k ≠ b → w'.heap[k]? = w.heap[k]?) (hsz : w'.heap.size = w.heap.size) : SR N T g w' st a := by
 have hne : ∀ k, g k ≠ .out → k ≠ b := fun k h he => h (he ▸ hb)
 have hk : RowsKept g w g w' := fun k n o hg => ⟨n, o, hg, Nat.le_refl _, fun i u _ hu => by rw [ky (hw k (hne k (by rw [hg]; simp)))]; exact hu⟩
 have rc : ∀ {v : Value} {s : ASlot}, RC g w st.live v s → RC g w' st.live v s := fun h =>
  RC.keepR hk (fun k i hg => ⟨hg, Nat.le_of_eq (ji (hw k (hne k (by rw [hg]; simp)))).symm⟩) (fun k n o hg => ⟨hg, hw k (hne k (by rw [hg]; simp))⟩) (fun k t hg => ⟨hg, hw k (hne k (by rw [hg]; simp))⟩) h
 have rs : ∀ {v : Value} {s : ASlot}, RS g w st.live v s → RS g w' st.live v s := by
  intro v s h
  cases s with
  | tup l =>
   obtain ⟨vs, rfl, hl, hc⟩ := h
   exact ⟨vs, rfl, hl, fun i u s hu hsl => rc (hc i u s hu hsl)⟩
  | _ => exact je (rc (qas h (by simp)))
 refine ⟨⟨fun k h => hs.dom.1 k (by omega), hs.dom.2.same fun k m _ hg => ⟨hw k (hne k (by rw [hg]; simp)), hg⟩⟩, hs.defers, hs.size, fun k v s h => ?_, fun i o ho hn => ?_, hs.inj, hs.ids, hs.wf⟩
 ·obtain ⟨h1, h2⟩ := hs.slots k v s h
  exact ⟨fun hv => rs (h1 hv), h2⟩
 ·rcases hs.objs i o ho hn with ⟨c, hc, hr⟩ | h
  ·have hcb := hw c (hne c (by rw [hc]; simp))
   refine .inl ⟨c, hc, ?_⟩
   cases o with
   | none => exact hr.elim
   | row cells =>
    obtain ⟨cc, e, q1, q2, q3⟩ := hr
    exact ⟨cc, e, by rw [hcb]; exact q1, q2, fun j s hj => by obtain ⟨v, v1, v2, v3⟩ := q3 j s hj; exact ⟨v, v1, v2, rc v3⟩⟩
   | map es clock => exact MapIs.mono hr hk hcb
   | iter m since seen last => exact IterIs.mono (R := fun v => RC g w st.live v m) (R' := fun v => RC g w' st.live v m) hr hcb (fun o hv => rc hv)
  ·exact .inr h
theorem SR.setObjA {g' : Ghost} {w' : World} {st : St} {a : Act} {id b : Nat} {new : AObj} (hs : SR N T g w st a) (hid : id < st.os.length) (htoG : G g w g' w') (hdom : Dom g' w')
  (hb : g' b = .obj id) (hoth : ∀ k, k ≠ b → g' k = g k) (hheap : ∀ k, k ≠ b → k < w.heap.size → w'.heap[k]? = w.heap[k]?) (hgb : (st.os[id]? = some .none ∧ w.heap.size ≤ b) ∨ g b = .obj id)
  (hnew : ∀ k, g k = .obj id → k = b) (hro : RO g' w' st.live b new) (hnn : new ≠ .none) (htok : ∀ s ∈ new.cells, ∀ t ∈ s.toks, T t) :
  SR N T g' w' { st with os := st.os.set id new } a := by
 have hobj : ∀ k i, g k = .obj i → g' k = .obj i := fun k i h => (htoG.obj k i (hs.dom.lt_obj h) h).1
 have rowne : ∀ k n o, g k = .row n o → g' k = .row n o ∧ w'.heap[k]? = w.heap[k]? := by
  intro k n o h
  have hne : k ≠ b := by
   rintro rfl
   rcases hgb with ⟨_, h1⟩ | h1
   ·have := hs.dom.lt_row h; omega
   ·rw [h] at h1; cases h1
  exact ⟨by rw [hoth k hne]; exact h, hheap k hne (hs.dom.lt_row h)⟩
 have unine : ∀ k t, g k = .uni t → g' k = .uni t ∧ w'.heap[k]? = w.heap[k]? := by
  intro k t h
  have hne : k ≠ b := by
   rintro rfl
   rcases hgb with ⟨_, h1⟩ | h1
   ·have := hs.dom.lt_uni h; omega
   ·rw [h] at h1; cases h1
  exact ⟨by rw [hoth k hne]; exact h, hheap k hne (hs.dom.lt_uni h)⟩
 have hrc : ∀ {v : Value} {s : ASlot}, RC g w st.live v s → RC g' w' st.live v s := fun h => RC.keep htoG hs.dom rowne unine h
 have hrs : ∀ {v : Value} {s : ASlot}, RS g w st.live v s → RS g' w' st.live v s := by
  intro v s h
  cases s with
  | tup l =>
   obtain ⟨vs, rfl, hl, hc⟩ := h
   exact ⟨vs, rfl, hl, fun i u s hu hsl => hrc (hc i u s hu hsl)⟩
  | _ => exact je (hrc (qas h (by simp)))
 refine ⟨hdom, hs.defers, hs.size, fun k v s hk => ?_, fun i o ho hn => ?_, fun k k' i hk hk' => ?_, fun k i hk => ?_, ⟨hs.wf.live, hs.wf.fr, fun i o ho s hsm t ht => ?_⟩⟩
 ·obtain ⟨h1, h2⟩ := hs.slots k v s hk
  exact ⟨fun hv => hrs (h1 hv), h2⟩
 ·by_cases hi : i = id
  ·subst hi
   simp only [List.getElem?_set_self hid] at ho
   cases ho
   exact .inl ⟨b, hb, hro⟩
  ·rw [List.getElem?_set_ne (Ne.symm hi)] at ho
   rcases hs.objs i o ho hn with ⟨c, hc, hr⟩ | ⟨hv, hno⟩
   case inr =>
    refine .inr ⟨hv, fun k hk => ?_⟩
    have hkb : k ≠ b := by rintro rfl; rw [hb] at hk; cases hk; exact hi rfl
    rw [hoth k hkb] at hk
    exact hno k hk
   have hne : c ≠ b := by
    rintro rfl
    have := hobj c i hc
    rw [hb] at this
    cases this
    exact hi rfl
   refine .inl ⟨c, hobj c i hc, ?_⟩
   cases o with
   | none => exact hr.elim
   | row cells =>
    obtain ⟨cc, e, q1, q2, q3⟩ := hr
    refine ⟨cc, e, by rw [hheap c hne (hs.dom.lt_obj hc)]; exact q1, q2, fun j s hj => ?_⟩
    obtain ⟨v, v1, v2, v3⟩ := q3 j s hj
    exact ⟨v, v1, v2, hrc v3⟩
   | map es clock => exact MapIs.mono hr (htoG.rowsKept hs.dom) (hheap c hne (hs.dom.lt_obj hc))
   | iter m since seen last => exact IterIs.mono (R := fun v => RC g w st.live v m) (R' := fun v => RC g' w' st.live v m) hr (hheap c hne (hs.dom.lt_obj hc)) (fun v hv => hrc hv)
 ·by_cases h1 : k = b <;> by_cases h2 : k' = b
  ·rw [h1, h2]
  ·rw [h1, hb] at hk; cases hk
   rw [hoth k' h2] at hk'
   exact (h2 (hnew k' hk')).elim
  ·rw [h2, hb] at hk'; cases hk'
   rw [hoth k h1] at hk
   exact (h1 (hnew k hk)).elim
  ·rw [hoth k h1] at hk; rw [hoth k' h2] at hk'
   exact hs.inj k k' i hk hk'
 ·by_cases h1 : k = b
  ·rw [h1, hb] at hk; cases hk
   exact ⟨new, List.getElem?_set_self hid, hnn⟩
  ·rw [hoth k h1] at hk
   obtain ⟨o, ho, hn⟩ := hs.ids k i hk
   by_cases hi : i = id
   ·subst hi
    exact (h1 (hnew k hk)).elim
   ·exact ⟨o, by rw [List.getElem?_set_ne (Ne.symm hi)]; exact ho, hn⟩
 ·by_cases hi : i = id
  ·subst hi
   simp only [List.getElem?_set_self hid] at ho
   cases ho
   exact htok s hsm t ht
  ·rw [List.getElem?_set_ne (Ne.symm hi)] at ho
   exact hs.wf.os i o ho s hsm t ht
theorem SR.setObj {g' : Ghost} {w' : World} {st : St} {a : Act} {id b : Nat} {new : List ASlot} (hs : SR N T g w st a) (hid : id < st.os.length) (htoG : G g w g' w') (hdom : Dom g' w')
  (hb : g' b = .obj id) (hoth : ∀ k, k ≠ b → g' k = g k) (hheap : ∀ k, k ≠ b → k < w.heap.size → w'.heap[k]? = w.heap[k]?) (hgb : (st.os[id]? = some .none ∧ w.heap.size ≤ b) ∨ g b = .obj id)
  (hnew : ∀ k, g k = .obj id → k = b) (hro : RO g' w' st.live b (.row new)) (htok : ∀ s ∈ new, ∀ t ∈ s.toks, T t) :
  SR N T g' w' { st with os := st.os.set id (.row new) } a := hs.setObjA hid htoG hdom hb hoth hheap hgb hnew hro (by simp) htok
theorem SR.newObjA {st : St} {a : Act} {id : Nat} {o : AObj} {blk : Obj} (hs : SR N T g w st a) (hid : st.os[id]? = some .none) (hnn : o ≠ .none)
  (hro : G g w (g.at w.heap.size (.obj id)) (w.alloc blk) → RowsKept g w (g.at w.heap.size (.obj id)) (w.alloc blk) → (∀ {v : Value} {s : ASlot}, RC g w st.live v s → RC (g.at w.heap.size (.obj id)) (w.alloc blk) st.live v s) → RO (g.at w.heap.size (.obj id)) (w.alloc blk) st.live w.heap.size o)
  (htok : ∀ s ∈ o.cells, ∀ t ∈ s.toks, T t) :
  G g w (g.at w.heap.size (.obj id)) (w.alloc blk) ∧ SR N T (g.at w.heap.size (.obj id)) (w.alloc blk) { st with os := st.os.set id o } a := by
 have hlt : id < st.os.length := (List.getElem?_eq_some_iff.1 hid).1
 have hsz : (w.alloc blk).heap.size = w.heap.size + 1 := by show (w.heap.push _).size = _; simp
 have hold : ∀ b, b < w.heap.size → (w.alloc blk).heap[b]? = w.heap[b]? := fun b hb => heap_alloc_old w _ b hb
 have hg : ∀ b, b < w.heap.size → g.at w.heap.size (.obj id) b = g b := fun b hb => Ghost.at_ne g _ (by omega)
 have hG : G g w (g.at w.heap.size (.obj id)) (w.alloc blk) :=
  ⟨rfl, rfl, rfl, by omega, fun b hb hgb => ⟨hold b hb, by rw [hg b hb]; exact hgb⟩, fun b m hb hgb => ⟨hold b hb, by rw [hg b hb]; exact hgb⟩,
   fun b m u hb hgb => ⟨m, some u, by rw [hg b hb]; exact hgb, Nat.le_refl _, fun i v _ hv => by rw [ky (hold b hb)]; exact hv⟩, fun b i hb hgb => ⟨by rw [hg b hb]; exact hgb, Nat.le_of_eq (ji (hold b hb)).symm⟩⟩
 have hdom : Dom (g.at w.heap.size (.obj id)) (w.alloc blk) := hs.dom.of hG fun b hb => by
  rw [hsz] at hb
  rw [Ghost.at_ne g _ (by omega)]
  exact hs.dom.1 b (by omega)
 have hnoid : ∀ k, g k ≠ .obj id := by
  intro k hk
  obtain ⟨o, ho, hn⟩ := hs.ids k id hk
  rw [hid] at ho; cases ho
  exact hn rfl
 exact ⟨hG, hs.setObjA hlt hG hdom (Ghost.at_same _ _ _) (fun k hk => Ghost.at_ne g _ hk) (fun k _ hk => hold k hk) (.inl ⟨hid, Nat.le_refl _⟩) (fun k hk => (hnoid k hk).elim)
  (hro hG (hG.rowsKept hs.dom) (fun h => RC.keep hG hs.dom (fun k n o hk => ⟨by rw [hg k (hs.dom.lt_row hk)]; exact hk, hold k (hs.dom.lt_row hk)⟩) (fun k t hk => ⟨by rw [hg k (hs.dom.lt_uni hk)]; exact hk, hold k (hs.dom.lt_uni hk)⟩) h)) hnn htok⟩
theorem SR.newObj {st : St} {a : Act} {id : Nat} {new : List ASlot} {vs : List Value} {e : TypeId} (hs : SR N T g w st a) (hid : st.os[id]? = some .none) (hl : new.length ≤ vs.length)
  (hv : ∀ (i : Nat) (s : ASlot), new[i]? = some s → ∃ v, vs[i]? = some v ∧ v.oneCell' = true ∧ RC g w st.live v s) (htok : ∀ s ∈ new, ∀ t ∈ s.toks, T t) :
  G g w (g.at w.heap.size (.obj id)) (w.alloc (.cells vs.toArray e)) ∧ SR N T (g.at w.heap.size (.obj id)) (w.alloc (.cells vs.toArray e)) { st with os := st.os.set id (.row new) } a := by
 refine hs.newObjA hid (by simp) (fun _ _ keep => ⟨vs.toArray, e, heap_alloc_new w _, by simpa using hl, fun i s hi => ?_⟩) htok
 obtain ⟨v, v1, v2, v3⟩ := hv i s hi
 exact ⟨v, by simpa using v1, v2, keep v3⟩
end
end Go.Abs
namespace Go.Abs
section
variable {P : Program} {N tb : Nat} {T : Nat → Prop} {g : Ghost} {w : World} {st : St} {a : Act} {oper : Oper} {live live' : List Nat}
theorem xa2 {v : Value} {s : ASlot} (h : RC g w live v s) (ho : s.isOne = true) : v.oneCell' = true := by
 cases s with
 | d x => exact RV.oneCell h ho
 | own t es rows => exact h.1.oneCell rfl
 | uni t es rows => obtain ⟨⟨a, c, rfl⟩, _⟩ := h; rfl
 | full es rows => exact h.1.oneCell rfl
 | rd cells => obtain ⟨b, off, n, o, f, rfl, _⟩ := h; rfl
 | _ => grind [ASlot.isOne]
theorem q7r {v : Value} {s : ASlot} (h : RS g w live v s) (ho : s.toCells.all ASlot.isOne = true) :
  v.cells.toList.length = s.toCells.length ∧ ∀ (i : Nat) (x : ASlot), s.toCells[i]? = some x → ∃ u, v.cells.toList[i]? = some u ∧ u.oneCell' = true ∧ RC g w live u x := by
 have one : s.toCells = [s] → RC g w live v s → s.isOne = true → v.cells.toList.length = s.toCells.length ∧ ∀ (i : Nat) (x : ASlot), s.toCells[i]? = some x → ∃ u, v.cells.toList[i]? = some u ∧ u.oneCell' = true ∧ RC g w live u x := by
  intro hc hr h1
  have hv := xa2 hr h1
  have hcells : v.cells = #[v] := by cases v <;> first | rfl | grind [Value.oneCell']
  grind
 cases s with
 | d x =>
  cases x with
  | agg cs =>
   obtain ⟨vs, rfl, h1, h2, h3⟩ := qdp (wj h)
   refine ⟨by simp [Value.cells, ASlot.toCells, h1], fun i x hi => ?_⟩
   simp only [ASlot.toCells, List.getElem?_map, Option.map_eq_some_iff] at hi
   obtain ⟨d, hd, rfl⟩ := hi
   have hlt : i < vs.length := by grind
   have hr := h3 i vs[i] d (List.getElem?_eq_getElem hlt) hd
   exact ⟨vs[i], by simp [Value.cells], hr.oneCell (h2 d (List.mem_of_getElem? hd)), hr⟩
  | _ => exact one rfl h (by rfl)
 | tup l => grind [ASlot.toCells, ASlot.isOne]
 | bad => grind [ASlot.toCells, ASlot.isOne]
 | _ => exact one rfl h (by rfl)
theorem qyf {s : ASlot} {p : Nat → Prop} (h : ∀ t ∈ s.toks, p t) : ∀ x ∈ s.toCells, ∀ t ∈ x.toks, p t := by
 intro x hx t ht
 cases s with
 | d y =>
  cases y with
  | agg cs => simp only [ASlot.toCells, List.mem_map] at hx; obtain ⟨d, _, rfl⟩ := hx; grind [ASlot.toks]
  | _ => grind [ASlot.toCells, List.mem_singleton]
 | _ => grind [ASlot.toCells, List.mem_singleton]
def zu (st : St) : Option (Nat × AObj) → St
 | some (id, o) => { st with os := st.os.set id o }
 | none => st
theorem xgb {t : TypeId} {x : Operand} {y : Opd} {back : Nat} (ho : oper.op = .box t x) (hx : qp x = some y) (hs : SR N T g w st a) (hob : (sem tb (.box back y) st).ob) :
  ∃ v w' g', (execOp a.eval oper).run P w = .ok (.value v) w' ∧ G g w g' w' ∧ SR N T g' w' (zu st (sem tb (.box back y) st).wr) a ∧ RS g' w' st.live v (sem tb (.box back y) st).v := by
 simp only [sem] at hob ⊢
 obtain ⟨o1, o2, o3, o4, o5⟩ := hob
 have r1 := xc hs hx o1
 obtain ⟨h1, h2⟩ := q7r r1 o2
 obtain ⟨q1, q2⟩ := hs.newObj (e := t) o5 (Nat.le_of_eq h1.symm) h2 (qyf (qe5 hs hx o1))
 refine ⟨.pointer (some ⟨w.heap.size, 0, none⟩), _, _, ?_, q1, q2, .ptr _ 0 _ (Ghost.at_same _ _ _)⟩
 simp [execOp, ho, Instr.box, newVar, newRow]
theorem SR.touch (hs : SR N T g w st a) (id : Nat) (hrow : qgh st.os id = true) : SR N T g w { st with os := st.os.set id (.row (qh st.os id)) } a := by
 have key : ∀ (i : Nat) (o : AObj), (st.os.set id (.row (qh st.os id)))[i]? = some o → st.os[i]? = some o ∨ (i = id ∧ o = .row (qh st.os id)) := by
  grind
 have cell : ∀ s ∈ qh st.os id, ∃ o, st.os[id]? = some o ∧ s ∈ o.cells := by
  grind [qh]
 refine ⟨hs.dom, hs.defers, hs.size, hs.slots, fun i o ho hn => ?_, hs.inj, fun b i hb => ?_, ⟨hs.wf.live, hs.wf.fr, fun i o ho s hsm t ht => ?_⟩⟩
 ·rcases key i o ho with h | ⟨rfl, rfl⟩
  ·exact hs.objs i o h hn
  ·unfold qh
   cases hq : st.os[i]? with
   | none => grind
   | some o' =>
    cases o' with
    | none => exact .inr ⟨rfl, fun b hb => by obtain ⟨o', h1, h2⟩ := hs.ids b i hb; grind⟩
    | row cs => exact hs.objs i _ hq (by simp)
    | map _ _ => grind [qgh]
    | iter _ _ _ _ => grind [qgh]
 ·obtain ⟨o, ho, hne⟩ := hs.ids b i hb
  grind
 ·rcases key i o ho with h | ⟨rfl, rfl⟩
  ·exact hs.wf.os i o h s hsm t ht
  ·obtain ⟨o', ho', hm⟩ := cell s hsm
   exact hs.wf.os i o' ho' s hm t ht
theorem SR.drew (hs : SR N T g w st a) : SR N T g { w with drawn := w.drawn + 1 } st a := by
 have hq : Qt T g w g { w with drawn := w.drawn + 1 } st.live st.live :=
  ⟨⟨rfl, rfl, rfl, Nat.le_refl _, fun _ _ h => ⟨rfl, h⟩, fun _ _ _ h => ⟨rfl, h⟩, fun _ n t _ h => ⟨n, some t, h, Nat.le_refl _, fun _ _ _ h => h⟩, fun _ _ _ h => ⟨h, Nat.le_refl _⟩⟩,
   hs.dom, fun _ _ _ => rfl, fun _ _ h => h, fun _ _ _ _ _ h => ⟨h, rfl⟩, fun _ _ h => h, fun _ _ _ _ h => ⟨h, rfl⟩⟩
 exact hs.quiet hq (fun _ h => h) hs.wf.live
theorem qm8 {t u e : TypeId} {s x : Operand} {s' x' : Opd} {i : TypeInfo} {z : List D} {back : Nat} (ho : oper.op = .call { callee := .builtin .append, args := #[s, x], argTypes := #[t, u] })
  (ht : P.underlying t = some (.slice e)) (hi : P.info? e = some i) (hz : jc P e = some z) (hsz : i.size = z.length) (hb : 0 < i.bytes)
  (hu : (∃ f, P.underlying u = some (.slice f)) ∨ P.underlying u = some .string) (hs' : qp s = some s') (hx' : qp x = some x') (hs : SR N T g w st a)
  (hob : (sem tb (.appendO back i.size i.bytes s' x') st).ob) :
  ∃ v w' g', (execOp a.eval oper).run P w = .ok (.value v) w' ∧ G g w g' w' ∧ SR N T g' w' (zu st (sem tb (.appendO back i.size i.bytes s' x') st).wr) a ∧ RS g' w' st.live v (sem tb (.appendO back i.size i.bytes s' x') st).v := by
 simp only [sem] at hob ⊢
 obtain ⟨o1, o2, hob⟩ := hob
 have rs := xc hs hs' o1
 have rx := xc hs hx' o2
 obtain ⟨i', zv, hi', hzv, hzm⟩ := k7 hz
 rw [hi] at hi'; cases hi'
 have hzs : zv.cells.size = i.size := by have := (jy hzm).1; grind
 unfold jj at hob ⊢
 cases hsrc : y8 i.size st.os (x'.get st.fr) with
 | none => grind [Out.bad]
 | some rr =>
  obtain ⟨r, rdd, rok⟩ := rr
  simp only [hsrc] at hob ⊢
  obtain ⟨hrok, hvoid, ⟨hby, h63⟩, _, _, hnone⟩ := hob
  obtain ⟨ad, hv⟩ : ∃ ad, a.eval s = .slice ad 0 0 := by
   cases hk : s'.get st.fr with
   | full e1 l =>
    rw [hk] at rs hvoid
    cases l with
    | nil => exact rs.2
    | cons _ _ => grind [ASlot.void]
   | d y =>
    rw [hk] at rs hvoid
    cases y <;> simp [ASlot.void] at hvoid
    have rs' : RV g w (a.eval s) .nilsl := rs
    generalize a.eval s = u0 at rs'
    cases rs'
    simp
   | _ => grind [ASlot.void]
  have exec : ∀ v w', (Builtin.append_ #[t, u] oper.type #[.slice ad 0 0, a.eval x]).run P w = .ok v w' → (execOp a.eval oper).run P w = .ok (.value v) w' := by
   simp_all [execOp, resolve, invoke, builtin]
  obtain ⟨hes, news, hrl, hsource, hfirst, _⟩ := qfu (P := P) hs rx hsrc hrok
  by_cases hn : 0 < r.length
  ·have hfc : (Builtin.firstCells i.size 0 (.slice ad 0 0)).run P w.drew = .ok #[] w.drew := by
    cases ad with
    | none => rfl
    | some a0 => grind [run_firstCells_some]
   have hfit : Builtin.nextslicecap (0 + r.length) 0 * i.bytes ≤ 281474976710656 := growslice_fits (by omega) (by grind)
   have hrun := qb6 (P := P) (w := w) (ty := oper.type) ht hi hzv hu (by omega) ad 0 0 (olds := []) hsource.1 hfirst hfc (show 0 < 0 + r.length by omega) hfit
   have hge := grownCap_ge w (0 + r.length) 0 e
   have hle := grownCap_le_maxLen w (0 + r.length) 0 e (by grind [maxLen])
   generalize hzz : Builtin.zeroCells zv.cells (grownCap w (0 + r.length) 0 e - (0 + r.length)) = zz at hrun
   have hzzs : zz.size = (grownCap w (0 + r.length) 0 e - (0 + r.length)) * i.size := by grind [qd6]
   have hwd : w.drew = { w with drawn := w.drawn + 1 } := rfl
   have hsd : SR N T g w.drew st a := by rw [hwd]; exact hs.drew
   have hGd : G g w g w.drew := ⟨rfl, rfl, rfl, Nat.le_refl _, fun _ _ h => ⟨rfl, h⟩, fun _ _ _ h => ⟨rfl, h⟩, fun _ n t _ h => ⟨n, some t, h, Nat.le_refl _, fun _ _ _ h => h⟩, fun _ _ _ h => ⟨h, Nat.le_refl _⟩⟩
   have harr : (([] : List Value).toArray ++ news.toArray ++ zz) = (news ++ zz.toList).toArray := by simp
   rw [harr] at hrun
   have hnl : news.length = r.flatten.length := hrl.1
   obtain ⟨q1, q2⟩ := hsd.newObj (e := e) (vs := news ++ zz.toList) (new := r.flatten.map .d) hnone (by grind) (fun j s hj => by
    simp only [List.getElem?_map, Option.map_eq_some_iff] at hj
    obtain ⟨d, hd, rfl⟩ := hj
    have hlt : j < news.length := by grind
    have hr := hrl.2.2 j _ d (List.getElem?_eq_getElem hlt) hd
    have hr' : RV g w.drew news[j] d := hGd.rv hs.dom hr
    exact ⟨news[j], by grind, hr.oneCell (hrl.2.1 d (List.mem_of_getElem? hd)), hr'⟩) (fun s hsm t ht => by
    obtain ⟨d, _, rfl⟩ := List.mem_map.1 hsm
    grind [ASlot.toks])
   refine ⟨_, _, _, exec _ _ hrun, hGd.trans q1, q2, ?_⟩
   rw [show 0 + r.length = r.length by omega]
   rw [show 0 + r.length = r.length by omega] at hge hle hzzs
   refine .ref _ 0 _ _ _ _ (Ghost.at_same _ _ _) hge hle ?_
   have hnew : (w.drew.alloc (.cells (news ++ zz.toList).toArray e)).heap[w.heap.size]? = some (.cells (news ++ zz.toList).toArray e (0, 0)) := heap_alloc_new w.drew _
   rw [vi hnew]
   have h2 : news.length = r.length * i.size := by grind [xf]
   have h3 : (news ++ zz.toList).toArray.size = news.length + zz.size := by simp
   rw [h3, h2, hzzs, ← Nat.add_mul, Nat.zero_add]
   grind
  ·have hr0 : r = [] := List.eq_nil_of_length_eq_zero (by omega)
   subst hr0
   have hnews : news = [] := by have := hrl.1; grind
   subst hnews
   have hoc : qh st.os (st.os.length - back) = [] := by grind [qh, AObj.cells]
   refine ⟨.slice ad 0 0, w, g, exec _ _ ?_, G.refl g w, ?_, .refnil _ _ _ _⟩
   ·cases ad with
    | none =>
     have := qcp (P := P) (ty := oper.type) ht hi hu 0 0 hsource (by simp)
     omega
    | some ad =>
     have := w8 (P := P) (ty := oper.type) ht hi hu ad 0 0 hsource (by simp)
     simp_all [storeCells]
   ·have := hs.touch (st.os.length - back) (by grind [qgh])
    rw [hoc] at this
    exact this
theorem qpj {v : Value} {s : ASlot} (h : xas v = some s) : s.isOne = true ∧ RC g w live v s ∧ s.toks = [] := by
 unfold xas at h
 cases hc : qcl v with
 | none => grind
 | some d => simp [hc] at h; subst h; exact ⟨qi6 hc, qj0 hc, rfl⟩
theorem q7s {t : TypeId} {z : List ASlot} {back : Nat} (ho : oper.op = .alloc t) (hz : qlp P t = some z) (hs : SR N T g w st a) (hob : (sem tb (.alloc back z) st).ob) :
  ∃ v w' g', (execOp a.eval oper).run P w = .ok (.value v) w' ∧ G g w g' w' ∧ SR N T g' w' (zu st (sem tb (.alloc back z) st).wr) a ∧ RS g' w' st.live v (sem tb (.alloc back z) st).v := by
 simp only [sem] at hob ⊢
 obtain ⟨o3, o4, o5⟩ := hob
 unfold qlp at hz
 split at hz
 ·rename_i i hi
  split at hz
  ·rename_i zv hzv
   obtain ⟨m1, m2⟩ := jy hz
   obtain ⟨q1, q2⟩ := hs.newObj (e := t) (vs := zv.cells.toList) (new := z) o5 (Nat.le_of_eq m1.symm) (fun j s hj => by
    grind [List.getElem?_eq_some_iff, qpj, List.getElem?_eq_getElem, xa2]) (fun s hsz t ht => by
    obtain ⟨j, hj⟩ := List.getElem?_of_mem hsz
    have hlt : j < zv.cells.toList.length := by grind
    obtain ⟨_, _, c3⟩ := qpj (g := g) (w := w) (live := st.live) (m2 j _ s (List.getElem?_eq_getElem hlt) hj)
    grind)
   refine ⟨.pointer (some ⟨w.heap.size, 0, none⟩), _, _, ?_, q1, q2, .ptr _ 0 _ (Ghost.at_same _ _ _)⟩
   simp [execOp, ho, Instr.alloc, zeroValue, typeInfo, hi, hzv, newVar, newRow]
  grind
 grind
theorem qpk {t e : TypeId} {l c : Operand} {l' c' : Opd} {i : TypeInfo} {z : List D} {back : Nat} (ho : oper.op = .makeSlice t l c) (ht : P.underlying t = some (.slice e)) (hi : P.info? e = some i) (hz : jc P e = some z)
  (hsz : i.size = z.length) (h0 : 0 < i.size) (hl' : qp l = some l') (hc' : qp c = some c') (hs : SR N T g w st a) (hob : (sem tb (.makeSliceO back i.size i.bytes z l' c') st).ob) :
  ∃ v w' g', (execOp a.eval oper).run P w = .ok (.value v) w' ∧ G g w g' w' ∧ SR N T g' w' (zu st (sem tb (.makeSliceO back i.size i.bytes z l' c') st).wr) a ∧ RS g' w' st.live v (sem tb (.makeSliceO back i.size i.bytes z l' c') st).v := by
 simp only [sem] at hob ⊢
 obtain ⟨i', zv, hi', hzv, hzm⟩ := k7 hz
 rw [hi] at hi'; cases hi'
 have hzs : i.size = zv.cells.size := by have := (jy hzm).1; rw [hsz]; simpa using this.symm
 cases h1 : l'.get st.fr with
 | d p =>
  cases p with
  | int k1 n =>
   cases h2 : c'.get st.fr with
   | d q =>
    cases q with
    | int k2 m =>
     simp only [h1, h2] at hob ⊢
     obtain ⟨⟨o1, o2, o3, o4, o5, o6⟩, o7, o8, o9⟩ := hob
     have r1 := xc hs hl' o1
     have r2 := xc hs hc' o2
     rw [h1] at r1; rw [h2] at r2
     have hrun := qj8 (P := P) (w := w) ho ht hi hzv h0 (vg (wj r1)) (vg (wj r2)) o3 o4 (by omega) o6
     have hget := qs8 (zv := zv) (k := i.size) o4
     have hcs : ((Array.range (m.toNat * i.size)).map (zv.cells[· % zv.cells.size]!)).size = m.toNat * i.size := by simp
     generalize (Array.range (m.toNat * i.size)).map (zv.cells[· % zv.cells.size]!) = cells at hrun hget hcs
     have hrl := qlt (g := g) (w := w) hzm n.toNat i.size hzs h0
     have hes : ∀ r ∈ List.replicate n.toNat z, r.length = i.size := by intro r hr; rw [List.eq_of_mem_replicate hr, hsz]
     have hfl : (List.replicate n.toNat z).flatten.length = n.toNat * i.size := by rw [xf hes]; simp
     have hle : n.toNat * i.size ≤ m.toNat * i.size := Nat.mul_le_mul_right _ (by omega)
     obtain ⟨q1, q2⟩ := hs.newObj (e := e) (vs := cells.toList) (new := (List.replicate n.toNat z).flatten.map .d) o9 (by simp only [List.length_map, Array.length_toList]; omega) (fun j s hj => by
      simp only [List.getElem?_map, Option.map_eq_some_iff] at hj
      obtain ⟨d, hd, rfl⟩ := hj
      have hlt : j < ((Array.range (n.toNat * i.size)).map (zv.cells[· % zv.cells.size]!)).toList.length := by rw [hrl.1]; exact (List.getElem?_eq_some_iff.1 hd).1
      have hv := hrl.2.2 j _ d (List.getElem?_eq_getElem hlt) hd
      refine ⟨_, by simpa using hget j _ (List.getElem?_eq_getElem hlt), ?_, hv⟩
      exact hv.oneCell (hrl.2.1 d (List.mem_of_getElem? hd))) (fun s hs' t ht => by
      obtain ⟨d, _, rfl⟩ := List.mem_map.1 hs'
      cases ht)
     refine ⟨_, _, _, hrun, q1, q2, .ref _ 0 _ _ _ _ (Ghost.at_same _ _ _) (by omega) (by unfold maxLen; omega) ?_⟩
     rw [vi (heap_alloc_new w _), Nat.zero_add, hcs]
     exact Nat.le_refl _
    | _ => simp [h1, h2, Out.bad] at hob
   | _ => simp [h1, h2, Out.bad] at hob
  | _ => simp [h1, Out.bad] at hob
 | _ => simp [h1, Out.bad] at hob
theorem qhf : ∀ (cs : List ASlot) (off : Nat) (new : List ASlot), (qbg cs off new).length = cs.length
 | cs, off, [] => rfl
 | cs, off, s :: r => by rw [qbg, qhf, List.length_set]
theorem qe6 : ∀ (new : List ASlot) (cs : List ASlot) (off i : Nat), off + new.length ≤ cs.length →
  (qbg cs off new)[i]? = if off ≤ i ∧ i < off + new.length then new[i - off]? else cs[i]?
 | [], cs, off, i, _ => by
  simp_all [List.length_nil, if_neg, qbg]
 | s :: r, cs, off, i, h => by
  have ih := qe6 r (cs.set off s) (off + 1) i (by grind)
  simp only [qbg]
  grind
theorem SR.stored {id off b : Nat} {new : List ASlot} {us : List Value} (hs : SR N T g w st a) (hb : g b = .obj id) (h0 : 0 < (qh st.os id).length) (hoff : off + new.length ≤ (qh st.os id).length)
  (hl : us.length = new.length) (hu : ∀ (i : Nat) (x : ASlot), new[i]? = some x → ∃ u, us[i]? = some u ∧ u.oneCell' = true ∧ RC g w st.live u x) (htok : ∀ s ∈ new, ∀ t ∈ s.toks, T t) :
  ∃ w', (storeCells ⟨b, off, none⟩ us).run P w = .ok () w' ∧ G g w g w' ∧ SR N T g w' { st with os := st.os.set id (.row (qbg (qh st.os id) off new)) } a := by
 obtain ⟨c, e, hheap, hsize, hcells⟩ := qs6 hs hb h0
 have hone : ∀ v ∈ us, v.oneCell' = true := by
  intro v hv
  obtain ⟨i, hi⟩ := List.getElem?_of_mem hv
  have hlt : i < new.length := by grind
  obtain ⟨u, u1, u2, _⟩ := hu i new[i] (List.getElem?_eq_getElem hlt)
  grind
 have hrun := run_storeCells_at P b off e us 0 c w hheap (by omega) hone
 simp only [Nat.add_zero] at hrun
 generalize hc' : (c.toList.take off ++ us ++ c.toList.drop (off + us.length)).toArray = c' at hrun
 have hnew : (w.setRow b c').heap[b]? = some (.cells c' e (0, 0)) := setRow_heap w b c c' e (0, 0) hheap
 have hother : ∀ k, k ≠ b → (w.setRow b c').heap[k]? = w.heap[k]? := fun k hk => setRow_other w b k c' hk
 have hsz : (w.setRow b c').heap.size = w.heap.size := by simp
 have hlen' : c'.size = c.size := by
  grind
 have hget : ∀ i, c'[i]? = if off ≤ i ∧ i < off + us.length then us[i - off]? else c[i]? := by
  grind
 have hbs : ∀ k, qc2 w k ≤ qc2 (w.setRow b c') k := fun k => by
  grind [vi, Nat.le_of_eq, ji]
 have nrow : ∀ k n o, g k = .row n o → k ≠ b := by grind
 have hG : G g w g (w.setRow b c') :=
  ⟨rfl, rfl, rfl, by omega, fun k hk hgk => ⟨hother k (by grind), hgk⟩, fun k m hk hgk => ⟨hother k (nrow k _ _ hgk), hgk⟩,
   fun k m t hk hgk => ⟨m, some t, hgk, Nat.le_refl _, fun i v _ hv => by grind [ky]⟩, fun k id hk hgk => ⟨hgk, hbs k⟩⟩
 have hlt : id < st.os.length := by
  obtain ⟨o, ho, _⟩ := hs.ids b id hb
  grind
 refine ⟨_, hrun, hG, hs.setObj hlt hG (hs.dom.of hG fun k hk => hs.dom.1 k (by omega)) hb (fun _ _ => rfl) (fun k hk _ => hother k hk) (.inr hb) (fun k hk => hs.inj k b id hk hb) ?_ ?_⟩
 ·refine ⟨c', e, hnew, by grind [qhf], fun i s hi => ?_⟩
  rw [qe6 new _ off i hoff] at hi
  rw [hget i, hl]
  have keep : ∀ {v : Value} {x : ASlot}, RC g w st.live v x → RC g (w.setRow b c') st.live v x := fun h => RC.keep hG hs.dom (fun k n o hk => ⟨hk, hother k (nrow k n o hk)⟩) (fun k t hk => ⟨hk, hother k (by grind)⟩) h
  grind
 ·intro s hsm t ht
  obtain ⟨i, hi⟩ := List.getElem?_of_mem hsm
  rw [qe6 new _ off i hoff] at hi
  split at hi
  ·grind
  ·obtain ⟨o, ho, hn⟩ := hs.ids b id hb
   refine hs.wf.os id o ho s ?_ t ht
   grind [qh, id, List.mem_of_getElem?]
theorem q7t {t : TypeId} {x v : Operand} {x' v' : Opd} {n : Option Nat} (ho : oper.op = .store t x v) (hn : aggN P t = some n) (hx : qp x = some x') (hv : qp v = some v') (hs : SR N T g w st a) (hob : (sem tb (.store n x' v') st).ob) :
  ∃ w', (execOp a.eval oper).run P w = .ok .skip w' ∧ G g w g w' ∧ SR N T g w' (zu st (sem tb (.store n x' v') st).wr) a := by
 simp only [sem] at hob ⊢
 obtain ⟨o1, o2, hob⟩ := hob
 have r1 := xc hs hx o1
 have r2 := xc hs hv o2
 have tk := qe5 hs hv o2
 cases hp : x'.get st.fr with
 | d p =>
  cases p with
  | ptr id off =>
   rw [hp] at r1
   simp only [hp, w6] at hob ⊢
   have hrv := wj r1
   generalize hval : a.eval x = vx at hrv
   cases hrv with
   | ptr b _ _ hg =>
   cases n with
   | none =>
    obtain ⟨h1, h2⟩ := hob
    obtain ⟨ti, d, hi, hsz, _⟩ := qx3 hn
    have hrc : RC g w st.live (a.eval v) (v'.get st.fr) := qas r2 (by grind [ASlot.isOne])
    have hone := xa2 hrc h2
    have hcells : (a.eval v).cells = #[a.eval v] := by cases hvv : a.eval v <;> first | rfl | grind [Value.oneCell']
    obtain ⟨w', q1, q2, q3⟩ := SR.stored (P := P) (id := id) (off := off) (new := [v'.get st.fr]) (us := [a.eval v]) hs hg (by omega) (by grind) rfl (fun i s hs' => by
     grind) (by grind)
    refine ⟨w', ?_, q2, q3⟩
    simp_all [execOp, Instr.storeAt, Instr.sureAddr, storeVar, qt]
   | some k =>
    obtain ⟨ti, hi, hsz, _⟩ := qj3 hn
    cases hq : v'.get st.fr with
    | d q =>
     cases q with
     | agg cs =>
      simp only [hq] at hob ⊢
      obtain ⟨h1, h0, h2, h3⟩ := hob
      rw [hq] at r2
      obtain ⟨us, hus, hl, hcl, hc⟩ := qdp (wj r2)
      obtain ⟨w', q1, q2, q3⟩ := SR.stored (P := P) (id := id) (off := off) (new := cs.map .d) (us := us) hs hg h0 (by grind) (by simp [hl]) (fun i s hs' => by
       simp only [List.getElem?_map, Option.map_eq_some_iff] at hs'
       obtain ⟨d, hd, rfl⟩ := hs'
       have hlt : i < us.length := by grind
       have hr := hc i us[i] d (List.getElem?_eq_getElem hlt) hd
       exact ⟨_, List.getElem?_eq_getElem hlt, hr.oneCell (hcl d (List.mem_of_getElem? hd)), hr⟩) (by
       intro s hs' t ht
       obtain ⟨d, _, rfl⟩ := List.mem_map.1 hs'
       grind [ASlot.toks])
      refine ⟨w', ?_, q2, q3⟩
      have hul : us.length = k := by omega
      simp [execOp, ho, hval, hus, Instr.storeAt, Instr.sureAddr, storeVar, qt hi, hsz, Value.cells, hul, q1]
     | _ => grind [Out.bad]
    | _ => grind [Out.bad]
  | _ => grind [w6, Out.bad]
 | _ => grind [w6, Out.bad]
theorem qyg {neg : Bool} {t u e : TypeId} {x y : Operand} {x' : Opd} {es : Nat} {rows : List (List D)} (ho : oper.op = .binOp (if neg then .neq else .eql) t x y u) (ht : P.underlying t = some (.slice e)) (hx : qp x = some x')
  (hy : qh6 y = true) (hs : SR N T g w st a) (hok : x'.ok st.fr = true) (hr : (x'.get st.fr).rows = some (es, rows)) :
  ∃ b : Bool, (b = true → rows = []) ∧ yi P g w st a oper (.d (.bool (if neg then !b else b))) := by
 have r1 := qi7 (xc hs hx hok) hr
 have hyv : a.eval y = .slice none 0 0 := by
  unfold qh6 at hy
  split at hy
  ·rfl
  grind
 have key : ∀ (b : Bool), (∃ ad n c, a.eval x = .slice ad n c ∧ ad.isNone = b) → yi P g w st a oper (.d (.bool (if neg then !b else b))) := by
  rintro b ⟨ad, n, c, hv, hb⟩
  have heq : (Op.equal t (.slice ad n c) (.slice none 0 0)).run P w = .ok b w := qal (by
   subst hb
   rw [Op.equalIn]
   cases ad <;> simp [run_underlying ht])
  refine ⟨.bool (if neg then !b else b), ?_, .bool _⟩
  cases neg with
  | false => simp_all [execOp, eqGuard_at_slice, binOp]
  | true => simp_all [execOp, eqGuard_at_slice, binOp]
 rcases qsd r1 with ⟨⟨ad, cp, hv, _⟩, rfl⟩ | ⟨b, off, cap, n, o, f, hv, _⟩
 ·exact ⟨ad.isNone, fun _ => rfl, key ad.isNone ⟨_, _, _, hv, rfl⟩⟩
 simp_all
theorem q5d {t u ty e : TypeId} {i : TypeInfo} (ht : P.underlying t = some (.slice e)) (hi : P.info? e = some i) {base : Option Addr} {n cap k : Nat} {x : Value} {news : List Value} {w1 : World}
  (hl : (Builtin.lenOf x).run P w = .ok k w) (hf : (Builtin.firstCells i.size (Nat.min k n) x).run P w = .ok news.toArray w) (hst : ∀ ad, base = some ad → (storeCells ad news).run P w = .ok () w1) (hn : base = none → w1 = w) :
  (Builtin.copy_ #[t, u] ty #[.slice base n cap, x]).run P w = .ok (.int .i64 (Nat.min k n)) w1 := by
 cases base with
 | none =>
  have := hn rfl
  simp_all [Builtin.copy_, run_underlying, qt, goInt]
 | some ad => simp [Builtin.copy_, run_underlying ht, qt hi, hl, hf, hst ad rfl, goInt]
theorem qyh {t u e : TypeId} {s x : Operand} {s' x' : Opd} {i : TypeInfo} (ho : oper.op = .call { callee := .builtin .copy, args := #[s, x], argTypes := #[t, u] })
  (ht : P.underlying t = some (.slice e)) (hi : P.info? e = some i) (hs' : qp s = some s') (hx' : qp x = some x') (hs : SR N T g w st a) (hob : (sem tb (.copy i.size s' x') st).ob) :
  ∃ v w' g', (execOp a.eval oper).run P w = .ok (.value v) w' ∧ G g w g' w' ∧ SR N T g' w' (zu st (sem tb (.copy i.size s' x') st).wr) a ∧ RS g' w' st.live v (sem tb (.copy i.size s' x') st).v := by
 simp only [sem] at hob ⊢
 obtain ⟨o1, o2, hob⟩ := hob
 have rs := xc hs hs' o1
 have rx := xc hs hx' o2
 have tkx := qe5 hs hx' o2
 unfold w7 at hob ⊢
 cases hsrc : y8 i.size st.os (x'.get st.fr) with
 | none => grind [Out.bad]
 | some r =>
  simp only [hsrc] at hob ⊢
  cases hk : s'.get st.fr with
  | d p =>
   cases p with
   | ref id off es n =>
    simp only [hk] at hob ⊢
    obtain ⟨hrok, rfl, hrow, hin⟩ := hob
    rw [hk] at rs
    have hrv := wj rs
    obtain ⟨hes, news, hrl, hsource, _, hpre⟩ := qfu (P := P) hs rx hsrc hrok
    have hmin : Nat.min r.rows.length n ≤ r.rows.length := Nat.min_le_left _ _
    have hf := hpre _ hmin
    have hrun : ∀ base cap w1, a.eval s = .slice base n cap → (∀ ad, base = some ad → (storeCells ad (news.take (Nat.min r.rows.length n * i.size))).run P w = .ok () w1) → (base = none → w1 = w) →
      (execOp a.eval oper).run P w = .ok (.value (.int .i64 (Nat.min r.rows.length n))) w1 := by
     intro base cap w1 hv h1 h2
     have := q5d (P := P) (t := t) (u := u) (ty := oper.type) (cap := cap) ht hi hsource.1 hf h1 h2
     simp_all [execOp, resolve, invoke, builtin]
    have htk : (r.rows.take n).flatten.length = Nat.min r.rows.length n * i.size := by
     grind [xf, List.mem_of_mem_take, List.length_take, Nat.min_comm]
    have hnl : (news.take (Nat.min r.rows.length n * i.size)).length = Nat.min r.rows.length n * i.size := by
     have h1 := hrl.1
     grind [xf, Nat.mul_le_mul_right, List.length_take]
    have hle : Nat.min r.rows.length n * i.size ≤ n * i.size := Nat.mul_le_mul_right _ (Nat.min_le_right _ _)
    have hft : (r.rows.take n).flatten = r.rows.flatten.take (n * i.size) := flat_take hes n
    have hcells : ∀ (j : Nat) (y : ASlot), ((r.rows.take n).flatten.map ASlot.d)[j]? = some y → ∃ u, (news.take (Nat.min r.rows.length n * i.size))[j]? = some u ∧ u.oneCell' = true ∧ RC g w st.live u y := by
     intro j y hj
     simp only [List.getElem?_map, Option.map_eq_some_iff] at hj
     obtain ⟨d, hd, rfl⟩ := hj
     have hjl : j < Nat.min r.rows.length n * i.size := by grind
     have hjn : j < (news.take (Nat.min r.rows.length n * i.size)).length := by omega
     rw [hft, List.getElem?_take] at hd
     split at hd
     ·have hn' := List.getElem?_eq_getElem hjn
      have hn2 := hn'
      rw [List.getElem?_take, if_pos hjl] at hn2
      have hr := hrl.2.2 j _ d hn2 hd
      exact ⟨_, hn', hr.oneCell (hrl.2.1 d (List.mem_of_getElem? hd)), hr⟩
     omega
    have htoks : ∀ s ∈ (r.rows.take n).flatten.map ASlot.d, ∀ t ∈ s.toks, T t := by
     intro s hs t ht
     obtain ⟨d, _, rfl⟩ := List.mem_map.1 hs
     grind [ASlot.toks]
    have nothing : (r.rows.take n).flatten = [] → ∀ base cap, a.eval s = .slice base n cap →
      ∃ v w' g', (execOp a.eval oper).run P w = .ok (.value v) w' ∧ G g w g' w' ∧ SR N T g' w' (zu st (some (storeAt st.os id off ((r.rows.take n).flatten.map .d)))) a ∧ RS g' w' st.live v (.d (.int .i64 (Nat.min r.rows.length n))) := by
     intro h0 base cap hv
     have hz : news.take (Nat.min r.rows.length n * i.size) = [] := List.eq_nil_of_length_eq_zero (by grind)
     refine ⟨_, w, g, hrun _ _ w hv (fun ad _ => by rw [hz]; rfl) (fun _ => rfl), G.refl g w, ?_, .int _ _⟩
     rw [h0]
     exact hs.touch id hrow
    by_cases hnil : (r.rows.take n).flatten = []
    ·generalize hvv : a.eval s = v at hrv
     cases hrv with
     | ref b _ _ _ _ cap => grind
     | refnil ad => grind
    ·have hpos : 0 < (r.rows.take n).flatten.length := by
      grind
     generalize hvv : a.eval s = v at hrv
     cases hrv with
     | refnil ad => omega
     | ref b _ _ _ _ cap hg hcap hmx hsz =>
      have hn0 : n ≠ 0 := by grind
      have hin' := hin.resolve_left hn0
      obtain ⟨w', q1, q2, q3⟩ := SR.stored (P := P) (id := id) (off := off) (new := (r.rows.take n).flatten.map .d) (us := news.take (Nat.min r.rows.length n * i.size)) hs hg (by omega) (by grind)
       (by grind) hcells htoks
      exact ⟨_, w', g, hrun _ _ w' hvv (fun ad had => by grind) (fun h => by cases h), q2, q3, .int _ _⟩
   | _ => grind [Out.bad]
  | _ => grind [Out.bad]
end
end Go.Abs
