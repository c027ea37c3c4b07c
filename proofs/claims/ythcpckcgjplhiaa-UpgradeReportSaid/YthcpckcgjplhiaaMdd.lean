/- Texts Aj, Ak, Al, Am, An, Ao, Ap, Aq, Ar. -/
import Derived.Test.YthcpckcgjplhiaaMdc
import Derived.Calls
import Derived.Orders
import Derived.Tactics
import Derived.Laws.AppendOwn
import Derived.Laws.Slices
import Derived.Laws.Closers25
import Derived.Laws.StructEq
import Derived.Laws.BytesString
import Derived.Laws.CopyRow
/- The abstract layer, part 10: append, make, literals of slices, the bytes of a string. -/
namespace Go.Abs

section
variable {P : Program} {N tb : Nat} {T : Nat → Prop} {g : Ghost} {w : World} {st : St} {a : Act} {oper : Oper}

theorem getElem?_chunks : ∀ (n es : Nat) (l : List D), n * es ≤ l.length → (chunks es n l).flatten = l.take (n * es) ∧ (∀ r ∈ chunks es n l, r.length = es) ∧ (chunks es n l).length = n
  | 0, es, l, _ => by simp [chunks]
  | n + 1, es, l, h => by
    rw [Nat.succ_mul] at h
    obtain ⟨h1, h2, h3⟩ := getElem?_chunks n es (l.drop es) (by simp; omega)
    refine ⟨?_, ?_, by simp [chunks, h3]⟩
    · simp only [chunks, List.flatten_cons, h1]
      rw [Nat.succ_mul, Nat.add_comm, List.take_add]
    · intro r hr
      simp only [chunks, List.mem_cons] at hr
      rcases hr with rfl | hr
      · simp; omega
      · exact h2 r hr


theorem ref_read (hs : SR N T g w st a) {v : Value} {id off es n : Nat} (h : RV g w v (.ref id off es n)) (hok : refOk st.os id off es n) :
    (∀ row ∈ refRows st.os id off es n, row.length = es) ∧ (refRows st.os id off es n).length = n ∧ ∃ us : List Value, RL g w us (refRows st.os id off es n).flatten ∧
      ((n = 0 ∧ ∃ ad, v = .slice ad 0 0) ∨ ∃ b cap, v = .slice (some ⟨b, off, none⟩) n cap ∧ ∀ (j : Nat) (u : Value), us[j]? = some u → w.cell? ⟨b, off + j, none⟩ = some u) := by
  obtain ⟨h1, h2⟩ := hok
  obtain ⟨c1, c2, c3⟩ := getElem?_chunks n es (((objCells st.os id).drop off).map ASlot.cellD) (by simp; omega)
  refine ⟨c2, c3, ?_⟩
  show ∃ us : List Value, RL g w us (chunks es n (((objCells st.os id).drop off).map ASlot.cellD)).flatten ∧ _
  rw [c1]
  generalize hy : D.ref id off es n = y at h
  cases h with
  | ref b off' id' es' len cap hg hcap hmx hsz =>
    cases hy
    by_cases h0 : n * es = 0
    · refine ⟨[], ?_, .inr ⟨b, cap, rfl, by simp⟩⟩
      rw [h0]
      exact ⟨by simp, by simp, by simp⟩
    · obtain ⟨c, e, q1, q2, q3⟩ := ro_obj hs hg (by omega)
      have hlen : ((c.toList.drop off).take (n * es)).length = n * es := by simp; omega
      refine ⟨(c.toList.drop off).take (n * es), ⟨by rw [hlen]; simp; omega, ?_, ?_⟩, .inr ⟨b, cap, rfl, ?_⟩⟩
      · intro d hd
        rw [← List.map_take, List.mem_map] at hd
        obtain ⟨s, hs', rfl⟩ := hd
        have := List.all_eq_true.1 h2 s hs'
        cases s <;> simp_all [ASlot.isCellD, ASlot.cellD] <;> rfl
      · intro j u d hu hd
        rw [← List.map_take, List.getElem?_map, Option.map_eq_some_iff] at hd
        obtain ⟨s, hs', rfl⟩ := hd
        have hall := List.all_eq_true.1 h2 s (List.mem_of_getElem? hs')
        have hsj : (objCells st.os id)[off + j]? = some s := by rw [List.getElem?_take] at hs'; split at hs' <;> simp_all
        have huj : c[off + j]? = some u := by rw [List.getElem?_take] at hu; split at hu <;> simp_all
        obtain ⟨v, hv1, _, hv2⟩ := q3 (off + j) s hsj
        rw [huj] at hv1
        cases hv1
        exact (cellD_rv (st := st) hv2 hall).1
      · intro j u hu
        rw [List.getElem?_take] at hu
        split at hu
        · simpa [World.cell?, q1] using hu
        · cases hu
  | refnil ad id' off' es' =>
    cases hy
    refine ⟨[], ?_, .inl ⟨rfl, ad, rfl⟩⟩
    rw [Nat.zero_mul]
    exact ⟨by simp, by simp, by simp⟩
  | _ => cases hy

theorem gives_b2s_ref {s t e : TypeId} {x : Operand} {y : Opd} {r : Src} (h1 : (y.get st.fr).rows = none) (h2 : refSrc 1 st.os (y.get st.fr) = some r) (ho : oper.op = .convert s t x) (hsrc : P.underlying s = some (.slice e)) (he : P.underlying e = some (.int .u8)) (hdst : P.underlying t = some .string)
    (hx : opdOf x = some y) (hs : SR N T g w st a) (hob : (sem tb (.b2s y) st).ob) : Gives P g w st a oper (sem tb (.b2s y) st).v := by
  simp only [sem, h1, h2] at hob ⊢
  obtain ⟨hok, hrok, l, hl⟩ := hob
  have r1 := opd_rs hs hx hok
  cases hy : y.get st.fr with
  | d p =>
    cases p with
    | ref id off es n =>
      rw [hy] at h2 r1
      simp only [refSrc] at h2
      split at h2
      · rename_i hes
        subst hes
        cases h2
        obtain ⟨c1, c2, us, c3, c4⟩ := ref_read hs (rs_d r1) hrok
        simp only at hl
        rw [hl] at c2 c3 ⊢
        rw [rowsBytes_byteRows]
        refine ⟨.string ⟨l.toArray⟩, ?_, .str l⟩
        have hflat := flat_byteRows l
        have hln : l.length = n := by simpa [byteRows] using c2
        have hus : us = l.map fun c => Value.int .u8 c.toNat := by
          refine List.ext_getElem? fun j => ?_
          rcases Nat.lt_or_ge j l.length with hj | hj
          · have hlt : j < us.length := by rw [c3.1, hflat]; simpa using hj
            rw [List.getElem?_eq_getElem hlt, List.getElem?_map, List.getElem?_eq_getElem hj]
            have := c3.2.2 j us[j] (D.int .u8 l[j].toNat) (List.getElem?_eq_getElem hlt) (by rw [hflat]; simp [hj])
            rw [rv_int this]; rfl
          · rw [List.getElem?_eq_none (by rw [c3.1, hflat]; simpa using hj), List.getElem?_eq_none (by simpa using hj)]
        rcases c4 with ⟨h0, ad, hv⟩ | ⟨b, cap, hv, hc⟩
        · have : l = [] := List.eq_nil_of_length_eq_zero (by omega)
          subst this
          cases ad with
          | none =>
            simp [execOp, ho, hv, run_convert_bytes_string w s t e _ _ _ hsrc he hdst, Conv.bytesToString]
            rfl
          | some a0 =>
            have hload : (loadCells a0 0).run P w = .ok (([] : List Int).map (Value.int .u8)).toArray w := by simpa using run_loadCells_list (P := P) w a0 [] (by simp)
            have hrun := run_bytesToString w a0 0 0 [] hload
            simp only [execOp, ho, hv, Sem.run_bind, run_convert_bytes_string w s t e _ _ _ hsrc he hdst, hrun]
            simp [ByteArray.empty, ByteArray.emptyWithCapacity]
            rfl
        · have hload : (loadCells ⟨b, off, none⟩ n).run P w = .ok ((l.map fun c => (c.toNat : Int)).map (Value.int .u8)).toArray w := by
            have := run_loadCells_list (P := P) w ⟨b, off, none⟩ ((l.map fun c => (c.toNat : Int)).map (Value.int .u8)) (by
              intro j v hj
              rw [Addr.add_lit]
              apply hc
              rw [hus]
              simpa using hj)
            simpa [hln] using this
          have hrun := run_bytesToString w ⟨b, off, none⟩ n cap (l.map fun c => (c.toNat : Int)) hload
          rw [foldl_push_bytes] at hrun
          simp only [execOp, ho, hv, Sem.run_bind, run_convert_bytes_string w s t e _ _ _ hsrc he hdst, hrun]
          simp [ByteArray.empty, ByteArray.emptyWithCapacity]
          rfl
      · cases h2
    | _ => rw [hy] at h2; simp [refSrc] at h2
  | _ => rw [hy] at h2; simp [refSrc] at h2

/-- The source of an append: how many elements, and their cells. -/
def Source (P : Program) (size : Nat) (x : Value) (n : Nat) (w : World) (news : List Value) : Prop :=
  (Builtin.lenOf x).run P w = .ok n w ∧ (Builtin.firstCells size n x).run P w = .ok news.toArray w

theorem run_append_fits {t u ty e : TypeId} {i : TypeInfo} (ht : P.underlying t = some (.slice e)) (hi : P.info? e = some i) (hu : (∃ f, P.underlying u = some (.slice f)) ∨ P.underlying u = some .string)
    (ad : Addr) (sLen sCap : Nat) {x : Value} {n : Nat} {news : List Value} (hx : Source P i.size x n w news) (hn : sLen + n ≤ sCap) :
    (Builtin.append_ #[t, u] ty #[.slice (some ad) sLen sCap, x]).run P w =
      ((storeCells (ad.add (sLen * i.size)) news).run P w).andThen fun _ w' => .ok (.slice (some ad) (sLen + n) sCap) w' := by
  obtain ⟨h1, h2⟩ := hx
  rcases hu with ⟨f, hu⟩ | hu
  · simp only [Builtin.append_, Sem.run_bind, run_underlying ht, run_underlying hu, run_sizeOf_info hi, Result.andThen_ok, h1, List.getElem?_toArray, List.getElem?_cons_zero, List.getElem?_cons_succ, Sem.run_pure, Bool.false_eq_true, if_false, hn, if_true, h2, Bool.not_false]
  · simp only [Builtin.append_, Sem.run_bind, run_underlying ht, run_underlying hu, run_sizeOf_info hi, Result.andThen_ok, h1, List.getElem?_toArray, List.getElem?_cons_zero, List.getElem?_cons_succ, Sem.run_pure, Bool.false_eq_true, if_false, hn, if_true, h2, Bool.not_false]

theorem run_append_nofits {t u ty e : TypeId} {i : TypeInfo} (ht : P.underlying t = some (.slice e)) (hi : P.info? e = some i) (hu : (∃ f, P.underlying u = some (.slice f)) ∨ P.underlying u = some .string)
    (sLen sCap : Nat) {x : Value} {n : Nat} {news : List Value} (hx : Source P i.size x n w news) (hn : sLen + n ≤ sCap) :
    (Builtin.append_ #[t, u] ty #[.slice none sLen sCap, x]).run P w = .ok (.slice none (sLen + n) sCap) w := by
  obtain ⟨h1, h2⟩ := hx
  rcases hu with ⟨f, hu⟩ | hu
  · simp only [Builtin.append_, Sem.run_bind, run_underlying ht, run_underlying hu, run_sizeOf_info hi, Result.andThen_ok, h1, List.getElem?_toArray, List.getElem?_cons_zero, List.getElem?_cons_succ, Sem.run_pure, Bool.false_eq_true, if_false, hn, if_true, h2, Bool.not_false]
  · simp only [Builtin.append_, Sem.run_bind, run_underlying ht, run_underlying hu, run_sizeOf_info hi, Result.andThen_ok, h1, List.getElem?_toArray, List.getElem?_cons_zero, List.getElem?_cons_succ, Sem.run_pure, Bool.false_eq_true, if_false, hn, if_true, h2, Bool.not_false]

theorem run_append_more {t u ty e : TypeId} {i : TypeInfo} {z : Value} (ht : P.underlying t = some (.slice e)) (hi : P.info? e = some i) (hz : i.zero = some z) (hu : (∃ f, P.underlying u = some (.slice f)) ∨ P.underlying u = some .string) (hb0 : i.bytes ≠ 0)
    (base : Option Addr) (sLen sCap : Nat) {x : Value} {n : Nat} {olds news : List Value} (hl : (Builtin.lenOf x).run P w = .ok n w) (hx : (Builtin.firstCells i.size n x).run P w.drew = .ok news.toArray w.drew)
    (ho : (Builtin.firstCells i.size sLen (.slice base sLen sCap)).run P w.drew = .ok olds.toArray w.drew)
    (hn : sCap < sLen + n) (hfit : Builtin.nextslicecap (sLen + n) sCap * i.bytes ≤ 281474976710656) :
    (Builtin.append_ #[t, u] ty #[.slice base sLen sCap, x]).run P w =
      .ok (.slice (some ⟨w.heap.size, 0, none⟩) (sLen + n) (grownCap w (sLen + n) sCap e))
        (w.drew.alloc (.cells (olds.toArray ++ news.toArray ++ Builtin.zeroCells z.cells (grownCap w (sLen + n) sCap e - (sLen + n))) e)) := by
  have hn' : ¬ (sLen + n ≤ sCap) := by omega
  have h48' : ¬ (281474976710656 < Builtin.nextslicecap (sLen + n) sCap * i.bytes) := by omega
  have hb : ¬ (((sLen + n : Nat) : Int) > IntKind.i64.max ∧ (false = true ∨ i.bytes = 0)) := by simp [hb0]
  rcases hu with ⟨f, hu⟩ | hu
  · simp [Builtin.append_, run_underlying ht, run_underlying hu, run_sizeOf_info hi, typeInfo, zeroValue, hi, hz, hl, hn', hx, ho, h48', hb0, Question.forced, newRow, grownCap]
    congr 2
    apply Array.ext'
    simp
  · simp [Builtin.append_, run_underlying ht, run_underlying hu, run_sizeOf_info hi, typeInfo, zeroValue, hi, hz, hl, hn', hx, ho, h48', hb0, Question.forced, newRow, grownCap]
    congr 2
    apply Array.ext'
    simp

theorem rl_of_sl {v : Value} {es : Nat} {rows : List (List D)} (h : RV g w v (.sl es rows)) :
    ∃ vs : List Value, RL g w vs rows.flatten ∧ ∃ cap, ((∃ ad, v = .slice ad 0 cap ∧ (ad = none → cap = 0)) ∧ rows = []) ∨ (∃ b off, v = .slice (some ⟨b, off, none⟩) rows.length cap ∧ (∀ r ∈ rows, r.length = es) ∧
      ∀ (j : Nat) (u : Value), vs[j]? = some u → w.cell? ((⟨b, off, none⟩ : Addr).add j) = some u) := by
  rcases rv_sl h with ⟨⟨ad, cp, hv, hn0⟩, rfl⟩ | ⟨b, off, cap, n, o, f, hv, hg, hn, hcap, hes, hcl, hcell, hrv⟩
  · exact ⟨[], ⟨rfl, by simp, by simp⟩, cp, .inl ⟨⟨ad, hv, hn0⟩, rfl⟩⟩
  · refine ⟨(List.range rows.flatten.length).map f, ⟨by simp, hcl, ?_⟩, cap, .inr ⟨b, off, hv, hes, ?_⟩⟩
    · intro j u d hj hd
      simp only [List.getElem?_map, Option.map_eq_some_iff] at hj
      obtain ⟨i, hi, rfl⟩ := hj
      have hlt : j < rows.flatten.length := (List.getElem?_eq_some_iff.1 hd).1
      rw [List.getElem?_range hlt] at hi
      cases hi
      exact hrv j d hd
    · intro j u hj
      simp only [List.getElem?_map, Option.map_eq_some_iff] at hj
      obtain ⟨i, hi, rfl⟩ := hj
      have hlt : j < rows.flatten.length := by have := (List.getElem?_eq_some_iff.1 hi).1; simpa using this
      rw [List.getElem?_range hlt] at hi
      cases hi
      rw [Addr.add_lit]
      exact hcell j _ (List.getElem?_eq_getElem hlt)

theorem source_rows {live : List Nat} {v : Value} {s : ASlot} {es : Nat} {r : List (List D)} (h : RS g w live v s) (hr : (∃ l, s = .d (.str l) ∧ es = 1 ∧ r = byteRows l) ∨ ∃ e, s.rows = some (e, r) ∧ (e = es ∨ r = [])) :
    (∀ row ∈ r, row.length = es) ∧ ∃ news : List Value, RL g w news r.flatten ∧ Source P es v r.length w news ∧ (Builtin.firstCells es r.length v).run P w.drew = .ok news.toArray w.drew ∧ ∀ k, k ≤ r.length → (Builtin.firstCells es k v).run P w = .ok (news.take (k * es)).toArray w := by
  rcases hr with ⟨l, rfl, rfl, rfl⟩ | hr'
  · · have hv := rv_str (rs_d h)
      subst hv
      have hlen : (byteRows l).length = l.length := by simp [byteRows]
      have hext : (⟨l.toArray⟩ : ByteArray).extract 0 l.length = ⟨l.toArray⟩ := by
        apply ByteArray.ext
        simp [ByteArray.data_extract]
      have hcells : ∀ w0 : World, (Builtin.firstCells 1 (byteRows l).length (.string ⟨l.toArray⟩)).run P w0 = .ok (l.map fun b => Value.int .u8 b.toNat).toArray w0 := by
        intro w0
        rw [hlen]
        simp [Builtin.firstCells, hext]
      have hpre : ∀ k, k ≤ (byteRows l).length → (Builtin.firstCells 1 k (.string ⟨l.toArray⟩)).run P w = .ok ((l.map fun b => Value.int .u8 b.toNat).take (k * 1)).toArray w := by
        intro k hk
        rw [hlen] at hk
        simp [Builtin.firstCells, ← List.map_take]
      refine ⟨by simp [byteRows], l.map fun b => Value.int .u8 b.toNat, ?_, ⟨?_, hcells w⟩, hcells w.drew, hpre⟩
      · rw [flat_byteRows]
        refine ⟨by simp, fun d hd => by obtain ⟨c, _, rfl⟩ := List.mem_map.1 hd; rfl, fun j u d hu hd => ?_⟩
        simp only [List.getElem?_map, Option.map_eq_some_iff] at hu hd
        obtain ⟨c, hc, rfl⟩ := hu
        obtain ⟨c', hc', rfl⟩ := hd
        rw [hc] at hc'; cases hc'
        exact .int _ _
      · simp [Builtin.lenOf, hlen, size_mk]
  · obtain ⟨e, hrow, hc⟩ := hr'
    obtain ⟨vs, hrl, cap, hcase⟩ := rl_of_sl (rs_rows h hrow)
    rcases hcase with ⟨⟨ad, rfl, _⟩, rfl⟩ | ⟨b, off, rfl, hes, hcell⟩
    · have : vs = [] := by have := hrl.1; simpa using this
      subst this
      have hfc : ∀ w0 : World, (Builtin.firstCells es 0 (.slice ad 0 cap)).run P w0 = .ok #[] w0 := by
        intro w0
        cases ad with
        | none => simp [Builtin.firstCells]
        | some a0 => exact run_firstCells_some (P := P) w0 es 0 a0 _ _ [] (by simp) (by simp)
      exact ⟨by simp, [], hrl, ⟨by simp [Builtin.lenOf], hfc w⟩, hfc w.drew, fun k hk => (by have : k = 0 := (by simpa using hk); subst this; simpa using hfc w)⟩
    · have hes' : ∀ row ∈ r, row.length = es := by
        rcases hc with rfl | rfl
        · exact hes
        · simp
      have hl : vs.length = r.length * es := by rw [hrl.1, flat_length hes']
      refine ⟨hes', vs, hrl, ⟨by simp [Builtin.lenOf], ?_⟩, ?_, fun k hk => ?_⟩
      · exact run_firstCells_some (P := P) w es r.length _ _ _ vs hl hcell
      · exact run_firstCells_some (P := P) w.drew es r.length _ _ _ vs hl (by simpa using hcell)
      · have hke : k * es ≤ r.length * es := Nat.mul_le_mul_right _ hk
        refine run_firstCells_some (P := P) w es k _ _ _ _ (by rw [List.length_take]; omega) (fun j u hj => hcell j u ?_)
        rw [List.getElem?_take] at hj
        split at hj
        · exact hj
        · cases hj

theorem source_of (hs : SR N T g w st a) {v : Value} {s : ASlot} {es : Nat} {r : Src} (h : RS g w st.live v s) (hr : srcOf es st.os s = some r) (hok : r.ok) :
    (∀ row ∈ r.rows, row.length = es) ∧ ∃ news : List Value, RL g w news r.rows.flatten ∧ Source P es v r.rows.length w news ∧ (Builtin.firstCells es r.rows.length v).run P w.drew = .ok news.toArray w.drew ∧ ∀ k, k ≤ r.rows.length → (Builtin.firstCells es k v).run P w = .ok (news.take (k * es)).toArray w := by
  unfold srcOf at hr
  split at hr
  · rename_i l
    split at hr
    · rename_i h1; cases hr; exact source_rows h (.inl ⟨l, rfl, h1, rfl⟩)
    · cases hr
  · split at hr
    · rename_i e r' hrow
      split at hr
      · rename_i hc; cases hr; exact source_rows h (.inr ⟨e, hrow, hc⟩)
      · cases hr
    · unfold refSrc at hr
      split at hr
      · rename_i id off e n _ _
        split at hr
        · rename_i he
          subst he
          cases hr
          obtain ⟨c1, c2, us, c3, c4⟩ := ref_read hs (rs_d h) hok
          refine ⟨c1, us, c3, ?_⟩
          simp only
          rw [c2]
          rcases c4 with ⟨rfl, ad, rfl⟩ | ⟨b, cap, rfl, hc⟩
          · have : us = [] := by
              have h1 := c3.1
              rw [flat_length c1, c2] at h1
              exact List.eq_nil_of_length_eq_zero (by simpa using h1)
            subst this
            have hfc : ∀ w0 : World, (Builtin.firstCells e 0 (.slice ad 0 0)).run P w0 = .ok #[] w0 := by
              intro w0
              cases ad with
              | none => simp [Builtin.firstCells]
              | some a0 => exact run_firstCells_some (P := P) w0 e 0 a0 _ _ [] (by simp) (by simp)
            exact ⟨⟨by simp [Builtin.lenOf], hfc w⟩, hfc w.drew, fun k hk => (by have : k = 0 := (by omega); subst this; simpa using hfc w)⟩
          · have hl : us.length = n * e := by rw [c3.1, flat_length c1, c2]
            refine ⟨⟨by simp [Builtin.lenOf], ?_⟩, ?_, fun k hk => ?_⟩
            · exact run_firstCells_some (P := P) w e n _ _ _ us hl (fun j u hj => by rw [Addr.add_lit]; exact hc j u hj)
            · exact run_firstCells_some (P := P) w.drew e n _ _ _ us hl (fun j u hj => by rw [Addr.add_lit]; exact hc j u hj)
            · have hke : k * e ≤ n * e := Nat.mul_le_mul_right _ hk
              refine run_firstCells_some (P := P) w e k _ _ _ _ (by rw [List.length_take]; omega) (fun j u hj => ?_)
              rw [List.getElem?_take] at hj
              split at hj
              · rw [Addr.add_lit]; exact hc j u hj
              · cases hj
        · cases hr
      · cases hr

end
end Go.Abs

/- The abstract layer, part 11: append. -/
namespace Go.Abs

section
variable {P : Program} {N tb : Nat} {T : Nat → Prop} {g : Ghost} {w : World} {st : St} {a : Act} {oper : Oper} {live live' : List Nat}

theorem rv_sl_es {v : Value} {e es : Nat} {l : List (List D)} (h : RV g w v (.sl e l)) (he : e = es ∨ l = []) : RV g w v (.sl es l) := by
  rcases he with rfl | rfl
  · exact h
  · rcases rv_sl h with ⟨⟨ad, cp, rfl, hn0⟩, _⟩ | ⟨b, off, cap, n, o, f, rfl, hg, hn, hcap, hes, hcl, hcell, hrv⟩
    · exact .nilsl ad cp es hn0
    · exact .sl b off cap es n o [] f hg hn hcap (by simp) hcl hcell hrv

theorem rows_es {v : Value} {es : Nat} {l : List (List D)} (h : RV g w v (.sl es l)) : ∀ r ∈ l, r.length = es := by
  rcases rv_sl h with ⟨_, rfl⟩ | ⟨b, off, cap, n, o, f, _, _, _, _, hes, _⟩
  · simp
  · exact hes

/-- The cells of a slice, as the model's 'firstCells' gives them, and how they read. -/
theorem olds_of {v : Value} {es : Nat} {l : List (List D)} (h : RV g w v (.sl es l)) :
    ∃ olds : List Value, RL g w olds l.flatten ∧ (Builtin.firstCells es l.length v).run P w.drew = .ok olds.toArray w.drew := by
  obtain ⟨vs, hrl, cap, hcase⟩ := rl_of_sl h
  rcases hcase with ⟨⟨ad, rfl, _⟩, rfl⟩ | ⟨b, off, rfl, hes, hcell⟩
  · have : vs = [] := by have := hrl.1; simpa using this
    subst this
    cases ad with
    | none => exact ⟨[], hrl, by simp [Builtin.firstCells]⟩
    | some a0 => exact ⟨[], hrl, run_firstCells_some (P := P) w.drew es 0 a0 _ _ [] (by simp) (by simp)⟩
  · exact ⟨vs, hrl, run_firstCells_some (P := P) w.drew es l.length _ _ _ vs (by rw [hrl.1, flat_length hes]) (by simpa using hcell)⟩

theorem RL.quiet {g' : Ghost} {w' : World} {vs : List Value} {ds : List D} (h : RL g w vs ds) (hd : Dom g w) (hq : Qt T g w g' w' live live') : RL g' w' vs ds :=
  ⟨h.1, h.2.1, fun j v d hv hd' => hq.rv hd (h.2.2 j v d hv hd')⟩

/-- A row of a new block, read as a slice. -/
theorem rv_newRow {g' : Ghost} {w' : World} {b cap : Nat} {c : Array Value} {e : TypeId} {fz : Nat × Nat} {t : Option Nat} {es : Nat} {rows : List (List D)} {vs : List Value} {n : Nat} (hh : w'.heap[b]? = some (.cells c e fz))
    (hg : g' b = .row n t) (hn : rows.flatten.length ≤ n) (hes : ∀ r ∈ rows, r.length = es) (hcap : rows.length ≤ cap) (hrl : RL g' w' vs rows.flatten) (hc : ∀ (j : Nat) (u : Value), vs[j]? = some u → c[j]? = some u) :
    RV g' w' (.slice (some ⟨b, 0, none⟩) rows.length cap) (.sl es rows) := by
  refine .sl b 0 cap es n t rows (fun j => vs.getD j undef) hg (by omega) hcap hes hrl.2.1 (fun j d hj => ?_) (fun j d hj => ?_)
  · have hlt : j < vs.length := by rw [hrl.1]; exact (List.getElem?_eq_some_iff.1 hj).1
    have := hc j vs[j] (List.getElem?_eq_getElem hlt)
    simp [World.cell?, hh, this, List.getD, hlt]
  · have hlt : j < vs.length := by rw [hrl.1]; exact (List.getElem?_eq_some_iff.1 hj).1
    have : vs.getD j undef = vs[j] := by simp [List.getD, hlt]
    simp only [this]
    exact hrl.2.2 j _ d (List.getElem?_eq_getElem hlt) hj

theorem size_zeros (z : Array Value) (n : Nat) : (Builtin.zeroCells z n).size = n * z.size := size_zeroCells z n

theorem append_more {t u ty e : TypeId} {i : TypeInfo} {z : Value} (hd : Dom g w) (ht : P.underlying t = some (.slice e)) (hi : P.info? e = some i) (hz : i.zero = some z) (hzs : z.cells.size = i.size)
    (hu : (∃ f, P.underlying u = some (.slice f)) ∨ P.underlying u = some .string) (hb0 : i.bytes ≠ 0)
    {base : Option Addr} {sCap : Nat} {x : Value} {l r : List (List D)} {news : List Value} (hs : RV g w (.slice base l.length sCap) (.sl i.size l))
    (hl : (Builtin.lenOf x).run P w = .ok r.length w) (hx : (Builtin.firstCells i.size r.length x).run P w.drew = .ok news.toArray w.drew) (hrl : RL g w news r.flatten) (hes : ∀ row ∈ r, row.length = i.size)
    (hn : sCap < l.length + r.length) (h63 : l.length + r.length ≤ 9223372036854775807) (hby : (l.length + r.length) * i.bytes ≤ 140737488355328) (tk : Nat)
    (hlive : ∀ t, T t → t ∈ live' → t ∈ live) :
    ∃ v w' g', (Builtin.append_ #[t, u] ty #[.slice base l.length sCap, x]).run P w = .ok v w' ∧ Qt T g w g' w' live live' ∧ RC g' w' live' v (.own tk i.size (l ++ r)) := by
  obtain ⟨olds, ho1, ho2⟩ := olds_of (P := P) hs
  have hfit : Builtin.nextslicecap (l.length + r.length) sCap * i.bytes ≤ 281474976710656 := growslice_fits (by omega) hby
  have hrun := run_append_more (P := P) (w := w) (ty := ty) ht hi hz hu hb0 base l.length sCap hl hx ho2 hn hfit
  have hq : Qt T g w (g.at w.heap.size (.row ((l.length + r.length) * i.size) (some tk))) (w.drew.alloc (.cells (olds.toArray ++ news.toArray ++ Builtin.zeroCells z.cells (grownCap w (l.length + r.length) sCap e - (l.length + r.length))) e)) live live' :=
    Qt.newRow hd w.drew rfl rfl rfl rfl _ _ (some tk) hlive
  have hge := grownCap_ge w (l.length + r.length) sCap e
  have hle := grownCap_le_maxLen w (l.length + r.length) sCap e (by unfold maxLen; omega)
  have hesl := rows_es hs
  have hesa : ∀ row ∈ l ++ r, row.length = i.size := fun row hr => by rcases List.mem_append.1 hr with h | h; exact hesl row h; exact hes row h
  have hfl : (l ++ r).flatten.length = (l.length + r.length) * i.size := by rw [flat_length hesa, List.length_append]
  have hnew : (w.drew.alloc (.cells (olds.toArray ++ news.toArray ++ Builtin.zeroCells z.cells (grownCap w (l.length + r.length) sCap e - (l.length + r.length))) e)).heap[w.heap.size]? = some (.cells (olds.toArray ++ news.toArray ++ Builtin.zeroCells z.cells (grownCap w (l.length + r.length) sCap e - (l.length + r.length))) e (0, 0)) := heap_alloc_new w.drew _
  have hrl2 : RL g w (olds ++ news) (l ++ r).flatten := by rw [List.flatten_append]; exact ho1.append hrl
  have hrv := rv_newRow (cap := grownCap w (l.length + r.length) sCap e) (rows := l ++ r) hnew (Ghost.at_same _ _ _) (Nat.le_of_eq hfl) hesa (by rw [List.length_append]; exact hge) (hrl2.quiet hd hq) (fun j u hj => by
    have hlt : j < (olds ++ news).length := (List.getElem?_eq_some_iff.1 hj).1
    rw [Array.getElem?_append_left (by simp at hlt ⊢; exact hlt)]
    have : (olds.toArray ++ news.toArray)[j]? = (olds ++ news)[j]? := by simp
    rw [this]
    exact hj)
  rw [List.length_append] at hrv
  refine ⟨_, _, _, hrun, hq, hrv, fun _ => .inr ⟨w.heap.size, _, _, e, by rw [List.length_append], ?_, hnew, ?_, hle, ?_⟩⟩
  · rw [Ghost.at_same, List.length_append]
  · rw [List.length_append]; exact hge
  · have h1 : olds.length = l.length * i.size := by rw [ho1.1, flat_length hesl]
    have h2 : news.length = r.length * i.size := by rw [hrl.1, flat_length hes]
    simp only [Array.size_append, List.size_toArray, size_zeros, hzs, h1, h2, ← Nat.add_mul]
    refine Nat.mul_le_mul_right _ ?_
    omega

theorem append_fits {t u ty e : TypeId} {i : TypeInfo} (hd : Dom g w) (ht : P.underlying t = some (.slice e)) (hi : P.info? e = some i)
    (hu : (∃ f, P.underlying u = some (.slice f)) ∨ P.underlying u = some .string)
    {b cap tk0 : Nat} {cur : Array Value} {te : TypeId} {x : Value} {l r : List (List D)} {news : List Value} (hs : RV g w (.slice (some ⟨b, 0, none⟩) l.length cap) (.sl i.size l))
    (hg : g b = .row (l.length * i.size) (some tk0)) (hh : w.heap[b]? = some (.cells cur te (0, 0))) (hcm : cap ≤ maxLen) (hcs : cap * i.size ≤ cur.size)
    (hx : Source P i.size x r.length w news) (hrl : RL g w news r.flatten) (hes : ∀ row ∈ r, row.length = i.size)
    (hn : l.length + r.length ≤ cap) (tk : Nat) (hlive : ∀ t, T t → t ∈ live' → t ∈ live ∧ t ≠ tk0) :
    ∃ v w' g', (Builtin.append_ #[t, u] ty #[.slice (some ⟨b, 0, none⟩) l.length cap, x]).run P w = .ok v w' ∧ Qt T g w g' w' live live' ∧ RC g' w' live' v (.own tk i.size (l ++ r)) := by
  have hrun := run_append_fits (P := P) (w := w) (ty := ty) ht hi hu ⟨b, 0, none⟩ l.length cap hx hn
  have hesl := rows_es hs
  have hesa : ∀ row ∈ l ++ r, row.length = i.size := fun row hr => by rcases List.mem_append.1 hr with h | h; exact hesl row h; exact hes row h
  have h1 : l.flatten.length = l.length * i.size := flat_length hesl
  have h2 : news.length = r.length * i.size := by rw [hrl.1, flat_length hes]
  have hfl : (l ++ r).flatten.length = (l.length + r.length) * i.size := by rw [flat_length hesa, List.length_append]
  have hone : ∀ v ∈ news, v.oneCell' = true := by
    intro v hv
    obtain ⟨j, hj⟩ := List.getElem?_of_mem hv
    have hlt : j < r.flatten.length := by rw [← hrl.1]; exact (List.getElem?_eq_some_iff.1 hj).1
    exact (hrl.2.2 j v _ hj (List.getElem?_eq_getElem hlt)).oneCell (hrl.2.1 _ (List.getElem_mem hlt))
  have hsz : (l.length + r.length) * i.size ≤ cap * i.size := Nat.mul_le_mul_right _ hn
  rw [Nat.add_mul] at hsz
  have hst := run_storeCells_at P b (l.length * i.size) te news 0 cur w hh (by omega) hone
  rw [Addr.add_lit, Nat.zero_add] at hrun
  rw [hst] at hrun
  simp only [Nat.add_zero, Result.andThen_ok] at hrun
  generalize hcur' : (cur.toList.take (l.length * i.size) ++ news ++ cur.toList.drop (l.length * i.size + news.length)).toArray = cur' at hrun
  have hb : b < w.heap.size := hd.lt_row hg
  have hheap : (w.setRow b cur').heap[b]? = some (.cells cur' te (0, 0)) := setRow_heap w b cur cur' te (0, 0) hh
  have hother : ∀ k, k ≠ b → (w.setRow b cur').heap[k]? = w.heap[k]? := fun k hk => setRow_other w b k cur' hk
  have hsize : (w.setRow b cur').heap.size = w.heap.size := by simp [World.setRow]
  have hlen' : cap * i.size ≤ cur'.size := by
    rw [← hcur']
    simp only [List.size_toArray, List.length_append, List.length_take, List.length_drop, Array.length_toList]
    omega
  have hkeep : ∀ j, j < l.length * i.size → cur'[j]? = cur[j]? := by
    intro j hj
    rw [← hcur']
    have hle : l.length * i.size ≤ cur.toList.length := by have hq : cur.toList.length = cur.size := Array.length_toList; omega
    simp only [List.getElem?_toArray, List.append_assoc]
    rw [List.getElem?_append_left (by rw [List.length_take]; omega), List.getElem?_take_of_lt hj]
    simp
  have hput : ∀ (j : Nat) (v : Value), news[j]? = some v → cur'[l.length * i.size + j]? = some v := by
    intro j v hj
    have hlt : j < news.length := (List.getElem?_eq_some_iff.1 hj).1
    have hle : (cur.toList.take (l.length * i.size)).length = l.length * i.size := by have hq : cur.toList.length = cur.size := Array.length_toList; rw [List.length_take]; omega
    rw [← hcur']
    simp only [List.getElem?_toArray, List.append_assoc]
    rw [List.getElem?_append_right (by omega), hle, Nat.add_sub_cancel_left, List.getElem?_append_left hlt]
    exact hj
  have hq : Qt T g w (g.at b (.row ((l.length + r.length) * i.size) (some tk))) (w.setRow b cur') live live' := by
    have hgo : ∀ k, k ≠ b → g.at b (.row ((l.length + r.length) * i.size) (some tk)) k = g k := fun k hk => Ghost.at_ne g _ hk
    refine ⟨⟨rfl, rfl, rfl, by omega, fun k hk hgk => ?_, fun k m hk hgk => ?_, fun k m t' hk hgk => ?_, fun k id hk hgk => ?_⟩, fun k hk => ?_, fun k id hgk => ?_, fun k id hgk => ?_, fun k m t' htb htl hgk => ?_, fun t' h h' => (hlive t' h h').1, fun k t' htb htl hgk => ?_⟩
    · have : k ≠ b := by rintro rfl; rw [hg] at hgk; cases hgk
      exact ⟨hother k this, by rw [hgo k this]; exact hgk⟩
    · have : k ≠ b := by rintro rfl; rw [hg] at hgk; cases hgk
      exact ⟨hother k this, by rw [hgo k this]; exact hgk⟩
    · by_cases hkb : k = b
      · subst hkb
        rw [hg] at hgk
        cases hgk
        refine ⟨_, _, Ghost.at_same _ _ _, Nat.mul_le_mul_right _ (by omega), fun j v hj hv => ?_⟩
        simp only [World.cell?, hh, hheap, Option.isSome_none, Bool.false_eq_true, if_false] at hv ⊢
        rw [hkeep j hj]
        exact hv
      · exact ⟨m, some t', by rw [hgo k hkb]; exact hgk, Nat.le_refl _, fun j v _ hv => by rw [cell_same (hother k hkb)]; exact hv⟩
    · have : k ≠ b := by rintro rfl; rw [hg] at hgk; cases hgk
      exact ⟨by rw [hgo k this]; exact hgk, Nat.le_of_eq (bsize_same (hother k this)).symm⟩
    · have : k ≠ b := by omega
      rw [hgo k this]; exact hd k (by omega)
    · have : k ≠ b := by rintro rfl; rw [hg] at hgk; cases hgk
      exact hother k this
    · have : k ≠ b := by rintro rfl; rw [Ghost.at_same] at hgk; cases hgk
      rw [hgo k this] at hgk; exact hgk
    · have : k ≠ b := by rintro rfl; rw [hg] at hgk; cases hgk; exact (hlive _ htb htl).2 rfl
      exact ⟨by rw [hgo k this]; exact hgk, hother k this⟩
    · have : k ≠ b := by rintro rfl; rw [hg] at hgk; cases hgk
      exact ⟨by rw [hgo k this]; exact hgk, hother k this⟩
  obtain ⟨vs, hvs, c0, hcase⟩ := rl_of_sl hs
  have hvs' : ∀ (j : Nat) (u : Value), vs[j]? = some u → cur[j]? = some u := by
    rcases hcase with ⟨_, hnil⟩ | ⟨b', off', h, _, hcell⟩
    · intro j u hj
      have hv0 : vs = [] := by have := hvs.1; rw [hnil] at this; simpa using this
      rw [hv0] at hj
      simp at hj
    · cases h
      intro j u hj
      have := hcell j u hj
      rw [Addr.add_lit, Nat.zero_add] at this
      simpa [World.cell?, hh] using this
  have hrl2 : RL g w (vs ++ news) (l ++ r).flatten := by rw [List.flatten_append]; exact hvs.append hrl
  have hvl : vs.length = l.length * i.size := by rw [hvs.1, h1]
  have hrv := rv_newRow (cap := cap) (rows := l ++ r) hheap (Ghost.at_same _ _ _) (Nat.le_of_eq hfl) hesa (by rw [List.length_append]; exact hn) (hrl2.quiet hd hq) (fun j u hj => by
    by_cases hjl : j < vs.length
    · rw [List.getElem?_append_left hjl] at hj
      rw [hkeep j (by omega)]
      exact hvs' j u hj
    · rw [List.getElem?_append_right (by omega)] at hj
      have := hput (j - vs.length) u hj
      rwa [show l.length * i.size + (j - vs.length) = j by omega] at this)
  rw [List.length_append] at hrv
  refine ⟨_, _, _, hrun, hq, hrv, fun _ => .inr ⟨b, cap, cur', te, by rw [List.length_append], ?_, hheap, ?_, hcm, hlen'⟩⟩
  · rw [Ghost.at_same, List.length_append]
  · rw [List.length_append]; exact hn

/-- The elements of a slice that is ours alone. -/
theorem olds_uni {t es : Nat} {l : List (List D)} {v : Value} (h : UniOk g w t es l v) :
    ∃ base cap olds, v = .slice base l.length cap ∧ l.length ≤ cap ∧ (∀ r ∈ l, r.length = es) ∧ RL g w olds l.flatten ∧ (Builtin.firstCells es l.length v).run P w.drew = .ok olds.toArray w.drew := by
  rcases h with ⟨ad, rfl, rfl⟩ | ⟨b, cap, cur, e, rfl, h2, h3, h4, h5, h6, h7, h8⟩
  · refine ⟨ad, 0, [], rfl, Nat.le_refl _, by simp, ⟨by simp, by simp, by simp⟩, ?_⟩
    cases ad with
    | none => simp [Builtin.firstCells]
    | some a0 => exact run_firstCells_some (P := P) w.drew es 0 a0 _ _ [] (by simp) (by simp)
  · have hfl : l.flatten.length = l.length * es := flat_length h7
    have hrow : l.length * es ≤ cap * es := Nat.mul_le_mul_right _ h4
    have hlen : (cur.toList.take (l.length * es)).length = l.length * es := by have hq : cur.toList.length = cur.size := Array.length_toList; rw [List.length_take]; omega
    refine ⟨_, cap, cur.toList.take (l.length * es), rfl, h4, h7, ⟨by rw [hlen, hfl], fun d hd => ?_, fun j v d hv hd => ?_⟩, ?_⟩
    · obtain ⟨j, hj⟩ := List.getElem?_of_mem hd
      exact (h8 j d hj).1
    · obtain ⟨_, u, c2, c3⟩ := h8 j d hd
      rw [List.getElem?_take] at hv
      split at hv
      · simp only [Array.getElem?_toList] at hv
        rw [c2] at hv; cases hv
        exact c3
      · cases hv
    · refine run_firstCells_some (P := P) w.drew es l.length _ _ _ _ hlen (fun j u hj => ?_)
      rw [List.getElem?_take] at hj
      split at hj
      · rw [Addr.add_lit, Nat.zero_add]
        have h3' : w.drew.heap[b]? = some (.cells cur e (0, 0)) := h3
        simpa [World.cell?, h3'] using hj
      · cases hj

theorem append_moreU {t u ty e : TypeId} {i : TypeInfo} {z : Value} (hd : Dom g w) (ht : P.underlying t = some (.slice e)) (hi : P.info? e = some i) (hz : i.zero = some z) (hzs : z.cells.size = i.size)
    (hu : (∃ f, P.underlying u = some (.slice f)) ∨ P.underlying u = some .string) (hb0 : i.bytes ≠ 0)
    {base : Option Addr} {sCap : Nat} {x : Value} {l r : List (List D)} {olds news : List Value} (hesl : ∀ row ∈ l, row.length = i.size) (ho1 : RL g w olds l.flatten)
    (ho2 : (Builtin.firstCells i.size l.length (.slice base l.length sCap)).run P w.drew = .ok olds.toArray w.drew)
    (hl : (Builtin.lenOf x).run P w = .ok r.length w) (hx : (Builtin.firstCells i.size r.length x).run P w.drew = .ok news.toArray w.drew) (hrl : RL g w news r.flatten) (hes : ∀ row ∈ r, row.length = i.size)
    (hn : sCap < l.length + r.length) (h63 : l.length + r.length ≤ 9223372036854775807) (hby : (l.length + r.length) * i.bytes ≤ 140737488355328) (tk : Nat)
    (hlive : ∀ t, T t → t ∈ live' → t ∈ live) :
    ∃ v w' g', (Builtin.append_ #[t, u] ty #[.slice base l.length sCap, x]).run P w = .ok v w' ∧ Qt T g w g' w' live live' ∧ RC g' w' live' v (.uni tk i.size (l ++ r)) := by
  have hfit : Builtin.nextslicecap (l.length + r.length) sCap * i.bytes ≤ 281474976710656 := growslice_fits (by omega) hby
  have hrun := run_append_more (P := P) (w := w) (ty := ty) ht hi hz hu hb0 base l.length sCap hl hx ho2 hn hfit
  have hq : Qt T g w (g.at w.heap.size (.uni tk)) (w.drew.alloc (.cells (olds.toArray ++ news.toArray ++ Builtin.zeroCells z.cells (grownCap w (l.length + r.length) sCap e - (l.length + r.length))) e)) live live' :=
    Qt.newUni hd w.drew rfl rfl rfl rfl _ tk hlive
  have hge := grownCap_ge w (l.length + r.length) sCap e
  have hle := grownCap_le_maxLen w (l.length + r.length) sCap e (by unfold maxLen; omega)
  have hesa : ∀ row ∈ l ++ r, row.length = i.size := fun row hr => by rcases List.mem_append.1 hr with h | h; exact hesl row h; exact hes row h
  have hnew : (w.drew.alloc (.cells (olds.toArray ++ news.toArray ++ Builtin.zeroCells z.cells (grownCap w (l.length + r.length) sCap e - (l.length + r.length))) e)).heap[w.heap.size]? = some (.cells (olds.toArray ++ news.toArray ++ Builtin.zeroCells z.cells (grownCap w (l.length + r.length) sCap e - (l.length + r.length))) e (0, 0)) := heap_alloc_new w.drew _
  have hrl2 : RL g w (olds ++ news) (l ++ r).flatten := by rw [List.flatten_append]; exact ho1.append hrl
  have hrl3 := hrl2.quiet hd hq
  refine ⟨_, _, _, hrun, hq, ⟨_, _, by rw [List.length_append]⟩, fun _ => .inr ⟨w.heap.size, _, _, e, by rw [List.length_append], Ghost.at_same _ _ _, hnew, ?_, hle, ?_, hesa, fun j d hj => ?_⟩⟩
  · rw [List.length_append]; exact hge
  · have h1 : olds.length = l.length * i.size := by rw [ho1.1, flat_length hesl]
    have h2 : news.length = r.length * i.size := by rw [hrl.1, flat_length hes]
    simp only [Array.size_append, List.size_toArray, size_zeros, hzs, h1, h2, ← Nat.add_mul]
    refine Nat.mul_le_mul_right _ ?_
    omega
  · have hlt : j < (olds ++ news).length := by rw [hrl2.1]; exact (List.getElem?_eq_some_iff.1 hj).1
    refine ⟨hrl3.2.1 d (List.mem_of_getElem? hj), (olds ++ news)[j], ?_, hrl3.2.2 j _ d (List.getElem?_eq_getElem hlt) hj⟩
    rw [Array.getElem?_append_left (by simp at hlt ⊢; exact hlt)]
    have : (olds.toArray ++ news.toArray)[j]? = (olds ++ news)[j]? := by simp
    rw [this, List.getElem?_eq_getElem hlt]

theorem append_fitsU {t u ty e : TypeId} {i : TypeInfo} (hd : Dom g w) (ht : P.underlying t = some (.slice e)) (hi : P.info? e = some i)
    (hu : (∃ f, P.underlying u = some (.slice f)) ∨ P.underlying u = some .string)
    {b cap tk0 : Nat} {cur : Array Value} {te : TypeId} {x : Value} {l r : List (List D)} {news : List Value} (hesl : ∀ row ∈ l, row.length = i.size)
    (hcell : ∀ (j : Nat) (d : D), l.flatten[j]? = some d → d.isCell = true ∧ ∃ u, cur[j]? = some u ∧ RV g w u d)
    (hg : g b = .uni tk0) (hh : w.heap[b]? = some (.cells cur te (0, 0))) (hcm : cap ≤ maxLen) (hcs : cap * i.size ≤ cur.size)
    (hx : Source P i.size x r.length w news) (hrl : RL g w news r.flatten) (hes : ∀ row ∈ r, row.length = i.size)
    (hn : l.length + r.length ≤ cap) (tk : Nat) (hlive : ∀ t, T t → t ∈ live' → t ∈ live ∧ t ≠ tk0) :
    ∃ v w' g', (Builtin.append_ #[t, u] ty #[.slice (some ⟨b, 0, none⟩) l.length cap, x]).run P w = .ok v w' ∧ Qt T g w g' w' live live' ∧ RC g' w' live' v (.uni tk i.size (l ++ r)) := by
  have hrun := run_append_fits (P := P) (w := w) (ty := ty) ht hi hu ⟨b, 0, none⟩ l.length cap hx hn
  have hesa : ∀ row ∈ l ++ r, row.length = i.size := fun row hr => by rcases List.mem_append.1 hr with h | h; exact hesl row h; exact hes row h
  have h1 : l.flatten.length = l.length * i.size := flat_length hesl
  have h2 : news.length = r.length * i.size := by rw [hrl.1, flat_length hes]
  have hone : ∀ v ∈ news, v.oneCell' = true := by
    intro v hv
    obtain ⟨j, hj⟩ := List.getElem?_of_mem hv
    have hlt : j < r.flatten.length := by rw [← hrl.1]; exact (List.getElem?_eq_some_iff.1 hj).1
    exact (hrl.2.2 j v _ hj (List.getElem?_eq_getElem hlt)).oneCell (hrl.2.1 _ (List.getElem_mem hlt))
  have hsz : (l.length + r.length) * i.size ≤ cap * i.size := Nat.mul_le_mul_right _ hn
  rw [Nat.add_mul] at hsz
  have hst := run_storeCells_at P b (l.length * i.size) te news 0 cur w hh (by omega) hone
  rw [Addr.add_lit, Nat.zero_add] at hrun
  rw [hst] at hrun
  simp only [Nat.add_zero, Result.andThen_ok] at hrun
  generalize hcur' : (cur.toList.take (l.length * i.size) ++ news ++ cur.toList.drop (l.length * i.size + news.length)).toArray = cur' at hrun
  have hb : b < w.heap.size := hd.lt_uni hg
  have hheap : (w.setRow b cur').heap[b]? = some (.cells cur' te (0, 0)) := setRow_heap w b cur cur' te (0, 0) hh
  have hother : ∀ k, k ≠ b → (w.setRow b cur').heap[k]? = w.heap[k]? := fun k hk => setRow_other w b k cur' hk
  have hsize : (w.setRow b cur').heap.size = w.heap.size := by simp [World.setRow]
  have hlen' : cap * i.size ≤ cur'.size := by
    rw [← hcur']
    simp only [List.size_toArray, List.length_append, List.length_take, List.length_drop, Array.length_toList]
    omega
  have hkeep : ∀ j, j < l.length * i.size → cur'[j]? = cur[j]? := by
    intro j hj
    rw [← hcur']
    have hle : l.length * i.size ≤ cur.toList.length := by have hq : cur.toList.length = cur.size := Array.length_toList; omega
    simp only [List.getElem?_toArray, List.append_assoc]
    rw [List.getElem?_append_left (by rw [List.length_take]; omega), List.getElem?_take_of_lt hj]
    simp
  have hput : ∀ (j : Nat) (v : Value), news[j]? = some v → cur'[l.length * i.size + j]? = some v := by
    intro j v hj
    have hlt : j < news.length := (List.getElem?_eq_some_iff.1 hj).1
    have hle : (cur.toList.take (l.length * i.size)).length = l.length * i.size := by have hq : cur.toList.length = cur.size := Array.length_toList; rw [List.length_take]; omega
    rw [← hcur']
    simp only [List.getElem?_toArray, List.append_assoc]
    rw [List.getElem?_append_right (by omega), hle, Nat.add_sub_cancel_left, List.getElem?_append_left hlt]
    exact hj
  have hq : Qt T g w (g.at b (.uni tk)) (w.setRow b cur') live live' := by
    have hgo : ∀ k, k ≠ b → g.at b (.uni tk) k = g k := fun k hk => Ghost.at_ne g _ hk
    refine ⟨⟨rfl, rfl, rfl, by omega, fun k hk hgk => ?_, fun k m hk hgk => ?_, fun k m t' hk hgk => ?_, fun k id hk hgk => ?_⟩, fun k hk => ?_, fun k id hgk => ?_, fun k id hgk => ?_, fun k m t' htb htl hgk => ?_, fun t' h h' => (hlive t' h h').1, fun k t' htb htl hgk => ?_⟩
    · have : k ≠ b := by rintro rfl; rw [hg] at hgk; cases hgk
      exact ⟨hother k this, by rw [hgo k this]; exact hgk⟩
    · have : k ≠ b := by rintro rfl; rw [hg] at hgk; cases hgk
      exact ⟨hother k this, by rw [hgo k this]; exact hgk⟩
    · have hkb : k ≠ b := by rintro rfl; rw [hg] at hgk; cases hgk
      exact ⟨m, some t', by rw [hgo k hkb]; exact hgk, Nat.le_refl _, fun j v _ hv => by rw [cell_same (hother k hkb)]; exact hv⟩
    · have : k ≠ b := by rintro rfl; rw [hg] at hgk; cases hgk
      exact ⟨by rw [hgo k this]; exact hgk, Nat.le_of_eq (bsize_same (hother k this)).symm⟩
    · have : k ≠ b := by omega
      rw [hgo k this]; exact hd k (by omega)
    · have : k ≠ b := by rintro rfl; rw [hg] at hgk; cases hgk
      exact hother k this
    · have : k ≠ b := by rintro rfl; rw [Ghost.at_same] at hgk; cases hgk
      rw [hgo k this] at hgk; exact hgk
    · have : k ≠ b := by rintro rfl; rw [hg] at hgk; cases hgk
      exact ⟨by rw [hgo k this]; exact hgk, hother k this⟩
    · have : k ≠ b := by rintro rfl; rw [hg] at hgk; cases hgk; exact (hlive _ htb htl).2 rfl
      exact ⟨by rw [hgo k this]; exact hgk, hother k this⟩
  refine ⟨_, _, _, hrun, hq, ⟨_, _, by rw [List.length_append]⟩, fun _ => .inr ⟨b, cap, cur', te, by rw [List.length_append], Ghost.at_same _ _ _, hheap, by rw [List.length_append]; exact hn, hcm, hlen', hesa, fun j d hj => ?_⟩⟩
  rw [List.flatten_append] at hj
  by_cases hjl : j < l.flatten.length
  · rw [List.getElem?_append_left hjl] at hj
    obtain ⟨c1, u, c2, c3⟩ := hcell j d hj
    exact ⟨c1, u, by rw [hkeep j (by omega)]; exact c2, hq.rv hd c3⟩
  · rw [List.getElem?_append_right (by omega)] at hj
    have hlt : j - l.flatten.length < news.length := by rw [hrl.1]; exact (List.getElem?_eq_some_iff.1 hj).1
    have := hput (j - l.flatten.length) _ (List.getElem?_eq_getElem hlt)
    rw [show l.length * i.size + (j - l.flatten.length) = j by omega] at this
    exact ⟨hrl.2.1 d (List.mem_of_getElem? hj), _, this, hq.rv hd (hrl.2.2 _ _ d (List.getElem?_eq_getElem hlt) hj)⟩

/-- The tokens behind an operation. -/
def liveAfter (live : List Nat) (o : Out) : List Nat := (live.filter fun t => !o.cons.contains t) ++ o.iss

theorem mem_liveAfter {live : List Nat} {o : Out} {t : Nat} : t ∈ liveAfter live o ↔ (t ∈ live ∧ t ∉ o.cons) ∨ t ∈ o.iss := by
  simp [liveAfter]

theorem step_append_own {t u e : TypeId} {s x : Operand} {s' x' : Opd} {i : TypeInfo} {z : List D} (ho : oper.op = .call { callee := .builtin .append, args := #[s, x], argTypes := #[t, u] })
    (ht : P.underlying t = some (.slice e)) (hi : P.info? e = some i) (hz : zeroCellsD P e = some z) (hsz : i.size = z.length) (hb : 0 < i.bytes)
    (hu : (∃ f, P.underlying u = some (.slice f)) ∨ P.underlying u = some .string) (hs' : opdOf s = some s') (hx' : opdOf x = some x') (hs : SR N T g w st a) (hfr : Fresh T tb)
    (hob : (sem tb (.append false i.size i.bytes s' x') st).ob) (hlv : ∀ t ∈ (sem tb (.append false i.size i.bytes s' x') st).cons, t ∈ st.live) :
    ∃ v w' g', (execOp a.eval oper).run P w = .ok (.value v) w' ∧ Qt T g w g' w' st.live (liveAfter st.live (sem tb (.append false i.size i.bytes s' x') st)) ∧
      RS g' w' (liveAfter st.live (sem tb (.append false i.size i.bytes s' x') st)) v (sem tb (.append false i.size i.bytes s' x') st).v := by
  simp only [sem] at hob hlv ⊢
  obtain ⟨o1, o2, hob⟩ := hob
  have rs := opd_rs hs hs' o1
  have rx := opd_rs hs hx' o2
  obtain ⟨i', zv, hi', hzv, hzm⟩ := zeroCellsD_spec hz
  rw [hi] at hi'; cases hi'
  have hzs : zv.cells.size = i.size := by have := (mapM_some hzm).1; rw [hsz]; simpa using this
  unfold appendOut at hob hlv ⊢
  cases hsrc : srcOf i.size st.os (x'.get st.fr) with
  | none => simp [hsrc, Out.bad] at hob
  | some rr =>
    obtain ⟨r, rdd, rok⟩ := rr
    cases hrow : (s'.get st.fr).rows with
    | none => simp [hsrc, hrow, Out.bad] at hob
    | some p =>
      obtain ⟨e0, l⟩ := p
      simp only [hsrc, hrow] at hob hlv ⊢
      obtain ⟨hrok, he, hkind, hby, h63⟩ := hob
      obtain ⟨hes, news, hrl, hsource, hfirst, _⟩ := source_of (P := P) hs rx hsrc hrok
      have hrvs := rv_sl_es (rs_rows rs hrow) he
      obtain ⟨base, cap, hv⟩ := rv_sl_len hrvs
      have hcap : l.length ≤ cap := by
        rcases rv_sl hrvs with ⟨h, rfl⟩ | ⟨b, off, c, n, o, f, h, _, _, hc, _⟩
        · simp
        · rw [hv] at h; cases h; exact hc
      rw [hv] at hrvs rs
      have exec : ∀ v w', (Builtin.append_ #[t, u] oper.type #[.slice base l.length cap, a.eval x]).run P w = .ok v w' → (execOp a.eval oper).run P w = .ok (.value v) w' := by
        intro v w' h
        simp [execOp, ho, resolve, invoke, builtin, hv, h]
      -- the two ways on which a new row is made, or nothing
      have more : ∀ (live' : List Nat), (∀ t, T t → t ∈ live' → t ∈ st.live) → cap < l.length + r.length →
          ∃ v w' g', (execOp a.eval oper).run P w = .ok (.value v) w' ∧ Qt T g w g' w' st.live live' ∧ RS g' w' live' v (.own tb i.size (l ++ r)) := by
        intro live' hl hn
        obtain ⟨v, w', g', h1, h2, h3⟩ := append_more (P := P) (ty := oper.type) hs.dom ht hi hzv hzs hu (by omega) hrvs hsource.1 hfirst hrl hes hn h63 hby tb hl
        exact ⟨v, w', g', exec v w' h1, h2, h3⟩
      have nothing : ∀ (live' : List Nat), (∀ t, T t → t ∈ live' → t ∈ st.live) → cap = l.length → ¬ cap < l.length + r.length →
          ∃ v w' g', (execOp a.eval oper).run P w = .ok (.value v) w' ∧ Qt T g w g' w' st.live live' ∧ RS g' w' live' v (.own tb i.size (l ++ r)) := by
        intro live' hl hce hn
        have hr0 : r = [] := List.eq_nil_of_length_eq_zero (by omega)
        subst hr0
        have hnews : news = [] := by have := hrl.1; simpa using this
        subst hnews
        refine ⟨.slice base l.length cap, w, g, exec _ _ ?_, ⟨G.refl g w, hs.dom, fun _ _ _ => rfl, fun _ _ h => h, fun _ _ _ _ _ h => ⟨h, rfl⟩, hl, fun _ _ _ _ h => ⟨h, rfl⟩⟩, ?_⟩
        · cases base with
          | none =>
            have := run_append_nofits (P := P) (ty := oper.type) ht hi hu l.length cap hsource (by simpa using hcap)
            simpa using this
          | some ad =>
            have := run_append_fits (P := P) (ty := oper.type) ht hi hu ad l.length cap hsource (by simpa using hcap)
            simpa [storeCells] using this
        · rw [List.append_nil]
          exact ⟨hrvs, fun _ => .inl ⟨base, by rw [hce]⟩⟩
      cases hk : s'.get st.fr with
      | own t0 e1 l1 =>
        rw [hk] at hrow hkind rs hlv
        have hlv0 : t0 ∈ st.live := hlv t0 (by simp [tokOf])
        simp only [ASlot.rows, Option.some.injEq, Prod.mk.injEq] at hrow
        obtain ⟨rfl, rfl⟩ := hrow
        simp only [tokOf]
        have hl : ∀ (vv : ASlot) (oo : Prop), ∀ t, T t → t ∈ liveAfter st.live { v := vv, ob := oo, rd := rdd, cons := [t0], iss := [tb] } → t ∈ st.live ∧ t ≠ t0 := by
          intro vv oo t htb htl
          rcases mem_liveAfter.1 htl with ⟨h1, h2⟩ | h
          · exact ⟨h1, by simpa using h2⟩
          · simp at h; exact (hfr.ne htb h).elim
        rcases rs.2 hlv0 with ⟨ad, hfull⟩ | ⟨b, c, cur, te, hval, hg, hh, hle, hcm, hcs⟩
        · cases hfull
          by_cases hn : l1.length < l1.length + r.length
          · exact more _ (fun t h h' => (hl _ _ t h h').1) hn
          · exact nothing _ (fun t h h' => (hl _ _ t h h').1) rfl hn
        · cases hval
          by_cases hn : cap < l1.length + r.length
          · exact more _ (fun t h h' => (hl _ _ t h h').1) hn
          · have hes1 := hkind
            subst hes1
            obtain ⟨v, w', g', q1, q2, q3⟩ := append_fits (P := P) (ty := oper.type) hs.dom ht hi hu hrvs hg hh hcm hcs hsource hrl hes (by show _ + r.length ≤ _; omega) tb (hl _ _)
            exact ⟨v, w', g', exec v w' q1, q2, q3⟩
      | full e1 l1 =>
        rw [hk] at hrow hkind rs
        simp only [ASlot.rows, Option.some.injEq, Prod.mk.injEq] at hrow
        obtain ⟨rfl, rfl⟩ := hrow
        simp only [tokOf]
        obtain ⟨ad, hfull⟩ := rs.2
        cases hfull
        have hl : ∀ (vv : ASlot) (oo : Prop), ∀ t, T t → t ∈ liveAfter st.live { v := vv, ob := oo, rd := rdd, cons := [], iss := [tb] } → t ∈ st.live := by
          intro vv oo t htb htl
          rcases mem_liveAfter.1 htl with ⟨h1, h2⟩ | h
          · exact h1
          · simp at h; exact (hfr.ne htb h).elim
        by_cases hn : l1.length < l1.length + r.length
        · exact more _ (hl _ _) hn
        · exact nothing _ (hl _ _) rfl hn
      | d x =>
        rw [hk] at hrow hkind rs
        cases x <;> first | exact hkind.elim | skip
        simp only [ASlot.rows, Option.some.injEq, Prod.mk.injEq] at hrow
        obtain ⟨rfl, rfl⟩ := hrow
        simp only [tokOf]
        have hl : ∀ (vv : ASlot) (oo : Prop), ∀ t, T t → t ∈ liveAfter st.live { v := vv, ob := oo, rd := rdd, cons := [], iss := [tb] } → t ∈ st.live := by
          intro vv oo t htb htl
          rcases mem_liveAfter.1 htl with ⟨h1, h2⟩ | h
          · exact h1
          · simp at h; exact (hfr.ne htb h).elim
        have hcap0 : cap = 0 := by
          have rs' : RV g w (.slice base 0 cap) .nilsl := rs
          generalize hx0 : Value.slice base 0 cap = u0 at rs'
          generalize hy0 : D.nilsl = y0 at rs'
          cases rs' <;> first | (cases hx0; rfl) | (cases hy0; done)
        by_cases hn : cap < ([] : List (List D)).length + r.length
        · exact more _ (hl _ _) hn
        · exact nothing _ (hl _ _) (by simpa using hcap0) hn
      | _ => rw [hk] at hkind; simp at hkind

theorem step_append_uni {t u e : TypeId} {s x : Operand} {s' x' : Opd} {i : TypeInfo} {z : List D} (ho : oper.op = .call { callee := .builtin .append, args := #[s, x], argTypes := #[t, u] })
    (ht : P.underlying t = some (.slice e)) (hi : P.info? e = some i) (hz : zeroCellsD P e = some z) (hsz : i.size = z.length) (hb : 0 < i.bytes)
    (hu : (∃ f, P.underlying u = some (.slice f)) ∨ P.underlying u = some .string) (hs' : opdOf s = some s') (hx' : opdOf x = some x') (hs : SR N T g w st a) (hfr : Fresh T tb)
    (hob : (sem tb (.append true i.size i.bytes s' x') st).ob) (hlv : ∀ t ∈ (sem tb (.append true i.size i.bytes s' x') st).cons, t ∈ st.live) :
    ∃ v w' g', (execOp a.eval oper).run P w = .ok (.value v) w' ∧ Qt T g w g' w' st.live (liveAfter st.live (sem tb (.append true i.size i.bytes s' x') st)) ∧
      RS g' w' (liveAfter st.live (sem tb (.append true i.size i.bytes s' x') st)) v (sem tb (.append true i.size i.bytes s' x') st).v := by
  simp only [sem] at hob hlv ⊢
  obtain ⟨o1, o2, hob⟩ := hob
  have rs := opd_rs hs hs' o1
  have rx := opd_rs hs hx' o2
  obtain ⟨i', zv, hi', hzv, hzm⟩ := zeroCellsD_spec hz
  rw [hi] at hi'; cases hi'
  have hzs : zv.cells.size = i.size := by have := (mapM_some hzm).1; rw [hsz]; simpa using this
  unfold appendOut at hob hlv ⊢
  cases hsrc : srcOf i.size st.os (x'.get st.fr) with
  | none => simp [hsrc, Out.bad] at hob
  | some rr =>
    obtain ⟨r, rdd, rok⟩ := rr
    simp only [hsrc] at hob hlv ⊢
    have exec : ∀ (base : Option Addr) (n cap : Nat) v w', a.eval s = .slice base n cap → (Builtin.append_ #[t, u] oper.type #[.slice base n cap, a.eval x]).run P w = .ok v w' → (execOp a.eval oper).run P w = .ok (.value v) w' := by
      intro base n cap v w' hv h
      simp [execOp, ho, resolve, invoke, builtin, hv, h]
    -- from an empty slice
    have fresh : ∀ (ad : Option Addr) (live' : List Nat), a.eval s = .slice ad 0 0 → rok → r.length * i.bytes ≤ 140737488355328 → r.length ≤ 9223372036854775807 → (∀ t, T t → t ∈ live' → t ∈ st.live) →
        ∃ v w' g', (execOp a.eval oper).run P w = .ok (.value v) w' ∧ Qt T g w g' w' st.live live' ∧ RS g' w' live' v (.uni tb i.size r) := by
      intro ad live' hv hrok hby h63 hl
      obtain ⟨hes, news, hrl, hsource, hfirst, _⟩ := source_of (P := P) hs rx hsrc hrok
      have hfc : (Builtin.firstCells i.size 0 (.slice ad 0 0)).run P w.drew = .ok #[] w.drew := by
        cases ad with
        | none => simp [Builtin.firstCells]
        | some a0 => exact run_firstCells_some (P := P) w.drew i.size 0 a0 _ _ [] (by simp) (by simp)
      by_cases hn : 0 < r.length
      · obtain ⟨v, w', g', h1, h2, h3⟩ := append_moreU (P := P) (ty := oper.type) (l := []) (olds := []) hs.dom ht hi hzv hzs hu (by omega) (by simp) ⟨by simp, by simp, by simp⟩ hfc hsource.1 hfirst hrl hes (by simpa using hn) (by simpa using h63) (by simpa using hby) tb hl
        exact ⟨v, w', g', exec _ _ _ v w' hv h1, h2, h3⟩
      · have hr0 : r = [] := List.eq_nil_of_length_eq_zero (by omega)
        subst hr0
        refine ⟨.slice ad 0 0, w, g, exec _ _ _ _ _ hv ?_, ⟨G.refl g w, hs.dom, fun _ _ _ => rfl, fun _ _ h => h, fun _ _ _ _ _ h => ⟨h, rfl⟩, hl, fun _ _ _ _ h => ⟨h, rfl⟩⟩, ⟨ad, 0, rfl⟩, fun _ => .inl ⟨ad, rfl, rfl⟩⟩
        have hnews : news = [] := by have := hrl.1; simpa using this
        subst hnews
        cases ad with
        | none =>
          have := run_append_nofits (P := P) (ty := oper.type) ht hi hu 0 0 hsource (by simp)
          simpa using this
        | some ad =>
          have := run_append_fits (P := P) (ty := oper.type) ht hi hu ad 0 0 hsource (by simp)
          simpa [storeCells] using this
    cases hk : s'.get st.fr with
    | uni t0 e1 l =>
      rw [hk] at rs
      simp only [hk, appendU] at hob hlv ⊢
      obtain ⟨hrok, rfl, hby, h63⟩ := hob
      have hlv0 : t0 ∈ st.live := hlv t0 (by simp)
      have hl : ∀ (vv : ASlot) (oo : Prop), ∀ t, T t → t ∈ liveAfter st.live { v := vv, ob := oo, rd := rdd, cons := [t0], iss := [tb] } → t ∈ st.live ∧ t ≠ t0 := by
        intro vv oo t htb htl
        rcases mem_liveAfter.1 htl with ⟨h1, h2⟩ | h
        · exact ⟨h1, by simpa using h2⟩
        · simp at h; exact (hfr.ne htb h).elim
      obtain ⟨hes, news, hrl, hsource, hfirst, _⟩ := source_of (P := P) hs rx hsrc hrok
      have hu0 := rs.2 hlv0
      obtain ⟨base, cap, olds, hv, hcap, hesl, ho1, ho2⟩ := olds_uni (P := P) hu0
      rw [hv] at ho2
      by_cases hn : cap < l.length + r.length
      · obtain ⟨v, w', g', h1, h2, h3⟩ := append_moreU (P := P) (ty := oper.type) hs.dom ht hi hzv hzs hu (by omega) hesl ho1 ho2 hsource.1 hfirst hrl hes hn h63 hby tb (fun t h h' => (hl _ _ t h h').1)
        exact ⟨v, w', g', exec _ _ _ v w' hv h1, h2, h3⟩
      · rcases hu0 with ⟨ad, hv2, rfl⟩ | ⟨b, c, cur, te, hval, hg, hh, hle, hcm, hcs, hes1, hcell⟩
        · rw [hv] at hv2
          cases hv2
          have hr0 : r = [] := List.eq_nil_of_length_eq_zero (by simp at hn; simpa using hn)
          subst hr0
          exact fresh base _ hv hrok (by simp) (by simp) (fun t h h' => (hl _ _ t h h').1)
        · rw [hval] at hv
          cases hv
          obtain ⟨v, w', g', q1, q2, q3⟩ := append_fitsU (P := P) (ty := oper.type) hs.dom ht hi hu hesl hcell hg hh hcm hcs hsource hrl hes (by show _ + r.length ≤ _; omega) tb (hl _ _)
          exact ⟨v, w', g', exec _ _ _ v w' hval q1, q2, q3⟩
    | full e1 l =>
      rw [hk] at rs
      simp only [hk, appendU] at hob hlv ⊢
      obtain ⟨hrok, rfl, hby, h63⟩ := hob
      obtain ⟨ad, hfull⟩ := rs.2
      exact fresh ad _ hfull hrok hby h63 (fun t htb htl => by
        rcases mem_liveAfter.1 htl with ⟨h1, h2⟩ | h
        · exact h1
        · simp at h; exact (hfr.ne htb h).elim)
    | d y =>
      rw [hk] at rs
      cases y with
      | nilsl =>
        simp only [hk, appendU] at hob hlv ⊢
        obtain ⟨hrok, hby, h63⟩ := hob
        have hv : a.eval s = .slice none 0 0 := by
          have rs' : RV g w (a.eval s) .nilsl := rs
          generalize a.eval s = u0 at rs'
          cases rs'
          rfl
        exact fresh none _ hv hrok hby h63 (fun t htb htl => by
          rcases mem_liveAfter.1 htl with ⟨h1, h2⟩ | h
          · exact h1
          · simp at h; exact (hfr.ne htb h).elim)
      | _ => simp [hk, appendU, Out.bad] at hob
    | _ => simp [hk, appendU, Out.bad] at hob

end
end Go.Abs

/- The abstract layer, part 12: make, literals of slices, bytes of a string; new objects and stores. -/
namespace Go.Abs

section
variable {P : Program} {N tb : Nat} {T : Nat → Prop} {g : Ghost} {w : World} {st : St} {a : Act} {oper : Oper} {live live' : List Nat}

theorem fillD_length : ∀ (ps : List (Nat × List D)) (z : List D), (∀ p ∈ ps, p.1 + p.2.length ≤ z.length) → (fillD z ps).length = z.length
  | [], z, _ => rfl
  | (off, cs) :: ps, z, h => by
    have h0 := h (off, cs) (by simp)
    have hl : (z.take off ++ cs ++ z.drop (off + cs.length)).length = z.length := by simp at h0 ⊢; omega
    simp only [fillD]
    rw [fillD_length ps _ (fun p hp => by rw [hl]; exact h p (by simp [hp])), hl]

/-- The zero cells of a made row. -/
theorem zeroRow_rl {zv : Value} {z : List D} (hm : zv.cells.toList.mapM constD = some z) : ∀ (n k : Nat), k = zv.cells.size → 0 < k →
    RL g w ((Array.range (n * k)).map (zv.cells[· % zv.cells.size]!)).toList (List.replicate n z).flatten := by
  intro n k hk h0
  have hrl : RL g w zv.cells.toList z := RL.consts hm
  have hzl : z.length = k := by have := hrl.1; simp at this; omega
  have hfl : (List.replicate n z).flatten.length = n * k := by simp [hzl]
  have hget : ∀ j, j < n * k → (List.replicate n z).flatten[j]? = z[j % k]? := by
    intro j hj
    have hes : ∀ r ∈ List.replicate n z, r.length = k := by intro r hr; rw [List.eq_of_mem_replicate hr, hzl]
    have hdiv : j / k < n := Nat.div_lt_of_lt_mul (by rw [Nat.mul_comm]; exact hj)
    have hmod : j % k < k := Nat.mod_lt _ h0
    have hrow : (List.replicate n z).getD (j / k) [] = z := by simp [List.getD, hdiv]
    have := flat_getD hes (j / k) (j % k) z[j % k] (by rw [hrow]; exact List.getElem?_eq_getElem (by omega))
    rw [show j / k * k + j % k = j by rw [Nat.mul_comm]; exact Nat.div_add_mod j k] at this
    rw [this, List.getElem?_eq_getElem (by omega)]
  refine ⟨by simp [hzl], ?_, ?_⟩
  · intro d hd
    obtain ⟨j, hj⟩ := List.getElem?_of_mem hd
    have hlt : j < n * k := by rw [← hfl]; exact (List.getElem?_eq_some_iff.1 hj).1
    rw [hget j hlt] at hj
    exact hrl.2.1 d (List.mem_of_getElem? hj)
  · intro j v d hv hd
    have hlt : j < n * k := by rw [← hfl]; exact (List.getElem?_eq_some_iff.1 hd).1
    rw [hget j hlt] at hd
    have hmod : j % k < zv.cells.size := by rw [← hk]; exact Nat.mod_lt _ h0
    simp [hlt, ← hk] at hv
    have : zv.cells[j % k]! = zv.cells[j % k]'hmod := by simp [hmod]
    rw [this] at hv
    exact hrl.2.2 (j % k) v d (by subst hv; simp) hd

theorem step_makeSlice {u : Bool} {t e : TypeId} {l c : Operand} {l' c' : Opd} {i : TypeInfo} {z : List D} (ho : oper.op = .makeSlice t l c) (ht : P.underlying t = some (.slice e)) (hi : P.info? e = some i) (hz : zeroCellsD P e = some z)
    (hsz : i.size = z.length) (h0 : 0 < i.size) (hl' : opdOf l = some l') (hc' : opdOf c = some c') (hs : SR N T g w st a) (hfr : Fresh T tb)
    (hob : (sem tb (.makeSlice u i.size i.bytes z l' c') st).ob) :
    ∃ v w' g', (execOp a.eval oper).run P w = .ok (.value v) w' ∧ Qt T g w g' w' st.live (liveAfter st.live (sem tb (.makeSlice u i.size i.bytes z l' c') st)) ∧
      RS g' w' (liveAfter st.live (sem tb (.makeSlice u i.size i.bytes z l' c') st)) v (sem tb (.makeSlice u i.size i.bytes z l' c') st).v := by
  simp only [sem] at hob ⊢
  obtain ⟨i', zv, hi', hzv, hzm⟩ := zeroCellsD_spec hz
  rw [hi] at hi'; cases hi'
  have hzs : i.size = zv.cells.size := by have := (mapM_some hzm).1; rw [hsz]; simpa using this.symm
  cases h1 : l'.get st.fr with
  | d p =>
    cases p with
    | int k1 n =>
      cases h2 : c'.get st.fr with
      | d q =>
        cases q with
        | int k2 m =>
          simp only [h1, h2] at hob ⊢
          obtain ⟨o1, o2, o3, o4, o5, o6⟩ := hob
          have r1 := opd_rs hs hl' o1
          have r2 := opd_rs hs hc' o2
          rw [h1] at r1; rw [h2] at r2
          have e1 := rv_int (rs_d r1)
          have e2 := rv_int (rs_d r2)
          have w1 : IntKind.i64.wrap n = n := by rw [IntKind.wrap_i64]; omega
          have w2 : IntKind.i64.wrap m = m := by rw [IntKind.wrap_i64]; omega
          have hmul : ((m.toNat * i.bytes : Nat) : Int) = m * i.bytes := by rw [Int.natCast_mul]; congr 1; omega
          generalize hcells : (Array.range (m.toNat * i.size)).map (zv.cells[· % zv.cells.size]!) = cells
          have hcell0 : m.toNat * i.size = 0 → cells = #[] := by intro h; rw [← hcells, h]; simp [Array.range_zero']
          have hrun : (execOp a.eval oper).run P w = .ok (.value (.slice (some ⟨w.heap.size, 0, none⟩) n.toNat m.toNat)) (w.alloc (.cells cells e)) := by
            have t1 : ¬ (281474976710656 < (i.bytes : Int) * m) := by rw [Int.mul_comm]; omega
            have t2 : ¬ (m < 0) := by omega
            have t3 : ¬ (n < 0) := by omega
            have t4 : ¬ (n > m) := by omega
            have t5 : ¬ (m < n) := by omega
            by_cases hz0 : m.toNat * i.size = 0
            · have hm0 : m.toNat = 0 := by rcases Nat.mul_eq_zero.1 hz0 with h | h; exact h; omega
              simp [execOp, ho, Instr.makeSlice, run_underlying ht, e1, e2, asInt, asIntOf, typeInfo, hi, w1, w2, t1, t2, t3, t5, run_sizeOf_info hi, hm0, newRow, hcell0 hz0, Array.range_zero']
            · simp [execOp, ho, Instr.makeSlice, run_underlying ht, e1, e2, asInt, asIntOf, typeInfo, hi, w1, w2, t1, t2, t3, t5, run_sizeOf_info hi, newRow, zeroValue, hzv, hcells]
              exact fun h => (hz0 h).elim
          have hnew : (w.alloc (.cells cells e)).heap[w.heap.size]? = some (.cells cells e (0, 0)) := heap_alloc_new w _
          have hcs : cells.size = m.toNat * i.size := by rw [← hcells]; simp
          have hrl := zeroRow_rl (g := g) (w := w) hzm n.toNat i.size hzs h0
          have hes : ∀ r ∈ List.replicate n.toNat z, r.length = i.size := by intro r hr; rw [List.eq_of_mem_replicate hr, hsz]
          have hfl : (List.replicate n.toNat z).flatten.length = n.toNat * i.size := by rw [flat_length hes]; simp
          have hget : ∀ (j : Nat) (v : Value), ((Array.range (n.toNat * i.size)).map (zv.cells[· % zv.cells.size]!)).toList[j]? = some v → cells[j]? = some v := fun j v hj => by
            have hlt : j < n.toNat * i.size := by have := (List.getElem?_eq_some_iff.1 hj).1; simpa using this
            have hlt2 : j < m.toNat * i.size := by
              have : n.toNat * i.size ≤ m.toNat * i.size := Nat.mul_le_mul_right _ (by omega)
              omega
            rw [← hcells]
            simp [hlt] at hj
            simp [hlt2, hj]
          have hl : ∀ (vv : ASlot) (oo : Prop), ∀ t, T t → t ∈ liveAfter st.live { v := vv, ob := oo, iss := [tb] } → t ∈ st.live := fun vv oo t h h' => by
            rcases mem_liveAfter.1 h' with ⟨h1, _⟩ | h1
            · exact h1
            · simp at h1; exact (hfr.ne h h1).elim
          cases u with
          | false =>
            have hq := Qt.newRow hs.dom w rfl rfl rfl rfl (.cells cells e) (n.toNat * i.size) (some tb) (hl (ASlot.own tb i.size (List.replicate n.toNat z)) (l'.ok st.fr = true ∧ c'.ok st.fr = true ∧ 0 ≤ n ∧ n ≤ m ∧ m ≤ 9223372036854775807 ∧ m * i.bytes ≤ 281474976710656))
            have hrv := rv_newRow (cap := m.toNat) (rows := List.replicate n.toNat z) hnew (Ghost.at_same _ _ _) (Nat.le_of_eq hfl) hes (by simp; omega) (hrl.quiet hs.dom hq) hget
            rw [List.length_replicate] at hrv
            refine ⟨_, _, _, hrun, hq, hrv, fun _ => .inr ⟨w.heap.size, _, _, e, by rw [List.length_replicate], ?_, hnew, ?_, ?_, Nat.le_of_eq hcs.symm⟩⟩
            · rw [Ghost.at_same, List.length_replicate]
            · rw [List.length_replicate]; omega
            · unfold maxLen; omega
          | true =>
            have hq := Qt.newUni hs.dom w rfl rfl rfl rfl (.cells cells e) tb (hl (ASlot.uni tb i.size (List.replicate n.toNat z)) (l'.ok st.fr = true ∧ c'.ok st.fr = true ∧ 0 ≤ n ∧ n ≤ m ∧ m ≤ 9223372036854775807 ∧ m * i.bytes ≤ 281474976710656))
            have hrl2 := hrl.quiet hs.dom hq
            refine ⟨_, _, _, hrun, hq, ⟨_, _, by rw [List.length_replicate]⟩, fun _ => .inr ⟨w.heap.size, _, _, e, by rw [List.length_replicate], Ghost.at_same _ _ _, hnew, ?_, ?_, Nat.le_of_eq hcs.symm, hes, fun j d hj => ?_⟩⟩
            · rw [List.length_replicate]; omega
            · unfold maxLen; omega
            · have hlt : j < ((Array.range (n.toNat * i.size)).map (zv.cells[· % zv.cells.size]!)).toList.length := by rw [hrl.1]; exact (List.getElem?_eq_some_iff.1 hj).1
              exact ⟨hrl2.2.1 d (List.mem_of_getElem? hj), _, hget j _ (List.getElem?_eq_getElem hlt), hrl2.2.2 j _ d (List.getElem?_eq_getElem hlt) hj⟩
        | _ => simp [h1, h2, Out.bad] at hob
      | _ => simp [h1, h2, Out.bad] at hob
    | _ => simp [h1, Out.bad] at hob
  | _ => simp [h1, Out.bad] at hob

theorem step_s2b {s t e : TypeId} {x : Operand} {y : Opd} (ho : oper.op = .convert s t x) (hsrc : P.underlying s = some .string) (hdst : P.underlying t = some (.slice e)) (he : P.underlying e = some (.int .u8)) (hx : opdOf x = some y) (hs : SR N T g w st a)
    (hob : (sem tb (.s2b y) st).ob) :
    ∃ v w' g', (execOp a.eval oper).run P w = .ok (.value v) w' ∧ Qt T g w g' w' st.live (liveAfter st.live (sem tb (.s2b y) st)) ∧ RS g' w' (liveAfter st.live (sem tb (.s2b y) st)) v (sem tb (.s2b y) st).v := by
  simp only [sem] at hob ⊢
  cases h1 : y.get st.fr with
  | d p =>
    cases p with
    | str l =>
      simp only [h1] at hob ⊢
      have r1 := opd_rs hs hx hob
      rw [h1] at r1
      have hv := rv_str (rs_d r1)
      generalize hc : (Question.appendCap l.length 0 e).cut (w.tape w.drawn (.appendCap l.length 0 e)) = cap
      have hge : l.length ≤ cap := by rw [← hc]; simp [Question.cut]
      generalize hcells : (l.map fun b => Value.int .u8 b.toNat).toArray ++ Array.replicate (cap - l.length) (Value.int .u8 0) = cells
      have hcs : cells.size = cap := by rw [← hcells]; simp; omega
      have hheap : ∀ (h : Array Obj), (h.push (.cells cells e)).modify h.size (fun | .cells c elem (lo, hi) => .cells c elem (if lo == hi then (cap, cap + 1) else (min lo cap, max hi (cap + 1))) | o => o) = h.push (.cells cells e (cap, cap + 1)) := by
        intro h
        apply Array.ext
        · simp
        · intro j h1 h2
          simp only [Array.getElem_modify, Array.getElem_push]
          by_cases hj : j < h.size
          · have : h.size ≠ j := by omega
            simp [hj, this]
          · have : h.size = j := by simp at h2; omega
            subst this
            simp
      have hrun : (execOp a.eval oper).run P w = .ok (.value (.slice (some ⟨w.heap.size, 0, none⟩) l.length cap)) (w.drew.alloc (.cells cells e (cap, cap + 1))) := by
        have hmark : (markStringish ⟨w.heap.size, 0, none⟩).run P (w.drew.alloc (.cells cells e)) = .ok () (w.drew.alloc (.cells cells e (cap, cap + 1))) := by
          have hsh : (w.drew.alloc (.cells cells e)).shape? w.heap.size = some (e, cap) := by
            have : (w.drew.alloc (.cells cells e)).heap[w.heap.size]? = some (.cells cells e (0, 0)) := heap_alloc_new w.drew _
            unfold World.shape?
            rw [this]
            simp [hcs]
          have hfr : (w.drew.alloc (.cells cells e)).freeze ⟨w.heap.size, cap, none⟩ 1 = w.drew.alloc (.cells cells e (cap, cap + 1)) := by
            unfold World.freeze
            rw [if_neg (by omega)]
            have := hheap w.heap
            simp only [World.alloc, World.drew] at this ⊢
            rw [← this]
            rfl
          simp only [markStringish, Sem.run_bind, run_shape, hsh, Result.andThen_ok, run_freeze, hfr]
        have hd : Array.map (fun b : UInt8 => Value.int IntKind.u8 (b.toNat : Int)) (⟨l.toArray⟩ : ByteArray).data = (l.map fun b => Value.int .u8 b.toNat).toArray := by simp
        have hsz : (⟨l.toArray⟩ : ByteArray).size = l.length := size_mk l
        simp only [execOp, ho, hv, convert, Sem.run_bind, run_underlying hsrc, run_underlying hdst, run_underlying he, Result.andThen_ok, Conv.stringToBytes, hsz, hd, newRow]
        rw [run_choose]
        simp [Question.forced, hc, hcells, hmark]
      have hnew : (w.drew.alloc (.cells cells e (cap, cap + 1))).heap[w.heap.size]? = some (.cells cells e (cap, cap + 1)) := heap_alloc_new w.drew _
      have hl : liveAfter st.live { v := ASlot.d (.sl 1 (byteRows l)), ob := y.ok st.fr = true } = st.live := by simp [liveAfter]
      have hq : Qt T g w (g.at w.heap.size (.row l.length none)) (w.drew.alloc (.cells cells e (cap, cap + 1))) st.live
          (liveAfter st.live { v := ASlot.d (.sl 1 (byteRows l)), ob := y.ok st.fr = true }) := by
        rw [hl]
        exact Qt.newRow hs.dom w.drew rfl rfl rfl rfl _ _ _ (fun _ _ h => h)
      have hes : ∀ r ∈ byteRows l, r.length = 1 := by simp [byteRows]
      have hbl : (byteRows l).length = l.length := by simp [byteRows]
      have hfl : (byteRows l).flatten.length = l.length := by rw [flat_byteRows]; simp
      have hrl : RL g w (l.map fun b => Value.int .u8 b.toNat) (byteRows l).flatten := by
        rw [flat_byteRows]
        refine ⟨by simp, fun d hd => by obtain ⟨c, _, rfl⟩ := List.mem_map.1 hd; rfl, fun j u d hu hd => ?_⟩
        simp only [List.getElem?_map, Option.map_eq_some_iff] at hu hd
        obtain ⟨c, hc, rfl⟩ := hu
        obtain ⟨c', hc', rfl⟩ := hd
        rw [hc] at hc'; cases hc'
        exact .int _ _
      have hrv := rv_newRow (cap := cap) (rows := byteRows l) hnew (Ghost.at_same _ _ _) (Nat.le_of_eq hfl) hes (by omega) (hrl.quiet hs.dom hq) (fun j u hj => by
        have hlt : j < (l.map fun b => Value.int .u8 b.toNat).length := (List.getElem?_eq_some_iff.1 hj).1
        rw [← hcells, Array.getElem?_append_left (by simpa using hlt)]
        simpa using hj)
      rw [hbl] at hrv
      exact ⟨_, _, _, hrun, hq, hrv⟩
    | _ => simp [h1, Out.bad] at hob
  | _ => simp [h1, Out.bad] at hob

end
end Go.Abs

/- The abstract layer, part 13: literals of slices; new objects; stores; a slice against nil. -/
namespace Go.Abs

section
variable {P : Program} {N tb : Nat} {T : Nat → Prop} {g : Ghost} {w : World} {st : St} {a : Act} {oper : Oper} {live live' : List Nat}

theorem step_buildSlice {u : Bool} {t e : TypeId} {len : Nat} {parts : Array (Nat × Operand)} {i : TypeInfo} {z : List D} {ps : List (Nat × Nat × Opd)} (ho : oper.op = .buildSlice t len parts) (ht : P.underlying t = some (.slice e)) (hi : P.info? e = some i)
    (hz : zeroCellsD P e = some z) (hp : partsOf P t parts.toList = some ps) (hsz : i.size = z.length) (h0 : 0 < i.size) (hlim : len * i.size ≤ 16777216) (hs : SR N T g w st a) (hfr : Fresh T tb)
    (hob : (sem tb (.buildSlice u i.size len z ps) st).ob) :
    ∃ v w' g', (execOp a.eval oper).run P w = .ok (.value v) w' ∧ Qt T g w g' w' st.live (liveAfter st.live (sem tb (.buildSlice u i.size len z ps) st)) ∧
      RS g' w' (liveAfter st.live (sem tb (.buildSlice u i.size len z ps) st)) v (sem tb (.buildSlice u i.size len z ps) st).v := by
  simp only [sem] at hob ⊢
  obtain ⟨hob, hob1⟩ := hob
  obtain ⟨i', zv, hi', hzv, hzm⟩ := zeroCellsD_spec hz
  rw [hi] at hi'; cases hi'
  have hzs : i.size = zv.cells.size := by have := (mapM_some hzm).1; rw [hsz]; simpa using this.symm
  obtain ⟨l1, l2⟩ := parts_rel (P := P) hs hp (len * i.size) hob
  have hrl0 := zeroRow_rl (g := g) (w := w) hzm len i.size hzs h0
  have hzl : (List.replicate len z).flatten.length = len * i.size := by have := hrl0.1; simpa using this.symm
  obtain ⟨cells', f1, f2⟩ := fill_rel (g := g) (w := w) (fun j => some (j * i.size, i.size)) _ _ _ _ hrl0 l1 (fun k p q hk hq => by
    obtain ⟨a1, a2, a3⟩ := l2 k p q hk hq
    refine ⟨?_, a2, by rw [hzl]; exact a3⟩
    simp only [placeOf, ht, hi, Option.map_some] at a1
    exact a1)
  generalize hds : fillD (List.replicate len z).flatten (ps.map fun p => (p.1, (p.2.2.get st.fr).dCells)) = ds at f2 ⊢
  have hdl : ds.length = len * i.size := by
    rw [← hds, fillD_length, hzl]
    intro p hp'
    obtain ⟨q, hq, rfl⟩ := List.mem_map.1 hp'
    obtain ⟨_, _, o3, o4⟩ := hob q hq
    simp only
    rw [hzl, o3]
    exact o4
  have hmap : (parts.toList.map fun (i, x) => (i, a.eval x)) = parts.toList.map fun x => (x.1, a.eval x.2) := rfl
  have hrun : (execOp a.eval oper).run P w = .ok (.value (.slice (some ⟨w.heap.size, 0, none⟩) len len)) (w.alloc (.cells cells' e)) := by
    have hlim' : ¬ (len * i.size > 2 ^ 24) := by omega
    by_cases hl0 : len * i.size = 0
    · have hlen0 : len = 0 := by rcases Nat.mul_eq_zero.1 hl0 with h | h; exact h; omega
      subst hlen0
      have f1' := f1
      simp only [Nat.zero_mul, Array.range_zero', Array.map_empty] at f1'
      rw [hmap] at f1'
      simp only [execOp, ho, Instr.buildSlice, Sem.run_bind, run_underlying ht, run_sizeOf_info hi, Result.andThen_ok, Nat.zero_mul, if_true]
      simp [Array.range_zero', f1', newRow]
    · rw [hmap] at f1
      simp [execOp, ho, Instr.buildSlice, run_underlying ht, run_sizeOf_info hi, hlim', zeroValue, typeInfo, hi, hzv, f1, newRow]
      exact fun h => (hl0 h).elim
  have hnew : (w.alloc (.cells cells' e)).heap[w.heap.size]? = some (.cells cells' e (0, 0)) := heap_alloc_new w _
  obtain ⟨c1, c2, c3⟩ := getElem?_chunks len i.size ds (by omega)
  have hfl : (chunks i.size len ds).flatten = ds := by rw [c1, ← hdl, List.take_length]
  cases u with
  | false =>
    have hl : ∀ oo, liveAfter st.live { v := ASlot.full i.size (chunks i.size len ds), ob := oo } = st.live := fun oo => by simp [liveAfter]
    simp only [hl]
    have hq : Qt T g w (g.at w.heap.size (.row (len * i.size) none)) (w.alloc (.cells cells' e)) st.live st.live := Qt.newRow hs.dom w rfl rfl rfl rfl _ _ _ (fun _ _ h => h)
    have hrv := rv_newRow (cap := len) (rows := chunks i.size len ds) (vs := cells'.toList) hnew (Ghost.at_same _ _ _) (by rw [hfl, hdl]; exact Nat.le_refl _) c2 (by omega) (by rw [hfl]; exact f2.quiet hs.dom hq) (fun j u hj => by simpa using hj)
    rw [c3] at hrv
    exact ⟨_, _, _, hrun, hq, hrv, some ⟨w.heap.size, 0, none⟩, by rw [c3]⟩
  | true =>
    have hlen := hob1 rfl
    have hl : ∀ (vv : ASlot) (oo : Prop), ∀ t, T t → t ∈ liveAfter st.live { v := vv, ob := oo, iss := [tb] } → t ∈ st.live := fun vv oo t h h' => by
      rcases mem_liveAfter.1 h' with ⟨h1, _⟩ | h1
      · exact h1
      · simp at h1; exact (hfr.ne h h1).elim
    have hq := Qt.newUni hs.dom w rfl rfl rfl rfl (.cells cells' e) tb (hl (ASlot.uni tb i.size (chunks i.size len ds)) ((∀ p ∈ ps, p.2.2.ok st.fr = true ∧ (p.2.2.get st.fr).dCellsOk = true ∧ (p.2.2.get st.fr).dCells.length = p.2.1 ∧ p.1 + p.2.1 ≤ len * i.size) ∧ (true = true → len ≤ 1000)))
    have hrl3 := f2.quiet hs.dom hq
    refine ⟨_, _, _, hrun, hq, ⟨_, _, by rw [c3]⟩, fun _ => .inr ⟨w.heap.size, len, cells', e, by rw [c3], Ghost.at_same _ _ _, hnew, by rw [c3]; exact Nat.le_refl _, by unfold maxLen; omega, ?_, c2, fun j d hj => ?_⟩⟩
    · have := f2.1; simp at this; omega
    · rw [hfl] at hj
      have hlt : j < cells'.toList.length := by rw [f2.1]; exact (List.getElem?_eq_some_iff.1 hj).1
      exact ⟨hrl3.2.1 d (List.mem_of_getElem? hj), cells'.toList[j], by simp, hrl3.2.2 j _ d (List.getElem?_eq_getElem hlt) hj⟩

/-- Where rows stand as they stood. -/
theorem RC.keep {g' : Ghost} {w' : World} (htoG : G g w g' w') (hd : Dom g w) (hrow : ∀ k n o, g k = .row n o → g' k = .row n o ∧ w'.heap[k]? = w.heap[k]?) (huni : ∀ k t, g k = .uni t → g' k = .uni t ∧ w'.heap[k]? = w.heap[k]?) {v : Value} {s : ASlot} (h : RC g w live v s) : RC g' w' live v s := by
  have hk : RowsKept g w g' w' := htoG.rowsKept hd
  have hobj : ∀ k i, g k = .obj i → g' k = .obj i ∧ bsize w k ≤ bsize w' k := fun k i h => htoG.obj k i (hd.lt_obj h) h
  cases s with
  | d x => exact h.mono hk hobj
  | own t es rows =>
    refine ⟨h.1.mono hk hobj, fun hl => ?_⟩
    rcases h.2 hl with hf | ⟨c, cap, cur, e, h1, h2, h3, h4⟩
    · exact .inl hf
    · obtain ⟨r1, r2⟩ := hrow c _ _ h2
      exact .inr ⟨c, cap, cur, e, h1, r1, by rw [r2]; exact h3, h4⟩
  | uni t es rows => exact ⟨h.1, fun hl => (h.2 hl).mono (fun b hb => huni b _ hb) (fun _ _ hv => hv.mono hk hobj)⟩
  | full es rows => exact ⟨h.1.mono hk hobj, h.2⟩
  | rd cells =>
    obtain ⟨c, off, n, o, f, rfl, hg, hn, hc⟩ := h
    obtain ⟨n', o', hg', hnn, hcell⟩ := hk c n o hg
    refine ⟨c, off, n', o', f, rfl, hg', by omega, fun j d hj => ?_⟩
    obtain ⟨c1, c2, c3⟩ := hc j d hj
    have : j < cells.length := (List.getElem?_eq_some_iff.1 hj).1
    exact ⟨c1, hcell _ _ (by omega) c2, c3.mono hk hobj⟩
  | tup l => exact h.elim
  | bad => trivial

/-- The state with another object, and the model's world with its memory. -/
theorem SR.setObj {g' : Ghost} {w' : World} {st : St} {a : Act} {id b : Nat} {new : List ASlot} (hs : SR N T g w st a) (hid : id < st.os.length) (htoG : G g w g' w') (hdom : Dom g' w')
    (hb : g' b = .obj id) (hoth : ∀ k, k ≠ b → g' k = g k) (hheap : ∀ k, k ≠ b → k < w.heap.size → w'.heap[k]? = w.heap[k]?) (hgb : (st.os[id]? = some .none ∧ w.heap.size ≤ b) ∨ g b = .obj id)
    (hnew : ∀ k, g k = .obj id → k = b) (hro : RO g' w' st.live b (.row new)) (htok : ∀ s ∈ new, ∀ t ∈ s.toks, T t) :
    SR N T g' w' { st with os := st.os.set id (.row new) } a := by
  have hobj : ∀ k i, g k = .obj i → g' k = .obj i := fun k i h => (htoG.obj k i (hs.dom.lt_obj h) h).1
  have rowne : ∀ k n o, g k = .row n o → g' k = .row n o ∧ w'.heap[k]? = w.heap[k]? := by
    intro k n o h
    have hne : k ≠ b := by
      rintro rfl
      rcases hgb with ⟨_, h1⟩ | h1
      · have := hs.dom.lt_row h; omega
      · rw [h] at h1; cases h1
    exact ⟨by rw [hoth k hne]; exact h, hheap k hne (hs.dom.lt_row h)⟩
  have unine : ∀ k t, g k = .uni t → g' k = .uni t ∧ w'.heap[k]? = w.heap[k]? := by
    intro k t h
    have hne : k ≠ b := by
      rintro rfl
      rcases hgb with ⟨_, h1⟩ | h1
      · have := hs.dom.lt_uni h; omega
      · rw [h] at h1; cases h1
    exact ⟨by rw [hoth k hne]; exact h, hheap k hne (hs.dom.lt_uni h)⟩
  have hrc : ∀ {v : Value} {s : ASlot}, RC g w st.live v s → RC g' w' st.live v s := fun h => RC.keep htoG hs.dom rowne unine h
  have hrs : ∀ {v : Value} {s : ASlot}, RS g w st.live v s → RS g' w' st.live v s := by
    intro v s h
    cases s with
    | tup l =>
      obtain ⟨vs, rfl, hl, hc⟩ := h
      exact ⟨vs, rfl, hl, fun i u s hu hsl => hrc (hc i u s hu hsl)⟩
    | _ => exact rs_of_rc (hrc (rc_of_rs h (by simp)))
  refine ⟨hdom, hs.defers, hs.size, fun k v s hk => ?_, fun i o ho hn => ?_, fun k k' i hk hk' => ?_, fun k i hk => ?_, ⟨hs.wf.live, hs.wf.fr, fun i o ho s hsm t ht => ?_⟩⟩
  · obtain ⟨h1, h2⟩ := hs.slots k v s hk
    exact ⟨fun hv => hrs (h1 hv), h2⟩
  · by_cases hi : i = id
    · subst hi
      simp only [List.getElem?_set_self hid] at ho
      cases ho
      exact .inl ⟨b, hb, hro⟩
    · rw [List.getElem?_set_ne (Ne.symm hi)] at ho
      rcases hs.objs i o ho hn with ⟨c, hc, hr⟩ | ⟨hv, hno⟩
      case inr =>
        refine .inr ⟨hv, fun k hk => ?_⟩
        have hkb : k ≠ b := by rintro rfl; rw [hb] at hk; cases hk; exact hi rfl
        rw [hoth k hkb] at hk
        exact hno k hk
      have hne : c ≠ b := by
        rintro rfl
        have := hobj c i hc
        rw [hb] at this
        cases this
        exact hi rfl
      refine .inl ⟨c, hobj c i hc, ?_⟩
      cases o with
      | none => exact hr.elim
      | row cells =>
        obtain ⟨cc, e, q1, q2, q3⟩ := hr
        refine ⟨cc, e, by rw [hheap c hne (hs.dom.lt_obj hc)]; exact q1, q2, fun j s hj => ?_⟩
        obtain ⟨v, v1, v2, v3⟩ := q3 j s hj
        exact ⟨v, v1, v2, hrc v3⟩
  · by_cases h1 : k = b <;> by_cases h2 : k' = b
    · rw [h1, h2]
    · rw [h1, hb] at hk; cases hk
      rw [hoth k' h2] at hk'
      exact (h2 (hnew k' hk')).elim
    · rw [h2, hb] at hk'; cases hk'
      rw [hoth k h1] at hk
      exact (h1 (hnew k hk)).elim
    · rw [hoth k h1] at hk; rw [hoth k' h2] at hk'
      exact hs.inj k k' i hk hk'
  · by_cases h1 : k = b
    · rw [h1, hb] at hk; cases hk
      exact ⟨.row new, List.getElem?_set_self hid, by simp⟩
    · rw [hoth k h1] at hk
      obtain ⟨o, ho, hn⟩ := hs.ids k i hk
      by_cases hi : i = id
      · subst hi
        exact (h1 (hnew k hk)).elim
      · exact ⟨o, by rw [List.getElem?_set_ne (Ne.symm hi)]; exact ho, hn⟩
  · by_cases hi : i = id
    · subst hi
      simp only [List.getElem?_set_self hid] at ho
      cases ho
      exact htok s hsm t ht
    · rw [List.getElem?_set_ne (Ne.symm hi)] at ho
      exact hs.wf.os i o ho s hsm t ht

/-- A new object in a new block. -/
theorem SR.newObj {st : St} {a : Act} {id : Nat} {new : List ASlot} {vs : List Value} {e : TypeId} (hs : SR N T g w st a) (hid : st.os[id]? = some .none) (hl : new.length ≤ vs.length)
    (hv : ∀ (i : Nat) (s : ASlot), new[i]? = some s → ∃ v, vs[i]? = some v ∧ v.oneCell' = true ∧ RC g w st.live v s) (htok : ∀ s ∈ new, ∀ t ∈ s.toks, T t) :
    G g w (g.at w.heap.size (.obj id)) (w.alloc (.cells vs.toArray e)) ∧ SR N T (g.at w.heap.size (.obj id)) (w.alloc (.cells vs.toArray e)) { st with os := st.os.set id (.row new) } a := by
  have hlt : id < st.os.length := (List.getElem?_eq_some_iff.1 hid).1
  have hsz : (w.alloc (.cells vs.toArray e)).heap.size = w.heap.size + 1 := by show (w.heap.push _).size = _; simp
  have hold : ∀ b, b < w.heap.size → (w.alloc (.cells vs.toArray e)).heap[b]? = w.heap[b]? := fun b hb => heap_alloc_old w _ b hb
  have hg : ∀ b, b < w.heap.size → g.at w.heap.size (.obj id) b = g b := fun b hb => Ghost.at_ne g _ (by omega)
  have hG : G g w (g.at w.heap.size (.obj id)) (w.alloc (.cells vs.toArray e)) :=
    ⟨rfl, rfl, rfl, by omega, fun b hb hgb => ⟨hold b hb, by rw [hg b hb]; exact hgb⟩, fun b m hb hgb => ⟨hold b hb, by rw [hg b hb]; exact hgb⟩,
      fun b m u hb hgb => ⟨m, some u, by rw [hg b hb]; exact hgb, Nat.le_refl _, fun i v _ hv => by rw [cell_same (hold b hb)]; exact hv⟩, fun b i hb hgb => ⟨by rw [hg b hb]; exact hgb, Nat.le_of_eq (bsize_same (hold b hb)).symm⟩⟩
  have hdom : Dom (g.at w.heap.size (.obj id)) (w.alloc (.cells vs.toArray e)) := by
    intro b hb
    rw [hsz] at hb
    rw [Ghost.at_ne g _ (by omega)]
    exact hs.dom b (by omega)
  have hnoid : ∀ k, g k ≠ .obj id := by
    intro k hk
    obtain ⟨o, ho, hn⟩ := hs.ids k id hk
    rw [hid] at ho; cases ho
    exact hn rfl
  refine ⟨hG, hs.setObj hlt hG hdom (Ghost.at_same _ _ _) (fun k hk => Ghost.at_ne g _ hk) (fun k _ hk => hold k hk) (.inl ⟨hid, Nat.le_refl _⟩) (fun k hk => (hnoid k hk).elim) ?_ htok⟩
  refine ⟨vs.toArray, e, heap_alloc_new w _, by simpa using hl, fun i s hi => ?_⟩
  obtain ⟨v, v1, v2, v3⟩ := hv i s hi
  refine ⟨v, by simpa using v1, v2, ?_⟩
  exact RC.keep hG hs.dom (fun k n o hk => ⟨by rw [hg k (hs.dom.lt_row hk)]; exact hk, hold k (hs.dom.lt_row hk)⟩) (fun k t hk => ⟨by rw [hg k (hs.dom.lt_uni hk)]; exact hk, hold k (hs.dom.lt_uni hk)⟩) v3

end
end Go.Abs

/- The abstract layer, part 14: new objects and stores, as operations; a slice against nil. -/
namespace Go.Abs

section
variable {P : Program} {N tb : Nat} {T : Nat → Prop} {g : Ghost} {w : World} {st : St} {a : Act} {oper : Oper} {live live' : List Nat}

theorem rc_one {v : Value} {s : ASlot} (h : RC g w live v s) (ho : s.isOne = true) : v.oneCell' = true := by
  cases s with
  | d x => exact RV.oneCell h ho
  | own t es rows => exact h.1.oneCell rfl
  | uni t es rows => obtain ⟨⟨a, c, rfl⟩, _⟩ := h; rfl
  | full es rows => exact h.1.oneCell rfl
  | rd cells => obtain ⟨b, off, n, o, f, rfl, _⟩ := h; rfl
  | _ => simp [ASlot.isOne] at ho

/-- The cells of a value that is laid into memory. -/
theorem toCells_rc {v : Value} {s : ASlot} (h : RS g w live v s) (ho : s.toCells.all ASlot.isOne = true) :
    v.cells.toList.length = s.toCells.length ∧ ∀ (i : Nat) (x : ASlot), s.toCells[i]? = some x → ∃ u, v.cells.toList[i]? = some u ∧ u.oneCell' = true ∧ RC g w live u x := by
  have one : s.toCells = [s] → RC g w live v s → s.isOne = true → v.cells.toList.length = s.toCells.length ∧ ∀ (i : Nat) (x : ASlot), s.toCells[i]? = some x → ∃ u, v.cells.toList[i]? = some u ∧ u.oneCell' = true ∧ RC g w live u x := by
    intro hc hr h1
    have hv := rc_one hr h1
    have hcells : v.cells = #[v] := by cases v <;> first | rfl | (simp [Value.oneCell'] at hv)
    rw [hc, hcells]
    refine ⟨rfl, fun i x hi => ?_⟩
    cases i with
    | zero => simp at hi; subst hi; exact ⟨v, rfl, hv, hr⟩
    | succ i => simp at hi
  cases s with
  | d x =>
    cases x with
    | agg cs =>
      obtain ⟨vs, rfl, h1, h2, h3⟩ := rv_agg (rs_d h)
      refine ⟨by simp [Value.cells, ASlot.toCells, h1], fun i x hi => ?_⟩
      simp only [ASlot.toCells, List.getElem?_map, Option.map_eq_some_iff] at hi
      obtain ⟨d, hd, rfl⟩ := hi
      have hlt : i < vs.length := by rw [h1]; exact (List.getElem?_eq_some_iff.1 hd).1
      have hr := h3 i vs[i] d (List.getElem?_eq_getElem hlt) hd
      exact ⟨vs[i], by simp [Value.cells, hlt], hr.oneCell (h2 d (List.mem_of_getElem? hd)), hr⟩
    | _ => exact one rfl h (by simpa [ASlot.toCells] using ho)
  | tup l => simp [ASlot.toCells, ASlot.isOne] at ho
  | bad => simp [ASlot.toCells, ASlot.isOne] at ho
  | _ => exact one rfl h (by simpa [ASlot.toCells] using ho)

theorem toCells_toks {s : ASlot} {p : Nat → Prop} (h : ∀ t ∈ s.toks, p t) : ∀ x ∈ s.toCells, ∀ t ∈ x.toks, p t := by
  intro x hx t ht
  cases s with
  | d y =>
    cases y with
    | agg cs => simp only [ASlot.toCells, List.mem_map] at hx; obtain ⟨d, _, rfl⟩ := hx; simp [ASlot.toks] at ht
    | _ => simp only [ASlot.toCells, List.mem_singleton] at hx; subst hx; exact h t ht
  | _ => simp only [ASlot.toCells, List.mem_singleton] at hx; subst hx; exact h t ht

/-- The state with an object written. -/
def withObj (st : St) : Option (Nat × AObj) → St
  | some (id, o) => { st with os := st.os.set id o }
  | none => st

theorem step_box {t : TypeId} {x : Operand} {y : Opd} {back : Nat} (ho : oper.op = .box t x) (hx : opdOf x = some y) (hs : SR N T g w st a) (hob : (sem tb (.box back y) st).ob) :
    ∃ v w' g', (execOp a.eval oper).run P w = .ok (.value v) w' ∧ G g w g' w' ∧ SR N T g' w' (withObj st (sem tb (.box back y) st).wr) a ∧ RS g' w' st.live v (sem tb (.box back y) st).v := by
  simp only [sem] at hob ⊢
  obtain ⟨o1, o2, o3, o4, o5⟩ := hob
  have r1 := opd_rs hs hx o1
  obtain ⟨h1, h2⟩ := toCells_rc r1 o2
  obtain ⟨q1, q2⟩ := hs.newObj (e := t) o5 (Nat.le_of_eq h1.symm) h2 (toCells_toks (opd_toks hs hx o1))
  refine ⟨.pointer (some ⟨w.heap.size, 0, none⟩), _, _, ?_, q1, q2, .ptr _ 0 _ (Ghost.at_same _ _ _)⟩
  simp [execOp, ho, Instr.box, newVar, newRow]

/-- Nothing is written. -/
theorem SR.touch (hs : SR N T g w st a) (id : Nat) : SR N T g w { st with os := st.os.set id (.row (objCells st.os id)) } a := by
  have key : ∀ (i : Nat) (o : AObj), (st.os.set id (.row (objCells st.os id)))[i]? = some o → st.os[i]? = some o ∨ (i = id ∧ o = .row (objCells st.os id)) := by
    intro i o ho
    by_cases hi : id = i
    · subst hi
      by_cases hlt : id < st.os.length
      · rw [List.getElem?_set_self hlt] at ho; cases ho; exact .inr ⟨rfl, rfl⟩
      · rw [List.getElem?_eq_none (by simp; omega)] at ho; cases ho
    · rw [List.getElem?_set_ne hi] at ho; exact .inl ho
  have cell : ∀ s ∈ objCells st.os id, ∃ o, st.os[id]? = some o ∧ s ∈ o.cells := by
    intro s hm
    unfold objCells at hm
    split at hm
    · rename_i o ho; exact ⟨o, ho, hm⟩
    · cases hm
  refine ⟨hs.dom, hs.defers, hs.size, hs.slots, fun i o ho hn => ?_, hs.inj, fun b i hb => ?_, ⟨hs.wf.live, hs.wf.fr, fun i o ho s hsm t ht => ?_⟩⟩
  · rcases key i o ho with h | ⟨rfl, rfl⟩
    · exact hs.objs i o h hn
    · unfold objCells
      cases hq : st.os[i]? with
      | none => exact .inr ⟨rfl, fun b hb => by obtain ⟨o', h1, _⟩ := hs.ids b i hb; rw [hq] at h1; cases h1⟩
      | some o' =>
        cases o' with
        | none => exact .inr ⟨rfl, fun b hb => by obtain ⟨o', h1, h2⟩ := hs.ids b i hb; rw [hq] at h1; cases h1; exact h2 rfl⟩
        | row cs => exact hs.objs i _ hq (by simp)
  · obtain ⟨o, ho, hne⟩ := hs.ids b i hb
    by_cases hi : id = i
    · subst hi
      exact ⟨_, List.getElem?_set_self (List.getElem?_eq_some_iff.1 ho).1, by simp⟩
    · exact ⟨o, by rw [List.getElem?_set_ne hi]; exact ho, hne⟩
  · rcases key i o ho with h | ⟨rfl, rfl⟩
    · exact hs.wf.os i o h s hsm t ht
    · obtain ⟨o', ho', hm⟩ := cell s hsm
      exact hs.wf.os i o' ho' s hm t ht

theorem SR.drew (hs : SR N T g w st a) : SR N T g { w with drawn := w.drawn + 1 } st a := by
  have hq : Qt T g w g { w with drawn := w.drawn + 1 } st.live st.live :=
    ⟨⟨rfl, rfl, rfl, Nat.le_refl _, fun _ _ h => ⟨rfl, h⟩, fun _ _ _ h => ⟨rfl, h⟩, fun _ n t _ h => ⟨n, some t, h, Nat.le_refl _, fun _ _ _ h => h⟩, fun _ _ _ h => ⟨h, Nat.le_refl _⟩⟩,
      hs.dom, fun _ _ _ => rfl, fun _ _ h => h, fun _ _ _ _ _ h => ⟨h, rfl⟩, fun _ _ h => h, fun _ _ _ _ h => ⟨h, rfl⟩⟩
  exact hs.quiet hq (fun _ h => h) hs.wf.live

theorem step_appendO {t u e : TypeId} {s x : Operand} {s' x' : Opd} {i : TypeInfo} {z : List D} {back : Nat} (ho : oper.op = .call { callee := .builtin .append, args := #[s, x], argTypes := #[t, u] })
    (ht : P.underlying t = some (.slice e)) (hi : P.info? e = some i) (hz : zeroCellsD P e = some z) (hsz : i.size = z.length) (hb : 0 < i.bytes)
    (hu : (∃ f, P.underlying u = some (.slice f)) ∨ P.underlying u = some .string) (hs' : opdOf s = some s') (hx' : opdOf x = some x') (hs : SR N T g w st a)
    (hob : (sem tb (.appendO back i.size i.bytes s' x') st).ob) :
    ∃ v w' g', (execOp a.eval oper).run P w = .ok (.value v) w' ∧ G g w g' w' ∧ SR N T g' w' (withObj st (sem tb (.appendO back i.size i.bytes s' x') st).wr) a ∧ RS g' w' st.live v (sem tb (.appendO back i.size i.bytes s' x') st).v := by
  simp only [sem] at hob ⊢
  obtain ⟨o1, o2, hob⟩ := hob
  have rs := opd_rs hs hs' o1
  have rx := opd_rs hs hx' o2
  obtain ⟨i', zv, hi', hzv, hzm⟩ := zeroCellsD_spec hz
  rw [hi] at hi'; cases hi'
  have hzs : zv.cells.size = i.size := by have := (mapM_some hzm).1; rw [hsz]; simpa using this
  unfold appendOOut at hob ⊢
  cases hsrc : srcOf i.size st.os (x'.get st.fr) with
  | none => simp [hsrc, Out.bad] at hob
  | some rr =>
    obtain ⟨r, rdd, rok⟩ := rr
    simp only [hsrc] at hob ⊢
    obtain ⟨hrok, hvoid, ⟨hby, h63⟩, _, _, hnone⟩ := hob
    obtain ⟨ad, hv⟩ : ∃ ad, a.eval s = .slice ad 0 0 := by
      cases hk : s'.get st.fr with
      | full e1 l =>
        rw [hk] at rs hvoid
        cases l with
        | nil => exact rs.2
        | cons _ _ => simp [ASlot.void] at hvoid
      | d y =>
        rw [hk] at rs hvoid
        cases y <;> simp [ASlot.void] at hvoid
        have rs' : RV g w (a.eval s) .nilsl := rs
        generalize a.eval s = u0 at rs'
        cases rs'
        exact ⟨none, rfl⟩
      | _ => rw [hk] at hvoid; simp [ASlot.void] at hvoid
    have exec : ∀ v w', (Builtin.append_ #[t, u] oper.type #[.slice ad 0 0, a.eval x]).run P w = .ok v w' → (execOp a.eval oper).run P w = .ok (.value v) w' := by
      intro v w' h
      simp [execOp, ho, resolve, invoke, builtin, hv, h]
    obtain ⟨hes, news, hrl, hsource, hfirst, _⟩ := source_of (P := P) hs rx hsrc hrok
    by_cases hn : 0 < r.length
    · have hfc : (Builtin.firstCells i.size 0 (.slice ad 0 0)).run P w.drew = .ok #[] w.drew := by
        cases ad with
        | none => simp [Builtin.firstCells]
        | some a0 => exact run_firstCells_some (P := P) w.drew i.size 0 a0 _ _ [] (by simp) (by simp)
      have hfit : Builtin.nextslicecap (0 + r.length) 0 * i.bytes ≤ 281474976710656 := growslice_fits (by omega) (by rw [Nat.zero_add]; exact hby)
      have hrun := run_append_more (P := P) (w := w) (ty := oper.type) ht hi hzv hu (by omega) ad 0 0 (olds := []) hsource.1 hfirst hfc (show 0 < 0 + r.length by omega) hfit
      have hge := grownCap_ge w (0 + r.length) 0 e
      have hle := grownCap_le_maxLen w (0 + r.length) 0 e (by unfold maxLen; omega)
      generalize hzz : Builtin.zeroCells zv.cells (grownCap w (0 + r.length) 0 e - (0 + r.length)) = zz at hrun
      have hzzs : zz.size = (grownCap w (0 + r.length) 0 e - (0 + r.length)) * i.size := by rw [← hzz, size_zeros, hzs]
      have hwd : w.drew = { w with drawn := w.drawn + 1 } := rfl
      have hsd : SR N T g w.drew st a := by rw [hwd]; exact hs.drew
      have hGd : G g w g w.drew := ⟨rfl, rfl, rfl, Nat.le_refl _, fun _ _ h => ⟨rfl, h⟩, fun _ _ _ h => ⟨rfl, h⟩, fun _ n t _ h => ⟨n, some t, h, Nat.le_refl _, fun _ _ _ h => h⟩, fun _ _ _ h => ⟨h, Nat.le_refl _⟩⟩
      have harr : (([] : List Value).toArray ++ news.toArray ++ zz) = (news ++ zz.toList).toArray := by apply Array.ext'; simp
      rw [harr] at hrun
      have hnl : news.length = r.flatten.length := hrl.1
      obtain ⟨q1, q2⟩ := hsd.newObj (e := e) (vs := news ++ zz.toList) (new := r.flatten.map .d) hnone (by simp only [List.length_map, List.length_append]; omega) (fun j s hj => by
        simp only [List.getElem?_map, Option.map_eq_some_iff] at hj
        obtain ⟨d, hd, rfl⟩ := hj
        have hlt : j < news.length := by rw [hnl]; exact (List.getElem?_eq_some_iff.1 hd).1
        have hr := hrl.2.2 j _ d (List.getElem?_eq_getElem hlt) hd
        have hr' : RV g w.drew news[j] d := hGd.rv hs.dom hr
        exact ⟨news[j], by rw [List.getElem?_append_left hlt, List.getElem?_eq_getElem hlt], hr.oneCell (hrl.2.1 d (List.mem_of_getElem? hd)), hr'⟩) (fun s hsm t ht => by
        obtain ⟨d, _, rfl⟩ := List.mem_map.1 hsm
        simp [ASlot.toks] at ht)
      refine ⟨_, _, _, exec _ _ hrun, hGd.trans q1, q2, ?_⟩
      rw [show 0 + r.length = r.length by omega]
      rw [show 0 + r.length = r.length by omega] at hge hle hzzs
      refine .ref _ 0 _ _ _ _ (Ghost.at_same _ _ _) hge hle ?_
      have hnew : (w.drew.alloc (.cells (news ++ zz.toList).toArray e)).heap[w.heap.size]? = some (.cells (news ++ zz.toList).toArray e (0, 0)) := heap_alloc_new w.drew _
      rw [bsize_cells hnew]
      have h2 : news.length = r.length * i.size := by rw [hrl.1, flat_length hes]
      have h3 : (news ++ zz.toList).toArray.size = news.length + zz.size := by simp
      rw [h3, h2, hzzs, ← Nat.add_mul, Nat.zero_add]
      refine Nat.mul_le_mul_right _ ?_
      omega
    · have hr0 : r = [] := List.eq_nil_of_length_eq_zero (by omega)
      subst hr0
      have hnews : news = [] := by have := hrl.1; simpa using this
      subst hnews
      have hoc : objCells st.os (st.os.length - back) = [] := by simp [objCells, hnone, AObj.cells]
      refine ⟨.slice ad 0 0, w, g, exec _ _ ?_, G.refl g w, ?_, .refnil _ _ _ _⟩
      · cases ad with
        | none =>
          have := run_append_nofits (P := P) (ty := oper.type) ht hi hu 0 0 hsource (by simp)
          simpa using this
        | some ad =>
          have := run_append_fits (P := P) (ty := oper.type) ht hi hu ad 0 0 hsource (by simp)
          simpa [storeCells] using this
      · have := hs.touch (st.os.length - back)
        rw [hoc] at this
        exact this

theorem constC_spec {v : Value} {s : ASlot} (h : constC v = some s) : s.isOne = true ∧ RC g w live v s ∧ s.toks = [] := by
  unfold constC at h
  cases hc : constD v with
  | none => simp [hc] at h
  | some d => simp [hc] at h; subst h; exact ⟨constD_cell hc, constD_rv hc, rfl⟩

theorem step_alloc {t : TypeId} {z : List ASlot} {back : Nat} (ho : oper.op = .alloc t) (hz : zeroCellsS P t = some z) (hs : SR N T g w st a) (hob : (sem tb (.alloc back z) st).ob) :
    ∃ v w' g', (execOp a.eval oper).run P w = .ok (.value v) w' ∧ G g w g' w' ∧ SR N T g' w' (withObj st (sem tb (.alloc back z) st).wr) a ∧ RS g' w' st.live v (sem tb (.alloc back z) st).v := by
  simp only [sem] at hob ⊢
  obtain ⟨o3, o4, o5⟩ := hob
  unfold zeroCellsS at hz
  split at hz
  · rename_i i hi
    split at hz
    · rename_i zv hzv
      obtain ⟨m1, m2⟩ := mapM_some hz
      obtain ⟨q1, q2⟩ := hs.newObj (e := t) (vs := zv.cells.toList) (new := z) o5 (Nat.le_of_eq m1.symm) (fun j s hj => by
        have hlt : j < zv.cells.toList.length := by rw [m1]; exact (List.getElem?_eq_some_iff.1 hj).1
        obtain ⟨c1, c2, _⟩ := constC_spec (g := g) (w := w) (live := st.live) (m2 j _ s (List.getElem?_eq_getElem hlt) hj)
        exact ⟨_, List.getElem?_eq_getElem hlt, rc_one c2 c1, c2⟩) (fun s hsz t ht => by
        obtain ⟨j, hj⟩ := List.getElem?_of_mem hsz
        have hlt : j < zv.cells.toList.length := by rw [m1]; exact (List.getElem?_eq_some_iff.1 hj).1
        obtain ⟨_, _, c3⟩ := constC_spec (g := g) (w := w) (live := st.live) (m2 j _ s (List.getElem?_eq_getElem hlt) hj)
        rw [c3] at ht
        cases ht)
      refine ⟨.pointer (some ⟨w.heap.size, 0, none⟩), _, _, ?_, q1, q2, .ptr _ 0 _ (Ghost.at_same _ _ _)⟩
      simp [execOp, ho, Instr.alloc, zeroValue, typeInfo, hi, hzv, newVar, newRow]
    · cases hz
  · cases hz

theorem setCells_length : ∀ (cs : List ASlot) (off : Nat) (new : List ASlot), (setCells cs off new).length = cs.length
  | cs, off, [] => rfl
  | cs, off, s :: r => by rw [setCells, setCells_length, List.length_set]

theorem setCells_get : ∀ (new : List ASlot) (cs : List ASlot) (off i : Nat), off + new.length ≤ cs.length →
    (setCells cs off new)[i]? = if off ≤ i ∧ i < off + new.length then new[i - off]? else cs[i]?
  | [], cs, off, i, _ => by
    have : ¬ (off ≤ i ∧ i < off + 0) := by omega
    simp only [List.length_nil, if_neg this, setCells]
  | s :: r, cs, off, i, h => by
    have ih := setCells_get r (cs.set off s) (off + 1) i (by simp at h ⊢; omega)
    simp only [setCells]
    rw [ih]
    simp only [List.length_cons]
    by_cases h1 : off + 1 ≤ i ∧ i < off + 1 + r.length
    · rw [if_pos h1, if_pos (by omega), show i - off = (i - (off + 1)) + 1 by omega, List.getElem?_cons_succ]
    · rw [if_neg h1]
      by_cases h2 : i = off
      · subst h2
        rw [if_pos (by omega), Nat.sub_self, List.getElem?_cons_zero, List.getElem?_set_self (by simp at h; omega)]
      · rw [if_neg (by omega), List.getElem?_set_ne (Ne.symm h2)]

/-- A store into an object. -/
theorem SR.stored {id off b : Nat} {new : List ASlot} {us : List Value} (hs : SR N T g w st a) (hb : g b = .obj id) (h0 : 0 < (objCells st.os id).length) (hoff : off + new.length ≤ (objCells st.os id).length)
    (hl : us.length = new.length) (hu : ∀ (i : Nat) (x : ASlot), new[i]? = some x → ∃ u, us[i]? = some u ∧ u.oneCell' = true ∧ RC g w st.live u x) (htok : ∀ s ∈ new, ∀ t ∈ s.toks, T t) :
    ∃ w', (storeCells ⟨b, off, none⟩ us).run P w = .ok () w' ∧ G g w g w' ∧ SR N T g w' { st with os := st.os.set id (.row (setCells (objCells st.os id) off new)) } a := by
  obtain ⟨c, e, hheap, hsize, hcells⟩ := ro_obj hs hb h0
  have hone : ∀ v ∈ us, v.oneCell' = true := by
    intro v hv
    obtain ⟨i, hi⟩ := List.getElem?_of_mem hv
    have hlt : i < new.length := by rw [← hl]; exact (List.getElem?_eq_some_iff.1 hi).1
    obtain ⟨u, u1, u2, _⟩ := hu i new[i] (List.getElem?_eq_getElem hlt)
    rw [hi] at u1; cases u1
    exact u2
  have hrun := run_storeCells_at P b off e us 0 c w hheap (by omega) hone
  simp only [Nat.add_zero] at hrun
  generalize hc' : (c.toList.take off ++ us ++ c.toList.drop (off + us.length)).toArray = c' at hrun
  have hnew : (w.setRow b c').heap[b]? = some (.cells c' e (0, 0)) := setRow_heap w b c c' e (0, 0) hheap
  have hother : ∀ k, k ≠ b → (w.setRow b c').heap[k]? = w.heap[k]? := fun k hk => setRow_other w b k c' hk
  have hsz : (w.setRow b c').heap.size = w.heap.size := by simp [World.setRow]
  have hlen' : c'.size = c.size := by
    rw [← hc']
    simp only [List.size_toArray, List.length_append, List.length_take, List.length_drop, Array.length_toList]
    omega
  have hget : ∀ i, c'[i]? = if off ≤ i ∧ i < off + us.length then us[i - off]? else c[i]? := by
    intro i
    have hle : (c.toList.take off).length = off := by have hq : c.toList.length = c.size := Array.length_toList; rw [List.length_take]; omega
    rw [← hc']
    simp only [List.getElem?_toArray, List.append_assoc]
    by_cases h1 : i < off
    · rw [List.getElem?_append_left (by omega), List.getElem?_take_of_lt h1, if_neg (by omega)]
      simp
    · rw [List.getElem?_append_right (by omega), hle]
      by_cases h2 : i < off + us.length
      · rw [List.getElem?_append_left (by omega), if_pos (by omega)]
      · rw [List.getElem?_append_right (by omega), if_neg (by omega), List.getElem?_drop]
        rw [show off + us.length + (i - off - us.length) = i by omega]
        simp
  have hbs : ∀ k, bsize w k ≤ bsize (w.setRow b c') k := fun k => by
    by_cases hk : k = b
    · subst hk; rw [bsize_cells hheap, bsize_cells hnew]; omega
    · exact Nat.le_of_eq (bsize_same (hother k hk)).symm
  have nrow : ∀ k n o, g k = .row n o → k ≠ b := by rintro k n o h rfl; rw [hb] at h; cases h
  have hG : G g w g (w.setRow b c') :=
    ⟨rfl, rfl, rfl, by omega, fun k hk hgk => ⟨hother k (by rintro rfl; rw [hb] at hgk; cases hgk), hgk⟩, fun k m hk hgk => ⟨hother k (nrow k _ _ hgk), hgk⟩,
      fun k m t hk hgk => ⟨m, some t, hgk, Nat.le_refl _, fun i v _ hv => by rw [cell_same (hother k (nrow k _ _ hgk))]; exact hv⟩, fun k id hk hgk => ⟨hgk, hbs k⟩⟩
  have hlt : id < st.os.length := by
    obtain ⟨o, ho, _⟩ := hs.ids b id hb
    exact (List.getElem?_eq_some_iff.1 ho).1
  refine ⟨_, hrun, hG, hs.setObj hlt hG (fun k hk => hs.dom k (by omega)) hb (fun _ _ => rfl) (fun k hk _ => hother k hk) (.inr hb) (fun k hk => hs.inj k b id hk hb) ?_ ?_⟩
  · refine ⟨c', e, hnew, by rw [setCells_length, hlen']; exact hsize, fun i s hi => ?_⟩
    rw [setCells_get new _ off i hoff] at hi
    rw [hget i, hl]
    have keep : ∀ {v : Value} {x : ASlot}, RC g w st.live v x → RC g (w.setRow b c') st.live v x := fun h => RC.keep hG hs.dom (fun k n o hk => ⟨hk, hother k (nrow k n o hk)⟩) (fun k t hk => ⟨hk, hother k (by rintro rfl; rw [hb] at hk; cases hk)⟩) h
    split at hi
    · rename_i hin
      rw [if_pos hin]
      obtain ⟨u, u1, u2, u3⟩ := hu _ s hi
      exact ⟨u, u1, u2, keep u3⟩
    · rename_i hin
      rw [if_neg hin]
      obtain ⟨v, v1, v2, v3⟩ := hcells i s hi
      exact ⟨v, v1, v2, keep v3⟩
  · intro s hsm t ht
    obtain ⟨i, hi⟩ := List.getElem?_of_mem hsm
    rw [setCells_get new _ off i hoff] at hi
    split at hi
    · exact htok s (List.mem_of_getElem? hi) t ht
    · obtain ⟨o, ho, hn⟩ := hs.ids b id hb
      refine hs.wf.os id o ho s ?_ t ht
      have : objCells st.os id = o.cells := by simp [objCells, ho]
      rw [← this]
      exact List.mem_of_getElem? hi

theorem step_store {t : TypeId} {x v : Operand} {x' v' : Opd} {n : Option Nat} (ho : oper.op = .store t x v) (hn : aggN P t = some n) (hx : opdOf x = some x') (hv : opdOf v = some v') (hs : SR N T g w st a) (hob : (sem tb (.store n x' v') st).ob) :
    ∃ w', (execOp a.eval oper).run P w = .ok .skip w' ∧ G g w g w' ∧ SR N T g w' (withObj st (sem tb (.store n x' v') st).wr) a := by
  simp only [sem] at hob ⊢
  obtain ⟨o1, o2, hob⟩ := hob
  have r1 := opd_rs hs hx o1
  have r2 := opd_rs hs hv o2
  have tk := opd_toks hs hv o2
  cases hp : x'.get st.fr with
  | d p =>
    cases p with
    | ptr id off =>
      rw [hp] at r1
      simp only [hp, storeOut] at hob ⊢
      have hrv := rs_d r1
      generalize hval : a.eval x = vx at hrv
      cases hrv with
      | ptr b _ _ hg =>
      cases n with
      | none =>
        obtain ⟨h1, h2⟩ := hob
        obtain ⟨ti, d, hi, hsz, _⟩ := aggN_none hn
        have hrc : RC g w st.live (a.eval v) (v'.get st.fr) := rc_of_rs r2 (by intro l hl; rw [hl] at h2; simp [ASlot.isOne] at h2)
        have hone := rc_one hrc h2
        have hcells : (a.eval v).cells = #[a.eval v] := by cases hvv : a.eval v <;> first | rfl | (simp [hvv, Value.oneCell'] at hone)
        obtain ⟨w', q1, q2, q3⟩ := SR.stored (P := P) (id := id) (off := off) (new := [v'.get st.fr]) (us := [a.eval v]) hs hg (by have h1' : off < (objCells st.os id).length := h1; omega) (by have h1' : off < (objCells st.os id).length := h1; simp only [List.length_singleton]; omega) rfl (fun i s hs' => by
          cases i with
          | zero => simp at hs'; subst hs'; exact ⟨_, rfl, hone, hrc⟩
          | succ i => simp at hs') (by simpa using tk)
        refine ⟨w', ?_, q2, q3⟩
        simp [execOp, ho, hval, Instr.storeAt, Instr.sureAddr, storeVar, run_sizeOf_info hi, hsz, hcells, q1]
      | some k =>
        obtain ⟨ti, hi, hsz, _⟩ := aggN_some hn
        cases hq : v'.get st.fr with
        | d q =>
          cases q with
          | agg cs =>
            simp only [hq] at hob ⊢
            obtain ⟨h1, h0, h2, h3⟩ := hob
            rw [hq] at r2
            obtain ⟨us, hus, hl, hcl, hc⟩ := rv_agg (rs_d r2)
            obtain ⟨w', q1, q2, q3⟩ := SR.stored (P := P) (id := id) (off := off) (new := cs.map .d) (us := us) hs hg h0 (by simpa [h1] using h2) (by simp [hl]) (fun i s hs' => by
              simp only [List.getElem?_map, Option.map_eq_some_iff] at hs'
              obtain ⟨d, hd, rfl⟩ := hs'
              have hlt : i < us.length := by rw [hl]; exact (List.getElem?_eq_some_iff.1 hd).1
              have hr := hc i us[i] d (List.getElem?_eq_getElem hlt) hd
              exact ⟨_, List.getElem?_eq_getElem hlt, hr.oneCell (hcl d (List.mem_of_getElem? hd)), hr⟩) (by
              intro s hs' t ht
              obtain ⟨d, _, rfl⟩ := List.mem_map.1 hs'
              simp [ASlot.toks] at ht)
            refine ⟨w', ?_, q2, q3⟩
            have hul : us.length = k := by rw [hl, h1]
            simp [execOp, ho, hval, hus, Instr.storeAt, Instr.sureAddr, storeVar, run_sizeOf_info hi, hsz, Value.cells, hul, q1]
          | _ => simp [hq, Out.bad] at hob
        | _ => simp [hq, Out.bad] at hob
    | _ => simp [hp, storeOut, Out.bad] at hob
  | _ => simp [hp, storeOut, Out.bad] at hob

/-- A slice against nil: yes or no; if yes, it has no elements. -/
theorem gives_eqnilS {neg : Bool} {t u e : TypeId} {x y : Operand} {x' : Opd} {es : Nat} {rows : List (List D)} (ho : oper.op = .binOp (if neg then .neq else .eql) t x y u) (ht : P.underlying t = some (.slice e)) (hx : opdOf x = some x')
    (hy : isNilConst y = true) (hs : SR N T g w st a) (hok : x'.ok st.fr = true) (hr : (x'.get st.fr).rows = some (es, rows)) :
    ∃ b : Bool, (b = true → rows = []) ∧ Gives P g w st a oper (.d (.bool (if neg then !b else b))) := by
  have r1 := rs_rows (opd_rs hs hx hok) hr
  have hyv : a.eval y = .slice none 0 0 := by
    unfold isNilConst at hy
    split at hy
    · rfl
    · cases hy
  have key : ∀ (b : Bool), (∃ ad n c, a.eval x = .slice ad n c ∧ ad.isNone = b) → Gives P g w st a oper (.d (.bool (if neg then !b else b))) := by
    rintro b ⟨ad, n, c, hv, hb⟩
    have heq : (Op.equal t (.slice ad n c) (.slice none 0 0)).run P w = .ok b w := run_equal_of (by
      subst hb
      rw [Op.equalIn]
      cases ad <;> simp [run_underlying ht])
    refine ⟨.bool (if neg then !b else b), ?_, .bool _⟩
    cases neg with
    | false => simp [execOp, ho, hv, hyv, eqGuard_at_slice, binOp, heq]
    | true => simp [execOp, ho, hv, hyv, eqGuard_at_slice, binOp, heq]
  rcases rv_sl r1 with ⟨⟨ad, cp, hv, _⟩, rfl⟩ | ⟨b, off, cap, n, o, f, hv, _⟩
  · exact ⟨ad.isNone, fun _ => rfl, key ad.isNone ⟨_, _, _, hv, rfl⟩⟩
  · exact ⟨false, by simp, key false ⟨_, _, _, hv, rfl⟩⟩

theorem run_copy {t u ty e : TypeId} {i : TypeInfo} (ht : P.underlying t = some (.slice e)) (hi : P.info? e = some i) {base : Option Addr} {n cap k : Nat} {x : Value} {news : List Value} {w1 : World}
    (hl : (Builtin.lenOf x).run P w = .ok k w) (hf : (Builtin.firstCells i.size (Nat.min k n) x).run P w = .ok news.toArray w) (hst : ∀ ad, base = some ad → (storeCells ad news).run P w = .ok () w1) (hn : base = none → w1 = w) :
    (Builtin.copy_ #[t, u] ty #[.slice base n cap, x]).run P w = .ok (.int .i64 (Nat.min k n)) w1 := by
  cases base with
  | none =>
    have := hn rfl
    subst this
    simp [Builtin.copy_, run_underlying ht, run_sizeOf_info hi, hl, hf, goInt]
  | some ad => simp [Builtin.copy_, run_underlying ht, run_sizeOf_info hi, hl, hf, hst ad rfl, goInt]

theorem step_copy {t u e : TypeId} {s x : Operand} {s' x' : Opd} {i : TypeInfo} (ho : oper.op = .call { callee := .builtin .copy, args := #[s, x], argTypes := #[t, u] })
    (ht : P.underlying t = some (.slice e)) (hi : P.info? e = some i) (hs' : opdOf s = some s') (hx' : opdOf x = some x') (hs : SR N T g w st a) (hob : (sem tb (.copy i.size s' x') st).ob) :
    ∃ v w' g', (execOp a.eval oper).run P w = .ok (.value v) w' ∧ G g w g' w' ∧ SR N T g' w' (withObj st (sem tb (.copy i.size s' x') st).wr) a ∧ RS g' w' st.live v (sem tb (.copy i.size s' x') st).v := by
  simp only [sem] at hob ⊢
  obtain ⟨o1, o2, hob⟩ := hob
  have rs := opd_rs hs hs' o1
  have rx := opd_rs hs hx' o2
  have tkx := opd_toks hs hx' o2
  unfold copyOut at hob ⊢
  cases hsrc : srcOf i.size st.os (x'.get st.fr) with
  | none => simp [hsrc, Out.bad] at hob
  | some r =>
    simp only [hsrc] at hob ⊢
    cases hk : s'.get st.fr with
    | d p =>
      cases p with
      | ref id off es n =>
        simp only [hk] at hob ⊢
        obtain ⟨hrok, rfl, hin⟩ := hob
        rw [hk] at rs
        have hrv := rs_d rs
        obtain ⟨hes, news, hrl, hsource, _, hpre⟩ := source_of (P := P) hs rx hsrc hrok
        have hmin : Nat.min r.rows.length n ≤ r.rows.length := Nat.min_le_left _ _
        have hf := hpre _ hmin
        have hrun : ∀ base cap w1, a.eval s = .slice base n cap → (∀ ad, base = some ad → (storeCells ad (news.take (Nat.min r.rows.length n * i.size))).run P w = .ok () w1) → (base = none → w1 = w) →
            (execOp a.eval oper).run P w = .ok (.value (.int .i64 (Nat.min r.rows.length n))) w1 := by
          intro base cap w1 hv h1 h2
          have := run_copy (P := P) (t := t) (u := u) (ty := oper.type) (cap := cap) ht hi hsource.1 hf h1 h2
          simp [execOp, ho, resolve, invoke, builtin, hv, this]
        have htk : (r.rows.take n).flatten.length = Nat.min r.rows.length n * i.size := by
          rw [flat_length (es := i.size) (fun q hq => hes q (List.mem_of_mem_take hq)), List.length_take, Nat.min_comm]
        have hnl : (news.take (Nat.min r.rows.length n * i.size)).length = Nat.min r.rows.length n * i.size := by
          have h1 := hrl.1
          rw [flat_length hes] at h1
          have := Nat.mul_le_mul_right i.size hmin
          rw [List.length_take]; omega
        have hle : Nat.min r.rows.length n * i.size ≤ n * i.size := Nat.mul_le_mul_right _ (Nat.min_le_right _ _)
        have hft : (r.rows.take n).flatten = r.rows.flatten.take (n * i.size) := flat_take hes n
        have hcells : ∀ (j : Nat) (y : ASlot), ((r.rows.take n).flatten.map ASlot.d)[j]? = some y → ∃ u, (news.take (Nat.min r.rows.length n * i.size))[j]? = some u ∧ u.oneCell' = true ∧ RC g w st.live u y := by
          intro j y hj
          simp only [List.getElem?_map, Option.map_eq_some_iff] at hj
          obtain ⟨d, hd, rfl⟩ := hj
          have hjl : j < Nat.min r.rows.length n * i.size := by rw [← htk]; exact (List.getElem?_eq_some_iff.1 hd).1
          have hjn : j < (news.take (Nat.min r.rows.length n * i.size)).length := by omega
          rw [hft, List.getElem?_take] at hd
          split at hd
          · have hn' := List.getElem?_eq_getElem hjn
            have hn2 := hn'
            rw [List.getElem?_take, if_pos hjl] at hn2
            have hr := hrl.2.2 j _ d hn2 hd
            exact ⟨_, hn', hr.oneCell (hrl.2.1 d (List.mem_of_getElem? hd)), hr⟩
          · cases hd
        have htoks : ∀ s ∈ (r.rows.take n).flatten.map ASlot.d, ∀ t ∈ s.toks, T t := by
          intro s hs t ht
          obtain ⟨d, _, rfl⟩ := List.mem_map.1 hs
          simp [ASlot.toks] at ht
        -- nothing to write
        have nothing : (r.rows.take n).flatten = [] → ∀ base cap, a.eval s = .slice base n cap →
            ∃ v w' g', (execOp a.eval oper).run P w = .ok (.value v) w' ∧ G g w g' w' ∧ SR N T g' w' (withObj st (some (storeAt st.os id off ((r.rows.take n).flatten.map .d)))) a ∧ RS g' w' st.live v (.d (.int .i64 (Nat.min r.rows.length n))) := by
          intro h0 base cap hv
          have hz : news.take (Nat.min r.rows.length n * i.size) = [] := List.eq_nil_of_length_eq_zero (by rw [hnl, ← htk, h0]; rfl)
          refine ⟨_, w, g, hrun _ _ w hv (fun ad _ => by rw [hz]; rfl) (fun _ => rfl), G.refl g w, ?_, .int _ _⟩
          rw [h0]
          exact hs.touch id
        by_cases hnil : (r.rows.take n).flatten = []
        · generalize hvv : a.eval s = v at hrv
          cases hrv with
          | ref b _ _ _ _ cap => exact nothing hnil _ _ hvv
          | refnil ad => exact nothing hnil _ _ hvv
        · have hpos : 0 < (r.rows.take n).flatten.length := by
            cases hq : (r.rows.take n).flatten with
            | nil => exact (hnil hq).elim
            | cons _ _ => simp
          generalize hvv : a.eval s = v at hrv
          cases hrv with
          | refnil ad => rw [List.take_zero] at hpos; simp at hpos
          | ref b _ _ _ _ cap hg hcap hmx hsz =>
            have hn0 : n ≠ 0 := by rintro rfl; simp at hpos
            have hin' := hin.resolve_left hn0
            obtain ⟨w', q1, q2, q3⟩ := SR.stored (P := P) (id := id) (off := off) (new := (r.rows.take n).flatten.map .d) (us := news.take (Nat.min r.rows.length n * i.size)) hs hg (by omega) (by rw [List.length_map, htk]; omega)
              (by rw [List.length_map, hnl, htk]) hcells htoks
            exact ⟨_, w', g, hrun _ _ w' hvv (fun ad had => by cases had; exact q1) (fun h => by cases h), q2, q3, .int _ _⟩
      | _ => simp [hk, Out.bad] at hob
    | _ => simp [hk, Out.bad] at hob

end
end Go.Abs

/- The abstract layer, part 15: contracts of functions, and their use at a call. -/
namespace Go.Abs

structure ObjsOk (g : Ghost) (w : World) (live : List Nat) (os : List AObj) : Prop where
  objs : ∀ (id : Nat) (o : AObj), os[id]? = some o → o ≠ .none → ObjIs g w live id o
  inj : ∀ (b b' id : Nat), g b = .obj id → g b' = .obj id → b = b'
  ids : ∀ (b id : Nat), g b = .obj id → ∃ o, os[id]? = some o ∧ o ≠ .none

def toksOf (l : List ASlot) : List Nat := l.flatMap ASlot.toks

/-- THE CONTRACT OF A FUNCTION: called with such arguments, over such objects, it returns such a result, and leaves such objects. -/
def ACall (P : Program) (f : FuncId) (args : List ASlot) (objs : List AObj) (r : ASlot) (objs' : List AObj) : Prop :=
  ∀ (g : Ghost) (w : World) (vs : List Value), Dom g w → vs.length = args.length →
    (∀ (i : Nat) (v : Value) (s : ASlot), vs[i]? = some v → args[i]? = some s → RC g w (toksOf args) v s) → ObjsOk g w (toksOf args) objs →
    Calls P f vs.toArray w fun e w' => ∃ v g' live', e = .returned v ∧ G g w g' w' ∧ Dom g' w' ∧ (∀ t ∈ r.toks, t ∈ live') ∧ RS g' w' live' v r ∧ ObjsOk g' w' live' objs'

/-- An argument as the contract wants it. -/
def matchA : ASlot → ASlot → Prop
  | s, .d x => s.eqvD x
  | .own _ es rows, .own _ es' rows' => es = es' ∧ D.eqvR rows rows'
  | .uni _ es rows, .uni _ es' rows' => es = es' ∧ rows = rows'
  | .d .nilsl, .uni _ _ rows' => rows' = []
  | .full es rows, .own _ es' rows' => rowsEqv es rows es' rows'
  | .full es rows, .full es' rows' => rowsEqv es rows es' rows'
  | .d .nilsl, .own _ _ rows' => rows' = []
  | .d .nilsl, .full _ rows' => rows' = []
  | .rd cs, .rd cs' => D.eqvL cs cs'
  | _, _ => False

def matchAll : List ASlot → List ASlot → Prop
  | [], [] => True
  | s :: l, f :: r => matchA s f ∧ matchAll l r
  | _, _ => False

/-- The tokens that are handed over: the caller's, and the contract's name for each. -/
def handed : List ASlot → List ASlot → List (Nat × Nat)
  | .own t _ _ :: l, .own t' _ _ :: r => (t, t') :: handed l r
  | .uni t _ _ :: l, .uni t' _ _ :: r => (t, t') :: handed l r
  | _ :: l, _ :: r => handed l r
  | _, _ => []

def ASlot.noPtr : ASlot → Bool
  | .d x => x.noPtr
  | .own _ _ rows => D.noPtrR rows
  | .uni _ _ rows => D.noPtrR rows
  | .full _ rows => D.noPtrR rows
  | .rd cs => D.noPtrL cs
  | _ => false

/-- A result's tokens, under new names. -/
def renT (toks : List Nat) (base : Nat) : ASlot → ASlot
  | .own t es rows => .own (base + toks.idxOf t) es rows
  | .uni t es rows => .uni (base + toks.idxOf t) es rows
  | s => s

def retok (base : Nat) (r : ASlot) : ASlot :=
  match r with
  | .tup l => .tup (l.map (renT r.toks base))
  | s => renT r.toks base s

theorem renT_toks {toks : List Nat} {base t : Nat} {s : ASlot} (hn : ∀ l, s ≠ .tup l) (h : t ∈ (renT toks base s).toks) : ∃ u ∈ s.toks, t = base + toks.idxOf u := by
  cases s with
  | own u es rows => simp [renT, ASlot.toks] at h ⊢; exact h
  | uni u es rows => simp [renT, ASlot.toks] at h ⊢; exact h
  | tup l => exact (hn l rfl).elim
  | _ => simp [renT, ASlot.toks] at h

theorem tokOf_sub {s : ASlot} {t : Nat} (h : t ∈ tokOf s) : t ∈ s.toks ∧ ∀ l, s ≠ .tup l := by
  cases s <;> simp [tokOf] at h <;> subst h <;> exact ⟨by simp [ASlot.toks], by simp⟩

theorem retok_toks {base t : Nat} {r : ASlot} (h : t ∈ (retok base r).toks) : base ≤ t ∧ t < base + r.toks.length := by
  have fin : ∀ u, u ∈ r.toks → t = base + r.toks.idxOf u → base ≤ t ∧ t < base + r.toks.length := by
    intro u hu ht
    have := List.idxOf_lt_length_of_mem hu
    omega
  by_cases hr : ∃ l, r = .tup l
  · obtain ⟨l, rfl⟩ := hr
    simp only [retok, ASlot.toks, List.mem_flatMap, List.mem_map] at h
    obtain ⟨s, ⟨s', hs', rfl⟩, hts⟩ := h
    obtain ⟨h1, h2⟩ := tokOf_sub hts
    have hn : ∀ l, s' ≠ .tup l := by intro l' hl; subst hl; exact h2 _ rfl
    obtain ⟨u, hu, ht⟩ := renT_toks hn h1
    refine fin u ?_ ht
    simp only [ASlot.toks, List.mem_flatMap]
    refine ⟨s', hs', ?_⟩
    cases s' <;> simp [ASlot.toks] at hu
    · subst hu; simp [tokOf]
    · subst hu; simp [tokOf]
    · exact (hn _ rfl).elim
  · have hn : ∀ l, r ≠ .tup l := fun l h => hr ⟨l, h⟩
    have he : retok base r = renT r.toks base r := by cases r <;> first | rfl | exact (hn _ rfl).elim
    rw [he] at h
    obtain ⟨u, hu, ht⟩ := renT_toks hn h
    exact fin u hu ht

def pairOf (l : List (Nat × Nat)) (t : Nat) : Option Nat := (l.find? (·.1 == t)).map (·.2)

theorem pairOf_mem {l : List (Nat × Nat)} {t t' : Nat} (h : pairOf l t = some t') : (t, t') ∈ l := by
  unfold pairOf at h
  cases hf : l.find? (·.1 == t) with
  | none => simp [hf] at h
  | some p =>
    simp [hf] at h
    have h1 := List.find?_some hf
    have h2 := List.mem_of_find?_eq_some hf
    obtain ⟨p1, p2⟩ := p
    simp at h1 h
    subst h1 h
    exact h2

theorem pairOf_none {l : List (Nat × Nat)} {t : Nat} (h : pairOf l t = none) : t ∉ l.map (·.1) := by
  intro hm
  obtain ⟨p, hp, rfl⟩ := List.mem_map.1 hm
  unfold pairOf at h
  simp only [Option.map_eq_none_iff, List.find?_eq_none] at h
  exact h p hp (by simp)

theorem pairOf_of_mem {l : List (Nat × Nat)} (hn : (l.map (·.1)).Nodup) {t t' : Nat} (h : (t, t') ∈ l) : pairOf l t = some t' := by
  cases hp : pairOf l t with
  | none => exact (pairOf_none hp (List.mem_map.2 ⟨(t, t'), h, rfl⟩)).elim
  | some u =>
    have := pairOf_mem hp
    congr 1
    induction l with
    | nil => cases h
    | cons q l ih =>
      simp only [List.map_cons, List.nodup_cons] at hn
      have hp' : ∀ x, (t, x) ∈ l → q.1 ≠ t := fun x hx he => hn.1 (List.mem_map.2 ⟨(t, x), hx, he.symm⟩)
      rcases List.mem_cons.1 h with h1 | h1 <;> rcases List.mem_cons.1 this with h2 | h2
      · rw [← h1] at h2; cases h2; rfl
      · exact (hp' u h2 (by rw [← h1])).elim
      · exact (hp' t' h1 (by rw [← h2])).elim
      · refine ih hn.2 h1 ?_ h2
        unfold pairOf at hp ⊢
        rw [List.find?_cons_of_neg (by simpa using hp' u h2)] at hp
        exact hp

/-! ### Objects under other numbers -/

mutual
def D.ren (ι : List Nat) : D → D
  | .ptr id off => .ptr (ι.getD id 0) off
  | .ref id off es len => .ref (ι.getD id 0) off es len
  | .map id => .map (ι.getD id 0)
  | .sl es rows => .sl es (D.renR ι rows)
  | .agg cs => .agg (D.renL ι cs)
  | .func fn a b => .func fn (D.renL ι a) (D.renL ι b)
  | .iface t d => .iface t (D.ren ι d)
  | .int k n => .int k n
  | .bool b => .bool b
  | .str s => .str s
  | .nilptr => .nilptr
  | .nilfunc => .nilfunc
  | .niliface => .niliface
  | .nilmap => .nilmap
  | .nilsl => .nilsl
def D.renL (ι : List Nat) : List D → List D
  | [] => []
  | d :: l => D.ren ι d :: D.renL ι l
def D.renR (ι : List Nat) : List (List D) → List (List D)
  | [] => []
  | r :: l => D.renL ι r :: D.renR ι l
end

mutual
/-- All pointers lead to the first k objects. -/
def D.inK (k : Nat) : D → Bool
  | .ptr id _ => decide (id < k)
  | .ref id _ _ _ => decide (id < k)
  | .map id => decide (id < k)
  | .sl _ rows => D.inKR k rows
  | .agg cs => D.inKL k cs
  | .func _ a b => D.inKL k a && D.inKL k b
  | .iface _ d => D.inK k d
  | .int .. => true
  | .bool .. => true
  | .str .. => true
  | .nilptr => true
  | .nilfunc => true
  | .niliface => true
  | .nilmap => true
  | .nilsl => true
def D.inKL (k : Nat) : List D → Bool
  | [] => true
  | d :: l => D.inK k d && D.inKL k l
def D.inKR (k : Nat) : List (List D) → Bool
  | [] => true
  | r :: l => D.inKL k r && D.inKR k l
end

theorem D.renL_map (ι : List Nat) : ∀ l : List D, D.renL ι l = l.map (D.ren ι)
  | [] => rfl
  | d :: l => by simp only [D.renL, List.map_cons, D.renL_map ι l]
theorem D.renR_map (ι : List Nat) : ∀ l : List (List D), D.renR ι l = l.map fun r => r.map (D.ren ι)
  | [] => rfl
  | r :: l => by simp only [D.renR, List.map_cons, D.renL_map, D.renR_map ι l]
theorem D.inKL_iff (k : Nat) : ∀ l : List D, D.inKL k l = true ↔ ∀ d ∈ l, d.inK k = true
  | [] => by simp [D.inKL]
  | d :: l => by simp [D.inKL, D.inKL_iff k l]
theorem D.inKR_iff (k : Nat) : ∀ l : List (List D), D.inKR k l = true ↔ ∀ d ∈ l.flatten, d.inK k = true
  | [] => by simp [D.inKR]
  | r :: l => by
    simp only [D.inKR, Bool.and_eq_true, D.inKL_iff, D.inKR_iff k l, List.flatten_cons, List.mem_append]
    constructor
    · rintro ⟨h1, h2⟩ d (h | h)
      · exact h1 d h
      · exact h2 d h
    · exact fun h => ⟨fun d hd => h d (.inl hd), fun d hd => h d (.inr hd)⟩

mutual
theorem D.ren_noPtr (ι : List Nat) : ∀ {d : D}, d.noPtr = true → d.ren ι = d
  | .sl es rows, h => by simp only [D.ren, D.renR_noPtr ι (l := rows) (by simpa only [D.noPtr] using h)]
  | .agg cs, h => by simp only [D.ren, D.renL_noPtr ι (l := cs) (by simpa only [D.noPtr] using h)]
  | .ptr .., h => by simp [D.noPtr] at h
  | .ref .., h => by simp [D.noPtr] at h
  | .map _, h => by simp [D.noPtr] at h
  | .func fn a b, h => by
    simp only [D.noPtr, Bool.and_eq_true] at h
    simp only [D.ren, D.renL_noPtr ι h.1, D.renL_noPtr ι h.2]
  | .iface t d, h => by simp only [D.ren, D.ren_noPtr ι (d := d) (by simpa only [D.noPtr] using h)]
  | .int .., _ => rfl
  | .bool .., _ => rfl
  | .str .., _ => rfl
  | .nilptr, _ => rfl
  | .nilfunc, _ => rfl
  | .niliface, _ => rfl
  | .nilmap, _ => rfl
  | .nilsl, _ => rfl
theorem D.renL_noPtr (ι : List Nat) : ∀ {l : List D}, D.noPtrL l = true → D.renL ι l = l
  | [], _ => rfl
  | d :: l, h => by
    simp only [D.noPtrL, Bool.and_eq_true] at h
    simp only [D.renL, D.ren_noPtr ι h.1, D.renL_noPtr ι h.2]
theorem D.renR_noPtr (ι : List Nat) : ∀ {l : List (List D)}, D.noPtrR l = true → D.renR ι l = l
  | [], _ => rfl
  | r :: l, h => by
    simp only [D.noPtrR, Bool.and_eq_true] at h
    simp only [D.renR, D.renL_noPtr ι h.1, D.renR_noPtr ι h.2]
end

mutual
theorem D.inK_noPtr (k : Nat) : ∀ {d : D}, d.noPtr = true → d.inK k = true
  | .sl es rows, h => by simp only [D.inK]; exact D.inKR_noPtr k (l := rows) (by simpa only [D.noPtr] using h)
  | .agg cs, h => by simp only [D.inK]; exact D.inKL_noPtr k (l := cs) (by simpa only [D.noPtr] using h)
  | .ptr .., h => by simp [D.noPtr] at h
  | .ref .., h => by simp [D.noPtr] at h
  | .map _, h => by simp [D.noPtr] at h
  | .func fn a b, h => by
    simp only [D.noPtr, Bool.and_eq_true] at h
    simp only [D.inK, D.inKL_noPtr k h.1, D.inKL_noPtr k h.2, Bool.and_self]
  | .iface t d, h => by simp only [D.inK]; exact D.inK_noPtr k (d := d) (by simpa only [D.noPtr] using h)
  | .int .., _ => rfl
  | .bool .., _ => rfl
  | .str .., _ => rfl
  | .nilptr, _ => rfl
  | .nilfunc, _ => rfl
  | .niliface, _ => rfl
  | .nilmap, _ => rfl
  | .nilsl, _ => rfl
theorem D.inKL_noPtr (k : Nat) : ∀ {l : List D}, D.noPtrL l = true → D.inKL k l = true
  | [], _ => rfl
  | d :: l, h => by
    simp only [D.noPtrL, Bool.and_eq_true] at h
    simp only [D.inKL, D.inK_noPtr k h.1, D.inKL_noPtr k h.2, Bool.and_self]
theorem D.inKR_noPtr (k : Nat) : ∀ {l : List (List D)}, D.noPtrR l = true → D.inKR k l = true
  | [], _ => rfl
  | r :: l, h => by
    simp only [D.noPtrR, Bool.and_eq_true] at h
    simp only [D.inKR, D.inKL_noPtr k h.1, D.inKR_noPtr k h.2, Bool.and_self]
end

def ASlot.ren1 (ι : List Nat) : ASlot → ASlot
  | .d x => .d (x.ren ι)
  | .own t es rows => .own t es (D.renR ι rows)
  | .uni t es rows => .uni t es (D.renR ι rows)
  | .full es rows => .full es (D.renR ι rows)
  | .rd cs => .rd (D.renL ι cs)
  | s => s
/-- A slot under other numbers; where no objects are handed over, itself. -/
def ASlot.ren (ι : List Nat) (s : ASlot) : ASlot :=
  match ι with
  | [] => s
  | _ => match s with
    | .tup l => .tup (l.map (ASlot.ren1 ι))
    | s => s.ren1 ι
def AObj.ren (ι : List Nat) : AObj → AObj
  | .none => .none
  | .row cs => .row (cs.map (ASlot.ren1 ι))

def ASlot.inK (k : Nat) : ASlot → Bool
  | .d x => x.inK k
  | .own _ _ rows => D.inKR k rows
  | .uni _ _ rows => D.inKR k rows
  | .full _ rows => D.inKR k rows
  | .rd cs => D.inKL k cs
  | _ => false

theorem ren1_toks (ι : List Nat) (s : ASlot) : (s.ren1 ι).toks = s.toks := by cases s <;> rfl
theorem ren_toks (ι : List Nat) (s : ASlot) : (s.ren ι).toks = s.toks := by
  cases ι with
  | nil => rfl
  | cons x ι =>
    cases s with
    | tup l =>
      simp only [ASlot.ren, ASlot.toks, List.flatMap_map]
      congr 1
      funext s
      cases s <;> rfl
    | _ => rfl

/-- Where a number stands. -/
def posOf : List Nat → Nat → Option Nat
  | [], _ => none
  | x :: l, id => if x = id then some 0 else (posOf l id).map (· + 1)

theorem posOf_some : ∀ {l : List Nat} {id j : Nat}, posOf l id = some j → l[j]? = some id
  | [], _, _, h => by simp [posOf] at h
  | x :: l, id, j, h => by
    simp only [posOf] at h
    split at h
    · rename_i hx; cases h; simp [hx]
    · rw [Option.map_eq_some_iff] at h
      obtain ⟨i, hi, rfl⟩ := h
      simpa using posOf_some hi

theorem posOf_get : ∀ {l : List Nat}, l.Nodup → ∀ {id j : Nat}, l[j]? = some id → posOf l id = some j
  | [], _, _, _, h => by simp at h
  | x :: l, hn, id, j, h => by
    rw [List.nodup_cons] at hn
    cases j with
    | zero => simp at h; simp [posOf, h]
    | succ j =>
      have hj : l[j]? = some id := by simpa using h
      have hne : x ≠ id := fun he => hn.1 (he ▸ List.mem_of_getElem? hj)
      simp only [posOf, if_neg hne, posOf_get hn.2 hj, Option.map_some]

theorem posOf_none {l : List Nat} {id : Nat} (h : id ∉ l) : posOf l id = none := by
  cases hp : posOf l id with
  | none => rfl
  | some j => exact (h (List.mem_of_getElem? (posOf_some hp))).elim

/-- An object as the contract wants it. -/
def matchC : ASlot → ASlot → Prop
  | s, .d x => s.eqvD x
  | _, .bad => True
  | _, _ => False
def matchCs : List ASlot → List ASlot → Prop
  | s :: l, f :: r => matchC s f ∧ matchCs l r
  | _, [] => True
  | [], _ :: _ => False
def matchO : AObj → AObj → Prop
  | .row cs, .row fs => matchCs cs fs
  | _, _ => False
def AObj.inK (k : Nat) : AObj → Bool
  | .none => true
  | .row cs => cs.all fun s => match s with | .bad => true | s => s.inK k
mutual
theorem inK0_noPtr : ∀ {d : D}, d.inK 0 = true → d.noPtr = true
  | .sl es rows, h => by simp only [D.noPtr]; exact inK0R_noPtr (rows := rows) (by simpa only [D.inK] using h)
  | .agg cs, h => by simp only [D.noPtr]; exact inK0L_noPtr (cs := cs) (by simpa only [D.inK] using h)
  | .ptr .., h => by simp [D.inK] at h
  | .ref .., h => by simp [D.inK] at h
  | .map _, h => by simp [D.inK] at h
  | .func fn a b, h => by
    simp only [D.inK, Bool.and_eq_true] at h
    simp only [D.noPtr, inK0L_noPtr h.1, inK0L_noPtr h.2, Bool.and_self]
  | .iface t d, h => by simp only [D.noPtr]; exact inK0_noPtr (d := d) (by simpa only [D.inK] using h)
  | .int .., _ => rfl
  | .bool .., _ => rfl
  | .str .., _ => rfl
  | .nilptr, _ => rfl
  | .nilfunc, _ => rfl
  | .niliface, _ => rfl
  | .nilmap, _ => rfl
  | .nilsl, _ => rfl
theorem inK0L_noPtr : ∀ {cs : List D}, D.inKL 0 cs = true → D.noPtrL cs = true
  | [], _ => rfl
  | d :: l, h => by
    simp only [D.inKL, Bool.and_eq_true] at h
    simp only [D.noPtrL, inK0_noPtr h.1, inK0L_noPtr h.2, Bool.and_self]
theorem inK0R_noPtr : ∀ {rows : List (List D)}, D.inKR 0 rows = true → D.noPtrR rows = true
  | [], _ => rfl
  | r :: l, h => by
    simp only [D.inKR, Bool.and_eq_true] at h
    simp only [D.noPtrR, inK0L_noPtr h.1, inK0R_noPtr h.2, Bool.and_self]
end

/-- The caller's objects that are handed over. -/
def objsIn (κ : List Nat) (os : List AObj) : List Nat → List AObj → Prop
  | _, [] => True
  | id :: ι, o :: fo => (∃ c, os[id]? = some c ∧ matchO c (o.ren κ)) ∧ objsIn κ os ι fo
  | [], _ :: _ => False

/-- The ghost as the callee has it. -/
def calleeG (hs : List (Nat × Nat)) (ι : List Nat) (g : Ghost) : Ghost := fun b =>
  match g b with
  | .row n (some t) => .row n (pairOf hs t)
  | .row n none => .row n none
  | .uni t => match pairOf hs t with | some t' => .uni t' | none => .out
  | .obj id => match posOf ι id with | some j => .obj j | none => .out
  | .out => .out

/-- A callee's role, as the caller names it. -/
def upR (ι : List Nat) (ren : Nat → Option Nat) : Role → Role
  | .row n' o => .row n' (o.bind ren)
  | .uni u => match ren u with | some u' => .uni u' | none => .out
  | .obj j => match ι[j]? with | some id => .obj id | none => .out
  | .out => .out

/-- The ghost behind the call. -/
def backG (hs : List (Nat × Nat)) (ι : List Nat) (size : Nat) (ren : Nat → Option Nat) (g g1 : Ghost) : Ghost := fun b =>
  if b < size then
    match g b with
    | .row n (some t) => match pairOf hs t with
      | some _ => match g1 b with
        | .row n' o => .row n' (o.bind ren)
        | _ => .row n none
      | none => .row n (some t)
    | .uni t => match pairOf hs t with
      | some _ => upR ι ren (g1 b)
      | none => .uni t
    | r => r
  else upR ι ren (g1 b)

section
variable {P : Program} {T : Nat → Prop} {g : Ghost} {w : World} {live : List Nat}

theorem asD_rv {v : Value} {s : ASlot} {x : D} (h : RS g w live v s) (hd : s.asD = some x) : RV g w v x := by
  cases s <;> simp [ASlot.asD] at hd <;> subst hd
  · exact h
  · exact h.1
  · exact h.1

theorem eqvD_rv {v : Value} {s : ASlot} {x : D} (h : RS g w live v s) (hd : s.eqvD x) : RV g w v x := by
  cases s with
  | d y => exact RV.eqv h hd
  | own t es rows => exact RV.eqv h.1 hd
  | full es rows => exact RV.eqv h.1 hd
  | _ => exact hd.elim

theorem rowsEqv_rv {v : Value} {es es' : Nat} {rows rows' : List (List D)} (h : RV g w v (.sl es rows)) (he : rowsEqv es rows es' rows') : RV g w v (.sl es' rows') :=
  h.eqv (by simp only [D.eqv]; exact he)

theorem full_eqv {v : Value} {rows rows' : List (List D)} (h : ∃ a, v = .slice a rows.length rows.length) (he : D.eqvR rows rows') : ∃ a, v = .slice a rows'.length rows'.length := by
  rw [← (D.eqvR_flat he).2.1]; exact h

theorem ownOk_eqv {t es : Nat} {v : Value} {rows rows' : List (List D)} (h : OwnOk g w t es rows v) (he : D.eqvR rows rows') : OwnOk g w t es rows' v := by
  unfold OwnOk
  rw [← (D.eqvR_flat he).2.1]; exact h

/-- A pointer to cells that stand for good, up to the element size of empty slices. -/
theorem rd_eqv {v : Value} {cs cs' : List D} (h : RC g w live v (.rd cs)) (he : D.eqvL cs cs') : RC g w live v (.rd cs') := by
  obtain ⟨b, off, n, o, f, rfl, hg, hn, hcc⟩ := h
  refine ⟨b, off, n, o, f, rfl, hg, by rw [← D.eqvL_length he]; exact hn, fun j d' hj => ?_⟩
  obtain ⟨d, hd, hdd⟩ := D.eqvL_get he j d' hj
  obtain ⟨c1, c2, c3⟩ := hcc j d hd
  exact ⟨by rw [D.eqv_isCell hdd]; exact c1, c2, c3.eqv hdd⟩

theorem nil_own {v : Value} {y : D} {t es : Nat} {rows : List (List D)} (h : RS g w live v (.d y)) (hm : matchA (.d y) (.own t es rows)) : v = .slice none 0 0 ∧ rows = [] := by
  cases y <;> first | exact hm.elim | skip
  have h' : RV g w v .nilsl := h
  cases h'
  exact ⟨rfl, hm⟩

theorem nil_uni {v : Value} {y : D} {t es : Nat} {rows : List (List D)} (h : RS g w live v (.d y)) (hm : matchA (.d y) (.uni t es rows)) : v = .slice none 0 0 ∧ rows = [] := by
  cases y <;> first | exact hm.elim | skip
  have h' : RV g w v .nilsl := h
  cases h'
  exact ⟨rfl, hm⟩

theorem nil_full {v : Value} {y : D} {es : Nat} {rows : List (List D)} (h : RS g w live v (.d y)) (hm : matchA (.d y) (.full es rows)) : v = .slice none 0 0 ∧ rows = [] := by
  cases y <;> first | exact hm.elim | skip
  have h' : RV g w v .nilsl := h
  cases h'
  exact ⟨rfl, hm⟩

theorem matchAll_get : ∀ {l r : List ASlot}, matchAll l r → l.length = r.length ∧ ∀ (i : Nat) (s f : ASlot), l[i]? = some s → r[i]? = some f → matchA s f
  | [], [], _ => by simp
  | s :: l, f :: r, h => by
    obtain ⟨h1, h2⟩ := h
    obtain ⟨k1, k2⟩ := matchAll_get h2
    refine ⟨by simp [k1], fun i s' f' hs hf => ?_⟩
    cases i with
    | zero => simp at hs hf; subst hs hf; exact h1
    | succ i => exact k2 i s' f' (by simpa using hs) (by simpa using hf)
  | [], _ :: _, h => h.elim
  | _ :: _, [], h => h.elim

theorem handed_get : ∀ {l r : List ASlot} (i t es : Nat) (rows : List (List D)) (t' es' : Nat) (rows' : List (List D)), l[i]? = some (.own t es rows) → r[i]? = some (.own t' es' rows') → (t, t') ∈ handed l r
  | [], _, i, t, es, rows, t', es', rows', h, _ => by simp at h
  | s :: l, [], i, t, es, rows, t', es', rows', _, h => by simp at h
  | s :: l, f :: r, i, t, es, rows, t', es', rows', hs, hf => by
    cases i with
    | zero => simp at hs hf; subst hs hf; simp [handed]
    | succ i =>
      have ih := handed_get (l := l) (r := r) i t es rows t' es' rows' (by simpa using hs) (by simpa using hf)
      cases s <;> cases f <;> simp [handed] <;> first | exact ih | exact .inr ih

theorem handed_getU : ∀ {l r : List ASlot} (i t es : Nat) (rows : List (List D)) (t' es' : Nat) (rows' : List (List D)), l[i]? = some (.uni t es rows) → r[i]? = some (.uni t' es' rows') → (t, t') ∈ handed l r
  | [], _, i, t, es, rows, t', es', rows', h, _ => by simp at h
  | s :: l, [], i, t, es, rows, t', es', rows', _, h => by simp at h
  | s :: l, f :: r, i, t, es, rows, t', es', rows', hs, hf => by
    cases i with
    | zero => simp at hs hf; subst hs hf; simp [handed]
    | succ i =>
      have ih := handed_getU (l := l) (r := r) i t es rows t' es' rows' (by simpa using hs) (by simpa using hf)
      cases s <;> cases f <;> simp [handed] <;> first | exact ih | exact .inr ih

/-- Fits of all arguments at a call. -/
structure Fits (live : List Nat) (as fa : List ASlot) (ι : List Nat) (k : Nat) : Prop where
  all : matchAll as (fa.map (ASlot.ren ι))
  inK : fa.all (ASlot.inK k) = true
  lv : ∀ p ∈ handed as fa, p.1 ∈ live
  nd1 : ((handed as fa).map (·.1)).Nodup

/-- Fits of the objects. -/
structure ObjFit (os : List AObj) (fo fo' : List AObj) (ι : List Nat) : Prop where
  nd : ι.Nodup
  len : ι.length = fo'.length
  le : fo.length ≤ fo'.length
  olds : objsIn ι os ι fo
  news : ∀ id ∈ ι.drop fo.length, os[id]? = some .none
  inK : fo.all (AObj.inK fo.length) = true
  toks : ∀ o ∈ fo', ∀ s ∈ o.cells, s.toks = []

theorem objsIn_get {κ : List Nat} {os : List AObj} : ∀ {ι : List Nat} {fo : List AObj}, objsIn κ os ι fo → ∀ (j : Nat) (o : AObj), fo[j]? = some o → ∃ id c, ι[j]? = some id ∧ os[id]? = some c ∧ matchO c (o.ren κ)
  | _, [], _, j, o, h => by simp at h
  | [], _ :: _, h, _, _, _ => h.elim
  | id :: ι, o' :: fo, h, j, o, hj => by
    obtain ⟨⟨c, h1, h2⟩, h3⟩ := h
    cases j with
    | zero => simp at hj; subst hj; exact ⟨id, c, rfl, h1, h2⟩
    | succ j => simpa using objsIn_get h3 j o (by simpa using hj)

theorem rowsKept_callee (hs : List (Nat × Nat)) (ι : List Nat) (g : Ghost) (w : World) : RowsKept g w (calleeG hs ι g) w := by
  intro b n o hg
  refine ⟨n, o.bind (pairOf hs), ?_, Nat.le_refl _, fun _ _ _ h => h⟩
  unfold calleeG
  rw [hg]
  cases o <;> rfl

theorem ren_isCell (ι : List Nat) (d : D) : (d.ren ι).isCell = d.isCell := by cases d <;> rfl

theorem flat_ren (ι : List Nat) (rows : List (List D)) : (D.renR ι rows).flatten = rows.flatten.map (D.ren ι) := by
  rw [D.renR_map, List.map_flatten]

/-- What the caller reads, the callee reads, under its numbers. -/
theorem RV.down {hs : List (Nat × Nat)} {ι : List Nat} {k : Nat} (hn : ι.Nodup) (hk : k ≤ ι.length) {v : Value} {x : D} (h : RV g w v x) : ∀ {y : D}, x = y.ren ι → y.inK k = true → RV (calleeG hs (ι.take k) g) w v y := by
  have hobj : ∀ (b i : Nat), i < k → g b = .obj (ι.getD i 0) → calleeG hs (ι.take k) g b = .obj i := by
    intro b i hi hg
    have hii : (ι.take k)[i]? = some (ι.getD i 0) := by
      rw [List.getElem?_take_of_lt hi, List.getD_eq_getElem?_getD, List.getElem?_eq_getElem (by omega)]
      rfl
    unfold calleeG
    rw [hg]
    simp only [posOf_get (hn.sublist (List.take_sublist _ _)) hii]
  have hr := rowsKept_callee hs (ι.take k) g w
  induction h with
  | int k n => intro y hx hy; cases y <;> simp [D.ren] at hx; obtain ⟨rfl, rfl⟩ := hx; exact .int _ _
  | bool b => intro y hx hy; cases y <;> simp [D.ren] at hx; subst hx; exact .bool _
  | str s => intro y hx hy; cases y <;> simp [D.ren] at hx; subst hx; exact .str _
  | nilsl a c es hz =>
    intro y hx hy
    cases y <;> simp only [D.ren, reduceCtorEq] at hx
    rename_i es' rows'
    simp only [D.sl.injEq] at hx
    obtain ⟨rfl, hx⟩ := hx
    cases rows' with
    | nil => exact .nilsl a c _ hz
    | cons r l => simp [D.renR] at hx
  | sl b off cap es n o rows f hg hnn hcap hes hcl hcell _ ih =>
    intro y hx hy
    cases y <;> simp only [D.ren, reduceCtorEq] at hx
    rename_i es' rows'
    simp only [D.sl.injEq] at hx
    obtain ⟨rfl, rfl⟩ := hx
    simp only [D.inK, D.inKR_iff] at hy
    have hfl := flat_ren ι rows'
    have hlen : (D.renR ι rows').flatten.length = rows'.flatten.length := by rw [hfl, List.length_map]
    have hl2 : (D.renR ι rows').length = rows'.length := by rw [D.renR_map, List.length_map]
    obtain ⟨n', o', hg', h1, h2⟩ := hr b n o hg
    rw [hl2]
    refine .sl b off cap _ n' o' rows' f hg' (by omega) (by omega) (fun r hrr => ?_) (fun d hd => ?_) (fun j d hj => ?_) (fun j d hj => ?_)
    · have := hes (r.map (D.ren ι)) (by rw [D.renR_map]; exact List.mem_map.2 ⟨r, hrr, rfl⟩)
      simpa using this
    · have := hcl (d.ren ι) (by rw [hfl]; exact List.mem_map.2 ⟨d, hd, rfl⟩)
      rwa [ren_isCell] at this
    · exact hcell j (d.ren ι) (by rw [hfl, List.getElem?_map, hj]; rfl)
    · exact ih j (d.ren ι) (by rw [hfl, List.getElem?_map, hj]; rfl) rfl (hy d (List.mem_of_getElem? hj))
  | agg vs ds hl hcl _ ih =>
    intro y hx hy
    cases y <;> simp only [D.ren, reduceCtorEq] at hx
    rename_i ds'
    simp only [D.agg.injEq, D.renL_map] at hx
    subst hx
    simp only [D.inK, D.inKL_iff] at hy
    refine .agg vs ds' (by simpa using hl) (fun d hd => ?_) (fun j v d hv hd => ?_)
    · have := hcl (d.ren ι) (List.mem_map.2 ⟨d, hd, rfl⟩)
      rwa [ren_isCell] at this
    · exact ih j v (d.ren ι) hv (by rw [List.getElem?_map, hd]; rfl) rfl (hy d (List.mem_of_getElem? hd))
  | ptr b off id hg =>
    intro y hx hy
    cases y <;> simp only [D.ren, reduceCtorEq] at hx
    simp only [D.ptr.injEq] at hx
    obtain ⟨rfl, rfl⟩ := hx
    simp only [D.inK, decide_eq_true_eq] at hy
    exact .ptr b _ _ (hobj b _ hy hg)
  | refnil a id off es =>
    intro y hx hy
    cases y <;> simp only [D.ren, reduceCtorEq] at hx
    simp only [D.ref.injEq] at hx
    obtain ⟨rfl, rfl, rfl, rfl⟩ := hx
    exact .refnil _ _ _ _
  | ref b off id es len cap hg hcap hm hsz =>
    intro y hx hy
    cases y <;> simp only [D.ren, reduceCtorEq] at hx
    simp only [D.ref.injEq] at hx
    obtain ⟨rfl, rfl, rfl, rfl⟩ := hx
    simp only [D.inK, decide_eq_true_eq] at hy
    exact .ref b _ _ _ _ cap (hobj b _ hy hg) hcap hm hsz
  | nilptr => intro y hx hy; cases y <;> simp [D.ren] at hx; exact .nilptr
  | func fn vf vc df dc hf hc _ _ i1 i2 =>
    intro y hx hy
    cases y <;> simp only [D.ren, reduceCtorEq] at hx
    rename_i fn' a b
    simp only [D.func.injEq, D.renL_map] at hx
    obtain ⟨rfl, rfl, rfl⟩ := hx
    simp only [D.inK, Bool.and_eq_true, D.inKL_iff] at hy
    exact .func _ vf vc a b (by simpa using hf) (by simpa using hc) (fun j v d hv hd => i1 j v (d.ren ι) hv (by rw [List.getElem?_map, hd]; rfl) rfl (hy.1 d (List.mem_of_getElem? hd)))
      (fun j v d hv hd => i2 j v (d.ren ι) hv (by rw [List.getElem?_map, hd]; rfl) rfl (hy.2 d (List.mem_of_getElem? hd)))
  | nilfunc => intro y hx hy; cases y <;> simp [D.ren] at hx; exact .nilfunc
  | iface t v d _ ih =>
    intro y hx hy
    cases y <;> simp only [D.ren, reduceCtorEq] at hx
    simp only [D.iface.injEq] at hx
    obtain ⟨rfl, rfl⟩ := hx
    exact .iface _ v _ (ih rfl (by simpa only [D.inK] using hy))
  | niliface => intro y hx hy; cases y <;> simp [D.ren] at hx; exact .niliface
  | map b id hg =>
    intro y hx hy
    cases y <;> simp only [D.ren, reduceCtorEq] at hx
    simp only [D.map.injEq] at hx
    subst hx
    simp only [D.inK, decide_eq_true_eq] at hy
    exact .map b _ (hobj b _ hy hg)
  | nilmap => intro y hx hy; cases y <;> simp [D.ren] at hx; exact .nilmap
  | nils => intro y hx hy; cases y <;> simp [D.ren] at hx; exact .nils

/-- What the callee leaves, the caller reads, under its numbers. -/
theorem RV.up {ι : List Nat} {g1 g' : Ghost} (hr : RowsKept g1 w g' w) (ho : ∀ (b j : Nat), g1 b = .obj j → g' b = .obj (ι.getD j 0)) {v : Value} {y : D} (h : RV g1 w v y) : RV g' w v (y.ren ι) := by
  induction h with
  | int k n => exact .int _ _
  | bool b => exact .bool _
  | str s => exact .str _
  | nilsl a c es hz => exact .nilsl a c es hz
  | sl b off cap es n o rows f hg hnn hcap hes hcl hcell _ ih =>
    obtain ⟨n', o', hg', h1, h2⟩ := hr b n o hg
    have hfl := flat_ren ι rows
    have hlen : (D.renR ι rows).flatten.length = rows.flatten.length := by rw [hfl, List.length_map]
    have hl2 : rows.length = (D.renR ι rows).length := by rw [D.renR_map, List.length_map]
    simp only [D.ren]
    rw [hl2]
    refine .sl b off cap _ n' o' (D.renR ι rows) f hg' (by omega) (by omega) (fun r hrr => ?_) (fun d hd => ?_) (fun j d hj => ?_) (fun j d hj => ?_)
    · rw [D.renR_map] at hrr
      obtain ⟨r0, h0, rfl⟩ := List.mem_map.1 hrr
      simpa using hes r0 h0
    · rw [hfl] at hd
      obtain ⟨d0, h0, rfl⟩ := List.mem_map.1 hd
      rw [ren_isCell]; exact hcl d0 h0
    · rw [hfl, List.getElem?_map, Option.map_eq_some_iff] at hj
      obtain ⟨d0, h0, rfl⟩ := hj
      exact h2 _ _ (by have := (List.getElem?_eq_some_iff.1 h0).1; omega) (hcell j d0 h0)
    · rw [hfl, List.getElem?_map, Option.map_eq_some_iff] at hj
      obtain ⟨d0, h0, rfl⟩ := hj
      exact ih j d0 h0
  | agg vs ds hl hcl _ ih =>
    simp only [D.ren, D.renL_map]
    refine .agg vs _ (by simpa using hl) (fun d hd => ?_) (fun j v d hv hd => ?_)
    · obtain ⟨d0, h0, rfl⟩ := List.mem_map.1 hd
      rw [ren_isCell]; exact hcl d0 h0
    · rw [List.getElem?_map, Option.map_eq_some_iff] at hd
      obtain ⟨d0, h0, rfl⟩ := hd
      exact ih j v d0 hv h0
  | ptr b off id hg => exact .ptr b _ _ (ho _ _ hg)
  | refnil a id off es => exact .refnil _ _ _ _
  | ref b off id es len cap hg hcap hm hsz => exact .ref b _ _ _ _ cap (ho _ _ hg) hcap hm hsz
  | nilptr => exact .nilptr
  | func fn vf vc df dc hf hc _ _ i1 i2 =>
    simp only [D.ren, D.renL_map]
    refine .func _ vf vc _ _ (by simpa using hf) (by simpa using hc) (fun j v d hv hd => ?_) (fun j v d hv hd => ?_)
    · rw [List.getElem?_map, Option.map_eq_some_iff] at hd
      obtain ⟨d0, h0, rfl⟩ := hd
      exact i1 j v d0 hv h0
    · rw [List.getElem?_map, Option.map_eq_some_iff] at hd
      obtain ⟨d0, h0, rfl⟩ := hd
      exact i2 j v d0 hv h0
  | nilfunc => exact .nilfunc
  | iface t v d _ ih => exact .iface _ v _ ih
  | niliface => exact .niliface
  | map b id hg => exact .map b _ (ho _ _ hg)
  | nilmap => exact .nilmap
  | nils => exact .nils

theorem ren_of_inK {ι : List Nat} {k : Nat} (hk : k ≤ ι.length) {s : ASlot} (h : s.inK k = true) : s.ren ι = s.ren1 ι := by
  cases ι with
  | nil =>
    have hk0 : k = 0 := by simpa using hk
    subst hk0
    show s = s.ren1 []
    have hd : ∀ d : D, d.inK 0 = true → d.ren [] = d := fun d hd => D.ren_noPtr [] (inK0_noPtr hd)
    cases s with
    | d x => simp only [ASlot.ren1, hd x (by simpa only [ASlot.inK] using h)]
    | own t es rows =>
      simp only [ASlot.ren1]
      rw [D.renR_noPtr [] (inK0R_noPtr (by simpa only [ASlot.inK] using h))]
    | uni t es rows =>
      simp only [ASlot.ren1]
      rw [D.renR_noPtr [] (inK0R_noPtr (by simpa only [ASlot.inK] using h))]
    | full es rows =>
      simp only [ASlot.ren1]
      rw [D.renR_noPtr [] (inK0R_noPtr (by simpa only [ASlot.inK] using h))]
    | rd cs =>
      simp only [ASlot.ren1]
      rw [D.renL_noPtr [] (inK0L_noPtr (by simpa only [ASlot.inK] using h))]
    | tup l => simp [ASlot.inK] at h
    | bad => rfl
  | cons x ι =>
    cases s with
    | tup l => simp [ASlot.inK] at h
    | _ => rfl

end

/-- A stretch of the run that leaves alone all objects but those of X, and all rows of living tokens. -/
structure QtX (T : Nat → Prop) (X : Nat → Prop) (g : Ghost) (w : World) (g' : Ghost) (w' : World) (live live' : List Nat) : Prop where
  toG : G g w g' w'
  dom : Dom g' w'
  objH : ∀ b id, g b = .obj id → ¬ X id → w'.heap[b]? = w.heap[b]?
  objB : ∀ b id, g' b = .obj id → ¬ X id → g b = .obj id
  tok : ∀ b n t, T t → t ∈ live' → g b = .row n (some t) → g' b = .row n (some t) ∧ w'.heap[b]? = w.heap[b]?
  liv : ∀ t, T t → t ∈ live' → t ∈ live
  tokU : ∀ b t, T t → t ∈ live' → g b = .uni t → g' b = .uni t ∧ w'.heap[b]? = w.heap[b]?

section
variable {P : Program} {N : Nat} {T T' : Nat → Prop} {g g' : Ghost} {w w' : World} {live live' : List Nat}

theorem QtX.rc {X : Nat → Prop} (h : QtX T X g w g' w' live live') (hd : Dom g w) {v : Value} {s : ASlot} (hs : RC g w live v s) (ht : ∀ t ∈ s.toks, T t) : RC g' w' live' v s := by
  cases s with
  | d x => exact h.toG.rv hd hs
  | own t es rows =>
    refine ⟨h.toG.rv hd hs.1, fun hl => ?_⟩
    have htb : T t := ht t (by simp [ASlot.toks])
    rcases hs.2 (h.liv t htb hl) with hf | ⟨b, cap, cur, e, rfl, hg, hh, h1, h2, h3⟩
    · exact .inl hf
    · obtain ⟨k1, k2⟩ := h.tok b _ t htb hl hg
      exact .inr ⟨b, cap, cur, e, rfl, k1, by rw [k2]; exact hh, h1, h2, h3⟩
  | uni t es rows =>
    have htb : T t := ht t (by simp [ASlot.toks])
    exact ⟨hs.1, fun hl => (hs.2 (h.liv t htb hl)).mono (fun b hb => h.tokU b t htb hl hb) (fun _ _ => h.toG.rv hd)⟩
  | full es rows => exact ⟨h.toG.rv hd hs.1, hs.2⟩
  | rd cells =>
    obtain ⟨b, off, n, o, f, rfl, hg, hn, hc⟩ := hs
    obtain ⟨n', o', hg', hnn, hcell⟩ := h.toG.rowsKept hd b n o hg
    refine ⟨b, off, n', o', f, rfl, hg', by omega, fun j d hj => ?_⟩
    obtain ⟨c1, c2, c3⟩ := hc j d hj
    have : j < cells.length := (List.getElem?_eq_some_iff.1 hj).1
    exact ⟨c1, hcell _ _ (by omega) c2, h.toG.rv hd c3⟩
  | tup l => exact hs.elim
  | bad => trivial

theorem QtX.rs {X : Nat → Prop} (h : QtX T X g w g' w' live live') (hd : Dom g w) {v : Value} {s : ASlot} (hs : RS g w live v s) (ht : ∀ t ∈ s.toks, T t) : RS g' w' live' v s := by
  cases s with
  | tup l =>
    obtain ⟨vs, rfl, hl, hc⟩ := hs
    refine ⟨vs, rfl, hl, fun i u s hu hsl => h.rc hd (hc i u s hu hsl) ?_⟩
    intro t htm
    apply ht t
    cases s with
    | own t' es rows =>
      simp only [ASlot.toks, List.mem_singleton] at htm
      subst htm
      simp only [ASlot.toks, List.mem_flatMap]
      exact ⟨_, List.mem_of_getElem? hsl, by simp [tokOf]⟩
    | uni t' es rows =>
      simp only [ASlot.toks, List.mem_singleton] at htm
      subst htm
      simp only [ASlot.toks, List.mem_flatMap]
      exact ⟨_, List.mem_of_getElem? hsl, by simp [tokOf]⟩
    | tup l' => exact (hc i u _ hu hsl).elim
    | _ => simp [ASlot.toks] at htm
  | _ => exact rs_of_rc (h.rc hd (rc_of_rs hs (by simp)) ht)

theorem setAll_length : ∀ (l : List (Nat × AObj)) (os : List AObj), (setAll os l).length = os.length
  | [], _ => rfl
  | (id, o) :: l, os => by rw [setAll, setAll_length l, List.length_set]

theorem setAll_other : ∀ (l : List (Nat × AObj)) (os : List AObj) (id : Nat), id ∉ l.map (·.1) → (setAll os l)[id]? = os[id]?
  | [], _, _, _ => rfl
  | (i, o) :: l, os, id, h => by
    simp only [List.map_cons, List.mem_cons, not_or] at h
    rw [setAll, setAll_other l _ id h.2, List.getElem?_set_ne (fun he => h.1 he.symm)]

/-- What is written does not depend on what was there. -/
theorem setAll_same : ∀ (l : List (Nat × AObj)) (os os' : List AObj) (id : Nat), os.length = os'.length → id ∈ l.map (·.1) ∨ os[id]? = os'[id]? → (setAll os l)[id]? = (setAll os' l)[id]?
  | [], _, _, _, _, h => by simpa [setAll] using h
  | (i, o) :: l, os, os', id, hl, h => by
    rw [setAll, setAll]
    refine setAll_same l _ _ id (by simp [hl]) ?_
    by_cases hi : i = id
    · subst hi
      right
      by_cases hlt : i < os.length
      · rw [List.getElem?_set_self hlt, List.getElem?_set_self (by omega)]
      · rw [List.getElem?_eq_none (by simp; omega), List.getElem?_eq_none (by simp; omega)]
    · rcases h with h | h
      · simp only [List.map_cons, List.mem_cons] at h
        rcases h with h | h
        · exact (hi h.symm).elim
        · exact .inl h
      · right
        rw [List.getElem?_set_ne hi, List.getElem?_set_ne hi, h]

theorem setAll_zip : ∀ (ι : List Nat) (l : List AObj) (os : List AObj), ι.Nodup → ι.length = l.length → ∀ (j id : Nat), ι[j]? = some id → id < os.length → (setAll os (ι.zip l))[id]? = l[j]?
  | [], _, _, _, _, j, id, h, _ => by simp at h
  | x :: ι, [], _, _, hl, _, _, _, _ => by simp at hl
  | x :: ι, o :: l, os, hn, hl, j, id, hj, hlt => by
    rw [List.nodup_cons] at hn
    simp only [List.zip_cons_cons, setAll]
    cases j with
    | zero =>
      simp at hj; subst hj
      rw [setAll_other]
      · rw [List.getElem?_set_self hlt]; rfl
      · intro h
        obtain ⟨p, hp, he⟩ := List.mem_map.1 h
        have := (List.of_mem_zip hp).1
        rw [he] at this
        exact hn.1 this
    | succ j =>
      have := setAll_zip ι l (os.set x o) hn.2 (by simpa using hl) j id (by simpa using hj) (by simpa using hlt)
      simpa using this

theorem SR.quietX {st : St} {a : Act} {ι : List Nat} {l : List AObj} (hs : SR N T g w st a) (h : QtX T (· ∈ ι) g w g' w' st.live live') (hT : ∀ t, T t → T' t) (hl : ∀ t ∈ live', T' t) (hn : ι.Nodup) (hlen : ι.length = l.length)
    (hlt : ∀ id ∈ ι, id < st.os.length)
    (ho : ∀ (j id : Nat) (o : AObj), ι[j]? = some id → l[j]? = some o → o ≠ .none → ObjIs g' w' live' id o)
    (hi : ∀ b b' id, id ∈ ι → g' b = .obj id → g' b' = .obj id → b = b')
    (hd : ∀ b id, id ∈ ι → g' b = .obj id → ∃ (j : Nat) (o : AObj), ι[j]? = some id ∧ l[j]? = some o ∧ o ≠ .none)
    (ht : ∀ o ∈ l, ∀ s ∈ o.cells, s.toks = []) :
    SR N T' g' w' { st with os := setAll st.os (ι.zip l), live := live' } a := by
  have hmem : ∀ id, id ∉ ι → id ∉ (ι.zip l).map (·.1) := by
    intro id hid h
    obtain ⟨p, hp, rfl⟩ := List.mem_map.1 h
    exact hid (List.of_mem_zip hp).1
  have hget : ∀ (j id : Nat), ι[j]? = some id → (setAll st.os (ι.zip l))[id]? = l[j]? := fun j id hj => setAll_zip ι l st.os hn hlen j id hj (hlt id (List.mem_of_getElem? hj))
  refine ⟨h.dom, hs.defers, hs.size, fun k v s hk => ?_, fun id o hoo hne => ?_, fun b b' id hb hb' => ?_, fun b id hb => ?_, ⟨hl, fun k s hk t ht => ?_, fun id o hoo s hs' t htt => ?_⟩⟩
  · obtain ⟨h1, h2⟩ := hs.slots k v s hk
    exact ⟨fun hv => h.rs hs.dom (h1 hv) (hs.wf.fr k s (by rw [← hv]; exact hk)), h2⟩
  · by_cases hid : id ∈ ι
    · obtain ⟨j, hj⟩ := List.mem_iff_getElem?.1 hid
      simp only [hget j id hj] at hoo
      exact ho j id o hj hoo hne
    · simp only [setAll_other _ _ _ (hmem id hid)] at hoo
      rcases hs.objs id o hoo hne with ⟨b, hb, hr⟩ | ⟨hv, hno⟩
      case inr => exact .inr ⟨hv, fun b hb => hno b (h.objB b id hb hid)⟩
      refine .inl ⟨b, (h.toG.obj b id (hs.dom.lt_obj hb) hb).1, ?_⟩
      cases o with
      | none => exact hr.elim
      | row cells =>
        obtain ⟨c, e, hh, hl', hc⟩ := hr
        refine ⟨c, e, by rw [h.objH b id hb hid]; exact hh, hl', fun i s hs' => ?_⟩
        obtain ⟨v, v1, v2, v3⟩ := hc i s hs'
        exact ⟨v, v1, v2, h.rc hs.dom v3 (hs.wf.os id _ hoo s (List.mem_of_getElem? hs'))⟩
  · by_cases hid : id ∈ ι
    · exact hi b b' id hid hb hb'
    · exact hs.inj b b' id (h.objB b id hb hid) (h.objB b' id hb' hid)
  · by_cases hid : id ∈ ι
    · obtain ⟨j, o, hj, hjo, hne⟩ := hd b id hid hb
      exact ⟨o, by simp only [hget j id hj]; exact hjo, hne⟩
    · obtain ⟨o, hoo, hne⟩ := hs.ids b id (h.objB b id hb hid)
      exact ⟨o, by simp only [setAll_other _ _ _ (hmem id hid)]; exact hoo, hne⟩
  · exact hT t (hs.wf.fr k s hk t ht)
  · by_cases hid : id ∈ ι
    · obtain ⟨j, hj⟩ := List.mem_iff_getElem?.1 hid
      simp only [hget j id hj] at hoo
      rw [ht o (List.mem_of_getElem? hoo) s hs'] at htt
      cases htt
    · simp only [setAll_other _ _ _ (hmem id hid)] at hoo
      exact hT t (hs.wf.os id o hoo s hs' t htt)

end

section
variable {P : Program} {T : Nat → Prop} {g : Ghost} {w : World} {live : List Nat}

theorem inK_take {ι : List Nat} {k : Nat} {id : Nat} (h : id ∈ ι.take k) : id ∈ ι := List.mem_of_mem_take h

/-- A CALL, with the objects that it is handed. -/
theorem call_objs {f : FuncId} {as fa : List ASlot} {r : ASlot} {os fo fo' : List AObj} {ι : List Nat} (hc : ACall P f fa fo r fo') (hd : Dom g w) (hfit : Fits live as fa ι fo.length) (hof : ObjFit os fo fo' ι)
    (hrt : r.toks.Nodup) (base : Nat) (hfr : Fresh T base) (hfew : r.toks.length ≤ 16)
    (hobj : ∀ (id : Nat) (o : AObj), os[id]? = some o → o ≠ .none → ObjIs g w live id o) (hinj : ∀ (b b' id : Nat), g b = .obj id → g b' = .obj id → b = b')
    (hids : ∀ (b id : Nat), g b = .obj id → ∃ o, os[id]? = some o ∧ o ≠ .none)
    {vs : List Value} (hvl : vs.length = as.length) (hv : ∀ (i : Nat) (v : Value) (s : ASlot), vs[i]? = some v → as[i]? = some s → RS g w live v s) :
    Calls P f vs.toArray w fun e w' => ∃ v g', e = .returned v ∧
      QtX T (· ∈ ι) g w g' w' live ((live.filter fun t => !((handed as fa).map (·.1)).contains t) ++ (retok base r).toks) ∧
      RS g' w' ((live.filter fun t => !((handed as fa).map (·.1)).contains t) ++ (retok base r).toks) v ((retok base r).ren ι) ∧
      (∀ (j id : Nat) (o : AObj), ι[j]? = some id → (fo'.map (AObj.ren ι))[j]? = some o → o ≠ .none → ObjIs g' w' ((live.filter fun t => !((handed as fa).map (·.1)).contains t) ++ (retok base r).toks) id o) ∧
      (∀ b b' id, id ∈ ι → g' b = .obj id → g' b' = .obj id → b = b') ∧
      (∀ b id, id ∈ ι → g' b = .obj id → ∃ (j : Nat) (o : AObj), ι[j]? = some id ∧ (fo'.map (AObj.ren ι))[j]? = some o ∧ o ≠ .none) := by
  obtain ⟨ml, mg⟩ := matchAll_get hfit.all
  rw [List.length_map] at ml
  have hkl : fo.length ≤ ι.length := by rw [hof.len]; exact hof.le
  let κ := ι.take fo.length
  have hκn : κ.Nodup := hof.nd.sublist (List.take_sublist _ _)
  have hκl : κ.length = fo.length := by simp only [κ, List.length_take]; omega
  have hrk := rowsKept_callee (handed as fa) κ g w
  have hdom : Dom (calleeG (handed as fa) κ g) w := fun b hb => by unfold calleeG; rw [hd b hb]
  have hget : ∀ (i : Nat) (s : ASlot), fa[i]? = some s → (fa.map (ASlot.ren ι))[i]? = some (s.ren1 ι) := by
    intro i s h
    rw [List.getElem?_map, h, Option.map_some, ren_of_inK hkl (List.all_eq_true.1 hfit.inK s (List.mem_of_getElem? h))]
  have hargs : ∀ (i : Nat) (v : Value) (s : ASlot), vs[i]? = some v → fa[i]? = some s → RC (calleeG (handed as fa) κ g) w (toksOf fa) v s := by
    intro i v s hvi hfi
    have hlt : i < as.length := by rw [ml]; exact (List.getElem?_eq_some_iff.1 hfi).1
    have hai := List.getElem?_eq_getElem hlt
    have hm := mg i _ _ hai (hget i s hfi)
    have hrs := hv i v _ hvi hai
    have hnp : s.inK fo.length = true := List.all_eq_true.1 hfit.inK s (List.mem_of_getElem? hfi)
    have dn : ∀ {v : Value} {y : D}, RV g w v (y.ren ι) → y.inK fo.length = true → RV (calleeG (handed as fa) κ g) w v y := fun h1 h2 => h1.down hof.nd hkl rfl h2
    generalize hA : as[i] = actual at hm hrs hai
    cases s with
    | d x => exact dn (eqvD_rv hrs hm) hnp
    | own t' es' rows' =>
      have hsl : ∀ {v : Value}, RV g w v (.sl es' (D.renR ι rows')) → RV (calleeG (handed as fa) κ g) w v (.sl es' rows') := fun h => dn (y := .sl es' rows') h (by simp only [D.inK]; exact hnp)
      have hrl : (D.renR ι rows').length = rows'.length := by rw [D.renR_map, List.length_map]
      cases actual with
      | own t es rows =>
        obtain ⟨rfl, he⟩ := hm
        have hmem := handed_get i t es rows t' es rows' hai hfi
        have hpair := pairOf_of_mem hfit.nd1 hmem
        refine ⟨hsl (rowsEqv_rv hrs.1 ⟨.inl rfl, he⟩), fun _ => ?_⟩
        have hoo := ownOk_eqv (hrs.2 (hfit.lv _ hmem)) he
        unfold OwnOk at hoo ⊢
        rw [hrl] at hoo
        rcases hoo with hf | ⟨b, cap, cur, e, h1, h2, h3⟩
        · exact .inl hf
        · refine .inr ⟨b, cap, cur, e, h1, ?_, h3⟩
          unfold calleeG
          rw [h2]
          simp only [hpair]
      | full es rows =>
        refine ⟨hsl (rowsEqv_rv hrs.1 hm), fun _ => .inl ?_⟩
        have := full_eqv hrs.2 hm.2
        rwa [hrl] at this
      | d y =>
        obtain ⟨rfl, hnil⟩ := nil_own hrs hm
        have : rows' = [] := by
          cases rows' with
          | nil => rfl
          | cons a l => simp [D.renR] at hnil
        subst this
        exact ⟨.nilsl none 0 es' (fun _ => rfl), fun _ => .inl ⟨none, rfl⟩⟩
      | _ => exact hm.elim
    | uni t' es' rows' =>
      have hrl : (D.renR ι rows').length = rows'.length := by rw [D.renR_map, List.length_map]
      cases actual with
      | uni t es rows =>
        obtain ⟨rfl, rfl⟩ := hm
        have hmem := handed_getU i t es _ t' es rows' hai hfi
        have hpair := pairOf_of_mem hfit.nd1 hmem
        refine ⟨by rw [← hrl]; exact hrs.1, fun _ => ?_⟩
        have hoo := hrs.2 (hfit.lv _ hmem)
        simp only [D.inKR_iff, ASlot.inK] at hnp
        unfold UniOk at hoo ⊢
        rw [hrl] at hoo
        rcases hoo with ⟨ad, h1, h2⟩ | ⟨b, cap, cur, e, h1, h2, h3, h4, h5, h6, h7, h8⟩
        · refine .inl ⟨ad, h1, ?_⟩
          cases rows' with
          | nil => rfl
          | cons a l => simp [D.renR] at h2
        · refine .inr ⟨b, cap, cur, e, h1, ?_, h3, h4, h5, h6, fun r hr => ?_, fun j d hj => ?_⟩
          · unfold calleeG
            rw [h2]
            simp only [hpair]
          · have := h7 (r.map (D.ren ι)) (by rw [D.renR_map]; exact List.mem_map.2 ⟨r, hr, rfl⟩)
            simpa using this
          · obtain ⟨c1, u, c2, c3⟩ := h8 j (d.ren ι) (by rw [flat_ren, List.getElem?_map, hj]; rfl)
            exact ⟨by rwa [ren_isCell] at c1, u, c2, dn c3 (hnp d (List.mem_of_getElem? hj))⟩
      | d y =>
        obtain ⟨rfl, hnil⟩ := nil_uni hrs hm
        have : rows' = [] := by
          cases rows' with
          | nil => rfl
          | cons a l => simp [D.renR] at hnil
        subst this
        exact ⟨⟨none, 0, rfl⟩, fun _ => .inl ⟨none, rfl, rfl⟩⟩
      | _ => exact hm.elim
    | full es' rows' =>
      have hsl : ∀ {v : Value}, RV g w v (.sl es' (D.renR ι rows')) → RV (calleeG (handed as fa) κ g) w v (.sl es' rows') := fun h => dn (y := .sl es' rows') h (by simp only [D.inK]; exact hnp)
      have hrl : (D.renR ι rows').length = rows'.length := by rw [D.renR_map, List.length_map]
      cases actual with
      | full es rows =>
        refine ⟨hsl (rowsEqv_rv hrs.1 hm), ?_⟩
        have := full_eqv hrs.2 hm.2
        rwa [hrl] at this
      | d y =>
        obtain ⟨rfl, hnil⟩ := nil_full hrs hm
        have : rows' = [] := by
          cases rows' with
          | nil => rfl
          | cons a l => simp [D.renR] at hnil
        subst this
        exact ⟨.nilsl none 0 es' (fun _ => rfl), none, rfl⟩
      | _ => exact hm.elim
    | rd cs' =>
      cases actual with
      | rd cs =>
        obtain ⟨b, off, n, o, fn, rfl, hg, hn, hcc⟩ := rd_eqv (live := live) hrs hm
        obtain ⟨n', o', hg', hnn, hcell⟩ := hrk b n o hg
        have hll : (D.renL ι cs').length = cs'.length := by rw [D.renL_map, List.length_map]
        refine ⟨b, off, n', o', fn, rfl, hg', by omega, fun j d hj => ?_⟩
        obtain ⟨c1, c2, c3⟩ := hcc j (d.ren ι) (by rw [D.renL_map, List.getElem?_map, hj]; rfl)
        have hjl : j < cs'.length := (List.getElem?_eq_some_iff.1 hj).1
        have hnpd : d.inK fo.length = true := (D.inKL_iff _ cs').1 hnp d (List.mem_of_getElem? hj)
        exact ⟨by rwa [ren_isCell] at c1, hcell _ _ (by omega) c2, dn c3 hnpd⟩
      | _ => exact hm.elim
    | _ => simp [ASlot.inK] at hnp
  have hpos : ∀ (b id j : Nat), g b = .obj id → κ[j]? = some id → calleeG (handed as fa) κ g b = .obj j := by
    intro b id j hb hj
    unfold calleeG
    rw [hb]
    simp only [posOf_get hκn hj]
  have hposr : ∀ (b j : Nat), calleeG (handed as fa) κ g b = .obj j → ∃ id, g b = .obj id ∧ κ[j]? = some id := by
    intro b j h
    unfold calleeG at h
    cases hb : g b with
    | out => rw [hb] at h; cases h
    | row n o => rw [hb] at h; cases o <;> cases h
    | uni t => rw [hb] at h; simp only at h; split at h <;> cases h
    | obj id =>
      rw [hb] at h
      simp only at h
      split at h
      · rename_i j' hp
        cases h
        exact ⟨id, rfl, posOf_some hp⟩
      · cases h
  have hκι : ∀ (j id : Nat), κ[j]? = some id → ι[j]? = some id := by
    intro j id h
    have hj : j < fo.length := by rw [← hκl]; exact (List.getElem?_eq_some_iff.1 h).1
    rwa [List.getElem?_take_of_lt hj] at h
  have hικ : ∀ (j id : Nat), j < fo.length → ι[j]? = some id → κ[j]? = some id := by
    intro j id hj h
    rw [List.getElem?_take_of_lt hj]
    exact h
  have hobjs : ObjsOk (calleeG (handed as fa) κ g) w (toksOf fa) fo := by
    refine ⟨fun j o hj hne => ?_, fun b b' j h h' => ?_, fun b j h => ?_⟩
    · obtain ⟨id, c, hid, hcs, hm⟩ := objsIn_get hof.olds j o hj
      have hjl : j < fo.length := (List.getElem?_eq_some_iff.1 hj).1
      cases o with
      | none => exact (hne rfl).elim
      | row fs =>
        cases c with
        | none => exact hm.elim
        | row cs =>
          rcases hobj id _ hcs (by simp) with ⟨b, hb, ca, e, hh, hl, hcc⟩ | ⟨hv, hno⟩
          case inr =>
            have hc0 : cs = [] := by simpa using hv
            subst hc0
            have hf0 : fs = [] := by
              cases fs with
              | nil => rfl
              | cons f fs => exact (show matchCs [] ((f :: fs).map (ASlot.ren1 ι)) from hm).elim
            subst hf0
            refine .inr ⟨rfl, fun b hb => ?_⟩
            obtain ⟨id', h1, h2⟩ := hposr b j hb
            have := hκι j id' h2
            rw [hid] at this; cases this
            exact hno b h1
          have hkeep := List.all_eq_true.1 hof.inK _ (List.mem_of_getElem? hj)
          simp only [AObj.inK, List.all_eq_true] at hkeep
          have key : ∀ (cs fs : List ASlot), matchCs cs (fs.map (ASlot.ren1 ι)) → fs.length ≤ cs.length ∧ ∀ (i : Nat) (f : ASlot), fs[i]? = some f → ∃ s, cs[i]? = some s ∧ matchC s (f.ren1 ι) := by
            intro cs fs
            induction fs generalizing cs with
            | nil => intro _; exact ⟨Nat.zero_le _, by simp⟩
            | cons f fs ih =>
              intro h
              cases cs with
              | nil => exact h.elim
              | cons s cs =>
                obtain ⟨h1, h2⟩ := h
                obtain ⟨k1, k2⟩ := ih cs h2
                refine ⟨by simp; omega, fun i f' hf => ?_⟩
                cases i with
                | zero => simp at hf; subst hf; exact ⟨s, rfl, h1⟩
                | succ i => simpa using k2 i f' (by simpa using hf)
          obtain ⟨k1, k2⟩ := key cs fs hm
          refine .inl ⟨b, hpos b id j hb (hικ j id hjl hid), ca, e, hh, by omega, fun i f hf => ?_⟩
          obtain ⟨s, hs, hms⟩ := k2 i f hf
          obtain ⟨v, v1, v2, v3⟩ := hcc i s hs
          refine ⟨v, v1, v2, ?_⟩
          cases f with
          | d x =>
            have hk := hkeep _ (List.mem_of_getElem? hf)
            exact (eqvD_rv (rs_of_rc v3) hms).down hof.nd hkl rfl hk
          | bad => trivial
          | _ => cases s <;> exact hms.elim
    · obtain ⟨id, h1, h2⟩ := hposr b j h
      obtain ⟨id', h3, h4⟩ := hposr b' j h'
      rw [h2] at h4; cases h4
      exact hinj b b' id h1 h3
    · obtain ⟨id, h1, h2⟩ := hposr b j h
      have hjl : j < fo.length := by rw [← hκl]; exact (List.getElem?_eq_some_iff.1 h2).1
      refine ⟨fo[j], List.getElem?_eq_getElem hjl, fun hn => ?_⟩
      obtain ⟨id', c, hid, hcs, hm⟩ := objsIn_get hof.olds j _ (List.getElem?_eq_getElem hjl)
      rw [hn] at hm
      cases c <;> exact hm.elim
  refine (hc _ w vs hdom (by rw [hvl, ml]) hargs hobjs).mono ?_
  rintro e w' ⟨v, g1, live1, rfl, hG, hdom1, hlive1, hrs1, hobjs1⟩
  -- what the callee's ghost says of blocks that were there
  have cOut : ∀ b, g b = .out → calleeG (handed as fa) κ g b = .out := fun b h => by unfold calleeG; rw [h]
  have cObj : ∀ b id, g b = .obj id → id ∉ ι → calleeG (handed as fa) κ g b = .out := fun b id h hid => by
    have hp : posOf κ id = none := posOf_none fun hm => hid (List.mem_of_mem_take hm)
    unfold calleeG; rw [h]
    simp only [hp]
  have cNone : ∀ b n, g b = .row n none → calleeG (handed as fa) κ g b = .row n none := fun b n h => by unfold calleeG; rw [h]
  have cSome : ∀ b n t, g b = .row n (some t) → calleeG (handed as fa) κ g b = .row n (pairOf (handed as fa) t) := fun b n t h => by unfold calleeG; rw [h]
  have cUniN : ∀ b t, g b = .uni t → pairOf (handed as fa) t = none → calleeG (handed as fa) κ g b = .out := fun b t h hp => by unfold calleeG; rw [h]; simp only [hp]
  -- objects of the caller that are handed over stand among the first
  have hfirst : ∀ (b id : Nat), g b = .obj id → id ∈ ι → ∃ j : Nat, κ[j]? = some id := by
    intro b id hb hid
    obtain ⟨j, hj⟩ := List.mem_iff_getElem?.1 hid
    by_cases hjl : j < fo.length
    · exact ⟨j, hικ j id hjl hj⟩
    · exfalso
      have hm : id ∈ ι.drop fo.length := by
        refine List.mem_iff_getElem?.2 ⟨j - fo.length, ?_⟩
        rw [List.getElem?_drop, show fo.length + (j - fo.length) = j by omega]
        exact hj
      obtain ⟨o, h1, h2⟩ := hids b id hb
      rw [hof.news id hm] at h1
      cases h1
      exact h2 rfl
  let ren : Nat → Option Nat := fun u => if u ∈ r.toks then some (base + r.toks.idxOf u) else none
  let G' := backG (handed as fa) ι w.heap.size ren g g1
  have bOut : ∀ b, b < w.heap.size → g b = .out → G' b = .out := fun b hb h => by simp only [G']; unfold backG; rw [if_pos hb, h]
  have bObj : ∀ b id, b < w.heap.size → g b = .obj id → G' b = .obj id := fun b id hb h => by simp only [G']; unfold backG; rw [if_pos hb, h]
  have bNone : ∀ b n, b < w.heap.size → g b = .row n none → G' b = .row n none := fun b n hb h => by simp only [G']; unfold backG; rw [if_pos hb, h]
  have bKeep : ∀ b n t, b < w.heap.size → g b = .row n (some t) → pairOf (handed as fa) t = none → G' b = .row n (some t) := fun b n t hb h hp => by simp only [G']; unfold backG; rw [if_pos hb, h]; simp only [hp]
  have bKeepU : ∀ b t, b < w.heap.size → g b = .uni t → pairOf (handed as fa) t = none → G' b = .uni t := fun b t hb h hp => by simp only [G']; unfold backG; rw [if_pos hb, h]; simp only [hp]
  have bUp : ∀ b t t', b < w.heap.size → g b = .uni t → pairOf (handed as fa) t = some t' → G' b = upR ι ren (g1 b) := fun b t t' hb h hp => by simp only [G']; unfold backG; rw [if_pos hb, h]; simp only [hp]
  have bNew : ∀ b, ¬ b < w.heap.size → G' b = upR ι ren (g1 b) := fun b hb => by simp only [G']; unfold backG; rw [if_neg hb]
  -- objects, there and back
  have hid1 : ∀ b j, g1 b = .obj j → j < ι.length := by
    intro b j h
    obtain ⟨o, h1, _⟩ := hobjs1.ids b j h
    rw [hof.len]
    exact (List.getElem?_eq_some_iff.1 h1).1
  have oUp : ∀ b j, g1 b = .obj j → G' b = .obj (ι.getD j 0) := by
    intro b j h
    have hj := hid1 b j h
    have hij : ι[j]? = some (ι.getD j 0) := by rw [List.getD_eq_getElem?_getD, List.getElem?_eq_getElem hj]; rfl
    by_cases hb : b < w.heap.size
    · cases hg : g b with
      | out => rw [(hG.out b hb (cOut b hg)).2] at h; cases h
      | row n o =>
        cases o with
        | none => rw [(hG.rowN b n hb (cNone b n hg)).2] at h; cases h
        | some t =>
          have hcb := cSome b n t hg
          cases hp : pairOf (handed as fa) t with
          | none => rw [hp] at hcb; rw [(hG.rowN b n hb hcb).2] at h; cases h
          | some t' =>
            rw [hp] at hcb
            obtain ⟨n', o', q1, _⟩ := hG.rowS b n t' hb hcb
            rw [h] at q1; cases q1
      | uni t =>
        cases hp : pairOf (handed as fa) t with
        | none => rw [(hG.out b hb (cUniN b t hg hp)).2] at h; cases h
        | some t' => rw [bUp b t t' hb hg hp, h]; simp only [upR, hij]
      | obj id =>
        by_cases hid : id ∈ ι
        · obtain ⟨j', hj'⟩ := hfirst b id hg hid
          have := (hG.obj b j' hb (hpos b id j' hg hj')).1
          rw [h] at this
          cases this
          rw [bObj b id hb hg]
          have := hκι j id hj'
          rw [hij] at this
          cases this
          rfl
        · rw [(hG.out b hb (cObj b id hg hid)).2] at h; cases h
    · rw [bNew b hb, h]
      simp only [upR, hij]
  have upObj : ∀ (r : Role) (id : Nat), upR ι ren r = .obj id → ∃ j : Nat, ι[j]? = some id ∧ r = .obj j := by
    intro r id h
    cases r with
    | out => cases h
    | row n o => cases h
    | uni u => simp only [upR] at h; split at h <;> cases h
    | obj j =>
      simp only [upR] at h
      split at h
      · rename_i id' hij
        cases h
        exact ⟨j, hij, rfl⟩
      · cases h
  have oBack : ∀ (b id : Nat), G' b = .obj id → id ∈ ι → ∃ j : Nat, ι[j]? = some id ∧ g1 b = .obj j := by
    intro b id h hid
    by_cases hb : b < w.heap.size
    · cases hgb : g b with
      | out => rw [bOut b hb hgb] at h; cases h
      | row n o =>
        cases o with
        | none => rw [bNone b n hb hgb] at h; cases h
        | some t =>
          simp only [G'] at h
          unfold backG at h
          rw [if_pos hb, hgb] at h
          simp only at h
          split at h
          · split at h <;> cases h
          · cases h
      | uni t =>
        cases hp : pairOf (handed as fa) t with
        | none => rw [bKeepU b t hb hgb hp] at h; cases h
        | some t' =>
          rw [bUp b t t' hb hgb hp] at h
          exact upObj _ _ h
      | obj id2 =>
        have := bObj b id2 hb hgb
        rw [h] at this
        cases this
        obtain ⟨j, hj⟩ := hfirst b id hgb hid
        exact ⟨j, hκι j id hj, (hG.obj b j hb (hpos b id j hgb hj)).1⟩
    · rw [bNew b hb] at h
      exact upObj _ _ h
  have hrow : RowsKept g1 w' G' w' := by
    intro b n o h
    simp only [G']
    unfold backG
    by_cases hb : b < w.heap.size
    · rw [if_pos hb]
      cases hg : g b with
      | out => rw [(hG.out b hb (cOut b hg)).2] at h; cases h
      | uni t =>
        cases hp : pairOf (handed as fa) t with
        | none => rw [(hG.out b hb (cUniN b t hg hp)).2] at h; cases h
        | some t' =>
          simp only [hp, h]
          exact ⟨_, _, rfl, Nat.le_refl _, fun _ _ _ h => h⟩
      | obj id =>
        exfalso
        by_cases hid : id ∈ ι
        · obtain ⟨j, hj⟩ := hfirst b id hg hid
          have := (hG.obj b j hb (hpos b id j hg hj)).1
          rw [h] at this; cases this
        · rw [(hG.out b hb (cObj b id hg hid)).2] at h; cases h
      | row m om =>
        cases om with
        | none =>
          rw [(hG.rowN b m hb (cNone b m hg)).2] at h
          cases h
          exact ⟨_, _, rfl, Nat.le_refl _, fun _ _ _ h => h⟩
        | some t =>
          cases hp : pairOf (handed as fa) t with
          | none =>
            have hcb := cSome b m t hg
            rw [hp] at hcb
            rw [(hG.rowN b m hb hcb).2] at h
            cases h
            simp only [hp]
            exact ⟨_, _, rfl, Nat.le_refl _, fun _ _ _ h => h⟩
          | some t' =>
            simp only [hp, h]
            exact ⟨_, _, rfl, Nat.le_refl _, fun _ _ _ h => h⟩
    · rw [if_neg hb, h]
      exact ⟨_, _, rfl, Nat.le_refl _, fun _ _ _ h => h⟩
  have hown : ∀ b n u, g1 b = .row n (some u) → G' b = .row n (ren u) := by
    intro b n u h
    simp only [G']
    unfold backG
    by_cases hb : b < w.heap.size
    · rw [if_pos hb]
      cases hg : g b with
      | out => rw [(hG.out b hb (cOut b hg)).2] at h; cases h
      | uni t =>
        cases hp : pairOf (handed as fa) t with
        | none => rw [(hG.out b hb (cUniN b t hg hp)).2] at h; cases h
        | some t' => simp only [hp, h]; rfl
      | obj id =>
        exfalso
        by_cases hid : id ∈ ι
        · obtain ⟨j, hj⟩ := hfirst b id hg hid
          have := (hG.obj b j hb (hpos b id j hg hj)).1
          rw [h] at this; cases this
        · rw [(hG.out b hb (cObj b id hg hid)).2] at h; cases h
      | row m om =>
        cases om with
        | none => rw [(hG.rowN b m hb (cNone b m hg)).2] at h; cases h
        | some t =>
          cases hp : pairOf (handed as fa) t with
          | none =>
            have hcb := cSome b m t hg
            rw [hp] at hcb
            rw [(hG.rowN b m hb hcb).2] at h
            cases h
          | some t' => simp only [hp, h]; rfl
    · rw [if_neg hb, h]; rfl
  have hownU : ∀ b u u', g1 b = .uni u → ren u = some u' → G' b = .uni u' := by
    intro b u u' h hu
    by_cases hb : b < w.heap.size
    · cases hg : g b with
      | out => rw [(hG.out b hb (cOut b hg)).2] at h; cases h
      | uni t =>
        cases hp : pairOf (handed as fa) t with
        | none => rw [(hG.out b hb (cUniN b t hg hp)).2] at h; cases h
        | some t' => rw [bUp b t t' hb hg hp, h]; simp only [upR, hu]
      | obj id =>
        exfalso
        by_cases hid : id ∈ ι
        · obtain ⟨j, hj⟩ := hfirst b id hg hid
          have := (hG.obj b j hb (hpos b id j hg hj)).1
          rw [h] at this; cases this
        · rw [(hG.out b hb (cObj b id hg hid)).2] at h; cases h
      | row m om =>
        exfalso
        cases om with
        | none => rw [(hG.rowN b m hb (cNone b m hg)).2] at h; cases h
        | some t =>
          have hcb := cSome b m t hg
          cases hp : pairOf (handed as fa) t with
          | none =>
            rw [hp] at hcb
            rw [(hG.rowN b m hb hcb).2] at h
            cases h
          | some t' =>
            rw [hp] at hcb
            obtain ⟨n', o', q1, _⟩ := hG.rowS b m t' hb hcb
            rw [h] at q1; cases q1
    · rw [bNew b hb, h]; simp only [upR, hu]
  have hup : ∀ {u : Value} {x : D}, RV g1 w' u x → RV G' w' u (x.ren ι) := fun h => h.up hrow oUp
  have hrc : ∀ {u : Value} {s : ASlot}, RC g1 w' live1 u s → (∀ t ∈ s.toks, t ∈ r.toks) → RC G' w' ((live.filter fun t => !((handed as fa).map (·.1)).contains t) ++ (retok base r).toks) u ((renT r.toks base s).ren1 ι) := by
    intro u s h ht
    have hsl : ∀ {es : Nat} {rows : List (List D)}, RV g1 w' u (.sl es rows) → RV G' w' u (.sl es (D.renR ι rows)) := fun h => hup h
    have hrl : ∀ rows : List (List D), (D.renR ι rows).length = rows.length := fun rows => by rw [D.renR_map, List.length_map]
    cases s with
    | d x => exact hup h
    | own t es rows =>
      have htm : t ∈ r.toks := ht t (by simp [ASlot.toks])
      refine ⟨hsl h.1, fun _ => ?_⟩
      unfold OwnOk
      rw [hrl]
      rcases h.2 (hlive1 t htm) with hf | ⟨b, cap, cur, e, h1, h2, h3⟩
      · exact .inl hf
      · refine .inr ⟨b, cap, cur, e, h1, ?_, h3⟩
        rw [hown b _ t h2]
        simp only [ren, if_pos htm]
    | uni t es rows =>
      have htm : t ∈ r.toks := ht t (by simp [ASlot.toks])
      refine ⟨by simp only [hrl]; exact h.1, fun _ => ?_⟩
      rcases h.2 (hlive1 t htm) with ⟨ad, h1, h2⟩ | ⟨b, cap, cur, e, h1, h2, h3, h4, h5, h6, h7, h8⟩
      · refine .inl ⟨ad, h1, by rw [h2]; rfl⟩
      · refine .inr ⟨b, cap, cur, e, by rw [hrl]; exact h1, ?_, h3, by rw [hrl]; exact h4, h5, h6, fun q hq => ?_, fun j d hj => ?_⟩
        · exact hownU b t _ h2 (by simp only [ren, if_pos htm])
        · rw [D.renR_map] at hq
          obtain ⟨q0, hq0, rfl⟩ := List.mem_map.1 hq
          simpa using h7 q0 hq0
        · rw [flat_ren, List.getElem?_map, Option.map_eq_some_iff] at hj
          obtain ⟨d0, hj0, rfl⟩ := hj
          obtain ⟨c1, u', c2, c3⟩ := h8 j d0 hj0
          exact ⟨by rw [ren_isCell]; exact c1, u', c2, hup c3⟩
    | full es rows => exact ⟨hsl h.1, by simp only [hrl]; exact h.2⟩
    | rd cells =>
      obtain ⟨b, off, n, o, fn, rfl, hg, hn, hcc⟩ := h
      obtain ⟨n', o', hg', hnn, hcell⟩ := hrow b n o hg
      have hll : (D.renL ι cells).length = cells.length := by rw [D.renL_map, List.length_map]
      refine ⟨b, off, n', o', fn, rfl, hg', by omega, fun j d hj => ?_⟩
      rw [D.renL_map, List.getElem?_map, Option.map_eq_some_iff] at hj
      obtain ⟨d0, hj0, rfl⟩ := hj
      obtain ⟨c1, c2, c3⟩ := hcc j d0 hj0
      have hjl : j < cells.length := (List.getElem?_eq_some_iff.1 hj0).1
      exact ⟨by rw [ren_isCell]; exact c1, hcell _ _ (by omega) c2, hup c3⟩
    | tup l => exact h.elim
    | bad => trivial
  have hqx : QtX T (· ∈ ι) g w G' w' live ((live.filter fun t => !((handed as fa).map (·.1)).contains t) ++ (retok base r).toks) := by
    refine ⟨⟨hG.os, hG.tape, hG.output, hG.size, fun b hb h => ⟨(hG.out b hb (cOut b h)).1, bOut b hb h⟩, fun b n hb h => ⟨(hG.rowN b n hb (cNone b n h)).1, bNone b n hb h⟩, fun b n t hb h => ?_, fun b id hb h => ⟨bObj b id hb h, ?_⟩⟩, fun b hb => ?_, fun b id h hid => ?_, fun b id h hid => ?_, fun b n t htb htl h => ?_, fun t htb htl => ?_, fun b t htb htl h => ?_⟩
    · cases hp : pairOf (handed as fa) t with
      | none =>
        have hcb := cSome b n t h
        rw [hp] at hcb
        obtain ⟨h1, _⟩ := hG.rowN b n hb hcb
        exact ⟨n, some t, bKeep b n t hb h hp, Nat.le_refl _, fun i u _ hu => by rw [cell_same h1]; exact hu⟩
      | some t' =>
        have hcb := cSome b n t h
        rw [hp] at hcb
        obtain ⟨n', o', q1, q2, q3⟩ := hG.rowS b n t' hb hcb
        refine ⟨n', o'.bind ren, ?_, q2, q3⟩
        simp only [G']
        unfold backG
        rw [if_pos hb, h]
        simp only [hp, q1]
    · by_cases hid : id ∈ ι
      · obtain ⟨j, hj⟩ := hfirst b id h hid
        exact (hG.obj b j hb (hpos b id j h hj)).2
      · exact Nat.le_of_eq (bsize_same (hG.out b hb (cObj b id h hid)).1).symm
    · simp only [G']
      unfold backG
      have := hG.size
      rw [if_neg (by omega), hdom1 b hb]
      rfl
    · exact (hG.out b (hd.lt_obj h) (cObj b id h hid)).1
    · by_cases hb : b < w.heap.size
      · cases hgb : g b with
        | out => rw [bOut b hb hgb] at h; cases h
        | row n o =>
          cases o with
          | none => rw [bNone b n hb hgb] at h; cases h
          | some t =>
            simp only [G'] at h
            unfold backG at h
            rw [if_pos hb, hgb] at h
            simp only at h
            split at h
            · split at h <;> cases h
            · cases h
        | uni t =>
          cases hp : pairOf (handed as fa) t with
          | none => rw [bKeepU b t hb hgb hp] at h; cases h
          | some t' =>
            rw [bUp b t t' hb hgb hp] at h
            obtain ⟨j, hij, _⟩ := upObj _ _ h
            exact (hid (List.mem_of_getElem? hij)).elim
        | obj id2 =>
          have := bObj b id2 hb hgb
          rw [h] at this
          exact this.symm
      · rw [bNew b hb] at h
        obtain ⟨j, hij, _⟩ := upObj _ _ h
        exact (hid (List.mem_of_getElem? hij)).elim
    · have hb := hd.lt_row h
      have hnt : t ∉ (handed as fa).map (·.1) := by
        rcases List.mem_append.1 htl with h1 | h1
        · simpa using (List.mem_filter.1 h1).2
        · exfalso
          have := retok_toks h1
          exact hfr t htb ⟨by omega, by omega⟩
      have hp : pairOf (handed as fa) t = none := by
        cases hp : pairOf (handed as fa) t with
        | none => rfl
        | some t' => exact (hnt (List.mem_map.2 ⟨(t, t'), pairOf_mem hp, rfl⟩)).elim
      have hcb := cSome b n t h
      rw [hp] at hcb
      exact ⟨bKeep b n t hb h hp, (hG.rowN b n hb hcb).1⟩
    · rcases List.mem_append.1 htl with h1 | h1
      · exact (List.mem_filter.1 h1).1
      · exfalso
        have := retok_toks h1
        exact hfr t htb ⟨by omega, by omega⟩
    · have hb := hd.lt_uni h
      have hnt : t ∉ (handed as fa).map (·.1) := by
        rcases List.mem_append.1 htl with h1 | h1
        · simpa using (List.mem_filter.1 h1).2
        · exfalso
          have := retok_toks h1
          exact hfr t htb ⟨by omega, by omega⟩
      have hp : pairOf (handed as fa) t = none := by
        cases hp : pairOf (handed as fa) t with
        | none => rfl
        | some t' => exact (hnt (List.mem_map.2 ⟨(t, t'), pairOf_mem hp, rfl⟩)).elim
      exact ⟨bKeepU b t hb h hp, (hG.out b hb (cUniN b t h hp)).1⟩
  refine ⟨v, G', rfl, hqx, ?_, fun j id o hj hjo hne => ?_, fun b b' id hid h h' => ?_, fun b id hid h => ?_⟩
  · have hnoι : ι = [] → ∀ b j, g1 b ≠ .obj j := fun h0 b j h => by have := hid1 b j h; rw [h0] at this; simp at this
    have fin1 : ∀ {u : Value} {s : ASlot}, RC g1 w' live1 u s → (∀ l, s ≠ .tup l) → (∀ t ∈ s.toks, t ∈ r.toks) → RC G' w' ((live.filter fun t => !((handed as fa).map (·.1)).contains t) ++ (retok base r).toks) u ((renT r.toks base s).ren ι) := by
      intro u s h hnt ht
      cases hι : ι with
      | cons x l =>
        have := hrc h ht
        rw [hι] at this
        cases s <;> first | exact this | exact (hnt _ rfl).elim
      | nil =>
        show RC G' w' _ u (renT r.toks base s)
        have hno := hnoι hι
        cases s with
        | d x => exact RV.mono_noObj h hrow hno
        | own t es rows =>
          have htm : t ∈ r.toks := ht t (by simp [ASlot.toks])
          refine ⟨RV.mono_noObj h.1 hrow hno, fun _ => ?_⟩
          rcases h.2 (hlive1 t htm) with hf | ⟨b, cap, cur, e, h1, h2, h3⟩
          · exact .inl hf
          · refine .inr ⟨b, cap, cur, e, h1, ?_, h3⟩
            rw [hown b _ t h2]
            simp only [ren, if_pos htm]
        | uni t es rows =>
          have htm : t ∈ r.toks := ht t (by simp [ASlot.toks])
          refine ⟨h.1, fun _ => ?_⟩
          rcases h.2 (hlive1 t htm) with h1 | ⟨b, cap, cur, e, h1, h2, h3, h4, h5, h6, h7, h8⟩
          · exact .inl h1
          · refine .inr ⟨b, cap, cur, e, h1, ?_, h3, h4, h5, h6, h7, fun j d hj => ?_⟩
            · exact hownU b t _ h2 (by simp only [ren, if_pos htm])
            · obtain ⟨c1, u', c2, c3⟩ := h8 j d hj
              exact ⟨c1, u', c2, RV.mono_noObj c3 hrow hno⟩
        | full es rows => exact ⟨RV.mono_noObj h.1 hrow hno, h.2⟩
        | rd cells =>
          obtain ⟨b, off, n, o, fn, rfl, hg, hn, hcc⟩ := h
          obtain ⟨n', o', hg', hnn, hcell⟩ := hrow b n o hg
          refine ⟨b, off, n', o', fn, rfl, hg', by omega, fun j d hj => ?_⟩
          obtain ⟨c1, c2, c3⟩ := hcc j d hj
          have hjl : j < cells.length := (List.getElem?_eq_some_iff.1 hj).1
          exact ⟨c1, hcell _ _ (by omega) c2, RV.mono_noObj c3 hrow hno⟩
        | tup l => exact (hnt l rfl).elim
        | bad => trivial
    cases r with
    | tup l =>
      obtain ⟨us, rfl, hl, hcs⟩ := hrs1
      have htk : ∀ (i : Nat) (u : Value) (s0 : ASlot), us[i]? = some u → l[i]? = some s0 → (∀ l', s0 ≠ .tup l') ∧ ∀ t ∈ s0.toks, t ∈ (ASlot.tup l).toks := by
        intro i u s0 hu hs0
        have hrc0 := hcs i u s0 hu hs0
        cases s0 with
        | own t' es rows =>
          refine ⟨by simp, fun t htt => ?_⟩
          simp only [ASlot.toks, List.mem_singleton] at htt
          subst htt
          simp only [ASlot.toks, List.mem_flatMap]
          exact ⟨_, List.mem_of_getElem? hs0, by simp [tokOf]⟩
        | uni t' es rows =>
          refine ⟨by simp, fun t htt => ?_⟩
          simp only [ASlot.toks, List.mem_singleton] at htt
          subst htt
          simp only [ASlot.toks, List.mem_flatMap]
          exact ⟨_, List.mem_of_getElem? hs0, by simp [tokOf]⟩
        | tup l' => exact hrc0.elim
        | _ => exact ⟨by simp, fun t htt => by simp [ASlot.toks] at htt⟩
      cases hι : ι with
      | nil =>
        refine ⟨us, rfl, by simp [hl], fun i u s hu hs' => ?_⟩
        simp only [List.getElem?_map, Option.map_eq_some_iff] at hs'
        obtain ⟨s0, hs0, rfl⟩ := hs'
        obtain ⟨q1, q2⟩ := htk i u s0 hu hs0
        have := fin1 (hcs i u s0 hu hs0) q1 q2
        rw [hι] at this
        exact this
      | cons x κ' =>
        refine ⟨us, rfl, by simp [hl], fun i u s hu hs' => ?_⟩
        simp only [List.getElem?_map, Option.map_eq_some_iff] at hs'
        obtain ⟨s1, ⟨s0, hs0, rfl⟩, rfl⟩ := hs'
        obtain ⟨q1, q2⟩ := htk i u s0 hu hs0
        have := hrc (hcs i u s0 hu hs0) q2
        rw [hι] at this
        exact this
    | _ => exact rs_of_rc (fin1 (rc_of_rs hrs1 (by simp)) (by simp) (fun t h => h))
  · rw [List.getElem?_map, Option.map_eq_some_iff] at hjo
    obtain ⟨o0, ho0, rfl⟩ := hjo
    have hne0 : o0 ≠ .none := fun h => hne (by rw [h]; rfl)
    rcases hobjs1.objs j o0 ho0 hne0 with ⟨b, hb, hro⟩ | ⟨rfl, hno⟩
    case inr =>
      refine .inr ⟨rfl, fun b hb => ?_⟩
      obtain ⟨j', hj', h1⟩ := oBack b id hb (List.mem_of_getElem? hj)
      have := posOf_get hof.nd hj
      rw [posOf_get hof.nd hj'] at this
      cases this
      exact hno b h1
    have hij : ι.getD j 0 = id := by rw [List.getD_eq_getElem?_getD, hj]; rfl
    refine .inl ⟨b, by rw [oUp b j hb, hij], ?_⟩
    cases o0 with
    | none => exact hro.elim
    | row cells =>
      obtain ⟨c, e, hh, hl, hcc⟩ := hro
      refine ⟨c, e, hh, by rw [List.length_map]; exact hl, fun i s hs => ?_⟩
      rw [List.getElem?_map, Option.map_eq_some_iff] at hs
      obtain ⟨s0, hs0, rfl⟩ := hs
      obtain ⟨u, u1, u2, u3⟩ := hcc i s0 hs0
      refine ⟨u, u1, u2, ?_⟩
      have htk := hof.toks _ (List.mem_of_getElem? ho0) s0 (List.mem_of_getElem? hs0)
      cases s0 with
      | own t es rows => simp [ASlot.toks] at htk
      | uni t es rows => simp [ASlot.toks] at htk
      | d x => exact hup u3
      | full es rows =>
        have hrl : (D.renR ι rows).length = rows.length := by rw [D.renR_map, List.length_map]
        exact ⟨hup u3.1, by simp only [hrl]; exact u3.2⟩
      | rd cells' =>
        have := hrc (s := .rd cells') u3 (by simp [ASlot.toks])
        exact this
      | tup l => exact u3.elim
      | bad => trivial
  · obtain ⟨j, hj, h1⟩ := oBack b id h hid
    obtain ⟨j', hj', h1'⟩ := oBack b' id h' hid
    have := posOf_get hof.nd hj
    rw [posOf_get hof.nd hj'] at this
    cases this
    exact hobjs1.inj b b' j h1 h1'
  · obtain ⟨j, hj, h1⟩ := oBack b id h hid
    obtain ⟨o, ho, hne⟩ := hobjs1.ids b j h1
    refine ⟨j, o.ren ι, hj, by rw [List.getElem?_map, ho]; rfl, fun hn => hne ?_⟩
    cases o with
    | none => rfl
    | row cs => simp [AObj.ren] at hn

end
end Go.Abs

/- The abstract layer, part 16: one operation, of whatever kind but a call. -/
namespace Go.Abs

section
variable {P : Program} {N tb : Nat} {T : Nat → Prop} {g : Ghost} {w : World} {st : St} {a : Act} {oper : Oper}

/-- The tokens behind an operation. -/
def Next (T : Nat → Prop) (tb : Nat) : Nat → Prop := fun t => T t ∨ (tb ≤ t ∧ t < tb + 16)

/-- What an operation comes to. -/
def Does (P : Program) (N : Nat) (T : Nat → Prop) (tb : Nat) (g : Ghost) (w : World) (st : St) (a : Act) (oper : Oper) (out : Out) : Prop :=
  ∃ n v w' g', (execOp a.eval oper).run P w = .ok n w' ∧ (n = .value v ∨ (n = .skip ∧ v = undef)) ∧ G g w g' w' ∧
    SR N (Next T tb) g' w' { withObj st out.wr with live := liveAfter st.live out } a ∧ RS g' w' (liveAfter st.live out) v out.v ∧ ∀ t ∈ out.v.toks, Next T tb t

theorem liveAfter_pure {live : List Nat} {o : Out} (h1 : o.cons = []) (h2 : o.iss = []) : liveAfter live o = live := by
  simp [liveAfter, h1, h2]

theorem does_gives {out : Out} (hs : SR N T g w st a) (h : Gives P g w st a oper out.v) (hw : out.wr = none) (hc : out.cons = []) (hi : out.iss = []) (ht : ∀ t ∈ out.v.toks, T t) : Does P N T tb g w st a oper out := by
  obtain ⟨v, h1, h2⟩ := h
  refine ⟨_, v, w, g, h1, .inl rfl, G.refl g w, ?_, ?_, fun t htm => .inl (ht t htm)⟩
  · rw [hw, liveAfter_pure hc hi]
    exact hs.quiet (Qt.refl _ hs.dom _) (fun _ h => .inl h) (fun t htm => .inl (hs.wf.live t htm))
  · rw [liveAfter_pure hc hi]; exact h2

theorem does_step {out : Out} (hs : SR N T g w st a) (h : ∃ v w' g', (execOp a.eval oper).run P w = .ok (.value v) w' ∧ Qt T g w g' w' st.live (liveAfter st.live out) ∧ RS g' w' (liveAfter st.live out) v out.v)
    (hw : out.wr = none) (hi : ∀ t ∈ out.iss, Next T tb t) (ht : ∀ t ∈ out.v.toks, Next T tb t) : Does P N T tb g w st a oper out := by
  obtain ⟨v, w', g', h1, h2, h3⟩ := h
  refine ⟨_, v, w', g', h1, .inl rfl, h2.toG, ?_, h3, ht⟩
  rw [hw]
  exact hs.quiet h2 (fun _ h => .inl h) (fun t htm => by
    rcases mem_liveAfter.1 htm with ⟨h, _⟩ | h
    · exact .inl (hs.wf.live t h)
    · exact hi t h)

theorem does_obj {out : Out} (h : ∃ v w' g', (execOp a.eval oper).run P w = .ok (.value v) w' ∧ G g w g' w' ∧ SR N T g' w' (withObj st out.wr) a ∧ RS g' w' st.live v out.v)
    (hc : out.cons = []) (hi : out.iss = []) (ht : ∀ t ∈ out.v.toks, T t) : Does P N T tb g w st a oper out := by
  obtain ⟨v, w', g', h1, h2, h3, h4⟩ := h
  have hl : (withObj st out.wr).live = st.live := by unfold withObj; split <;> rfl
  refine ⟨_, v, w', g', h1, .inl rfl, h2, ?_, ?_, fun t htm => .inl (ht t htm)⟩
  · rw [liveAfter_pure hc hi, ← hl]
    exact h3.quiet (live' := (withObj st out.wr).live) (Qt.refl _ h3.dom _) (fun _ h => .inl h) (fun t htm => .inl (h3.wf.live t htm))
  · rw [liveAfter_pure hc hi]; exact h4

theorem load_toks (hs : SR N T g w st a) (n : Option Nat) (s : ASlot) : ∀ t ∈ (loadOut n st.os s).v.toks, T t := by
  intro t ht
  unfold loadOut at ht
  split at ht
  · rename_i id off
    split at ht
    · simp only at ht
      by_cases h : off < (objCells st.os id).length
      · have hg : (objCells st.os id).getD off .bad = (objCells st.os id)[off] := by simp [List.getD, h]
        rw [hg] at ht
        have hm : (objCells st.os id)[off] ∈ objCells st.os id := List.getElem_mem h
        unfold objCells at h hm ht
        cases ho : st.os[id]? with
        | none => simp [ho] at h
        | some o =>
          simp only [ho] at hm ht
          exact hs.wf.os id o ho _ hm t ht
      · have hg : (objCells st.os id).getD off .bad = .bad := by simp [List.getD, h]
        rw [hg] at ht
        simp [ASlot.toks] at ht
    · simp [ASlot.toks] at ht
  · split at ht <;> simp [ASlot.toks] at ht
  · simp [Out.bad, ASlot.toks] at ht

theorem extract_toks {l : List ASlot} {i t : Nat} (h : t ∈ (l.getD i .bad).toks) (hn : ∀ x ∈ l, ∀ m, x ≠ .tup m) : t ∈ (ASlot.tup l).toks := by
  by_cases hi : i < l.length
  · have hg : l.getD i .bad = l[i] := by simp [List.getD, hi]
    rw [hg] at h
    simp only [ASlot.toks, List.mem_flatMap]
    refine ⟨l[i], List.getElem_mem hi, ?_⟩
    cases hx : l[i] <;> rw [hx] at h <;> simp [ASlot.toks] at h
    · subst h; simp [tokOf]
    · subst h; simp [tokOf]
    · exact (hn _ (List.getElem_mem hi) _ hx).elim
  · have hg : l.getD i .bad = .bad := by simp [List.getD, hi]
    rw [hg] at h
    simp [ASlot.toks] at h

theorem opdOf_eq_none {α : Type} {x : Option α} : x = none → ∀ y, x ≠ some y := by rintro rfl y h; cases h

theorem gives_minmax {mx : Bool} {x y : Operand} {x' y' : Opd} {ts : Array TypeId} (ho : (oper.op = .call { callee := .builtin .min, args := #[x, y], argTypes := ts } ∧ mx = false) ∨ (oper.op = .call { callee := .builtin .max, args := #[x, y], argTypes := ts } ∧ mx = true))
    (hx : opdOf x = some x') (hy : opdOf y = some y') (hs : SR N T g w st a) (hob : (sem tb (.minmax mx x' y') st).ob) : Gives P g w st a oper (sem tb (.minmax mx x' y') st).v := by
  simp only [sem] at hob ⊢
  cases h1 : x'.get st.fr with
  | d p =>
    cases p with
    | int k1 n =>
      cases h2 : y'.get st.fr with
      | d q =>
        cases q with
        | int k2 m =>
          simp only [h1, h2] at hob ⊢
          obtain ⟨o1, o2, rfl⟩ := hob
          have r1 := opd_rs hs hx o1
          have r2 := opd_rs hs hy o2
          rw [h1] at r1; rw [h2] at r2
          have e1 := rv_int (rs_d r1)
          have e2 := rv_int (rs_d r2)
          rcases ho with ⟨ho, rfl⟩ | ⟨ho, rfl⟩
          · exact ⟨_, by simp [execOp, ho, resolve, invoke, builtin, Builtin.min_, Builtin.min2, e1, e2], .int _ _⟩
          · exact ⟨_, by simp [execOp, ho, resolve, invoke, builtin, Builtin.max_, Builtin.max2, e1, e2], .int _ _⟩
        | _ => simp [h1, h2, Out.bad] at hob
      | _ => simp [h1, h2, Out.bad] at hob
    | _ => simp [h1, Out.bad] at hob
  | _ => simp [h1, Out.bad] at hob

set_option linter.unusedSimpArgs false in
/-- ONE OPERATION, HELD AGAINST THE MODEL's. -/
theorem sem_sound {uu oo : Bool} {back : Nat} {o : SOp} (hc : compOp P uu oo back oper.op = some o) (hs : SR N T g w st a) (hfr : Fresh T tb) (hob : (sem tb o st).ob) (hlv : ∀ t ∈ (sem tb o st).cons, t ∈ st.live) : Does P N T tb g w st a oper (sem tb o st) := by
  generalize hop : oper.op = op at hc
  cases op with
  | move x =>
    simp only [compOp, Option.map_eq_some_iff] at hc
    obtain ⟨y, hx, rfl⟩ := hc
    exact does_gives hs (gives_mov (.inl hop) hx hs hob) rfl rfl rfl (opd_toks hs hx (by first | exact hob | exact hob.1))
  | assign x =>
    simp only [compOp, Option.map_eq_some_iff] at hc
    obtain ⟨y, hx, rfl⟩ := hc
    exact does_gives hs (gives_mov (.inr hop) hx hs hob) rfl rfl rfl (opd_toks hs hx (by first | exact hob | exact hob.1))
  | pick c x y =>
    simp only [compOp] at hc
    split at hc
    · rename_i c' x' y' h1 h2 h3
      cases hc
      have hg := gives_pick (P := P) hop h1 h2 h3 hs hob
      refine does_gives hs hg ?_ ?_ ?_ ?_ <;> simp only [sem] <;> split <;> first | rfl | simp [Out.bad, ASlot.toks]
    · cases hc
  | box t x =>
    simp only [compOp, Option.map_eq_some_iff] at hc
    obtain ⟨y, hx, rfl⟩ := hc
    exact does_obj (step_box hop hx hs hob) rfl rfl (by simp [sem, ASlot.toks])
  | alloc t =>
    simp only [compOp, Option.map_eq_some_iff] at hc
    obtain ⟨z, hz, rfl⟩ := hc
    exact does_obj (step_alloc hop hz hs hob) rfl rfl (by simp [sem, ASlot.toks])
  | build t parts =>
    simp only [compOp] at hc
    split at hc
    · rename_i z ps fs h1 h2 h3
      split at hc
      · rename_i h4; cases hc
        exact does_gives hs (gives_build hop h1 h2 (.inl ⟨fs, h3, h4⟩) hs hob) rfl rfl rfl (by simp [sem, ASlot.toks])
      · cases hc
    · rename_i z ps n e h1 h2 h3
      split at hc
      · rename_i h4; cases hc
        exact does_gives hs (gives_build hop h1 h2 (.inr ⟨n, e, h3, h4⟩) hs hob) rfl rfl rfl (by simp [sem, ASlot.toks])
      · cases hc
    · cases hc
  | buildSlice t len parts =>
    simp only [compOp] at hc
    split at hc
    · rename_i e ht
      split at hc
      · rename_i z ps i h1 h2 h3
        split at hc
        · rename_i h4; cases hc
          refine does_step hs (step_buildSlice hop ht h3 h1 h2 h4.1 h4.2.1 h4.2.2 hs hfr hob) ?_ ?_ ?_ <;> simp only [sem] <;> first | rfl | (cases uu <;> simp [ASlot.toks, Next])
        · cases hc
      · cases hc
    · cases hc
  | load t x =>
    simp only [compOp] at hc
    split at hc
    · rename_i n y h1 h2
      cases hc
      refine does_gives hs (gives_load hop h1 h2 hs hob) ?_ ?_ ?_ (load_toks hs n _) <;> simp only [sem, loadOut] <;> split <;> first | rfl | (split <;> rfl)
    · cases hc
  | store t x v =>
    simp only [compOp] at hc
    split at hc
    · rename_i n y z h1 h2 h3
      cases hc
      obtain ⟨w', q1, q2, q3⟩ := step_store hop h1 h2 h3 hs hob
      have hcons : (sem tb (.store n y z) st).cons = [] ∧ (sem tb (.store n y z) st).iss = [] ∧ (sem tb (.store n y z) st).v = .bad := by
        simp only [sem, storeOut]
        split
        · split
          · exact ⟨rfl, rfl, rfl⟩
          · split <;> exact ⟨rfl, rfl, rfl⟩
        · exact ⟨rfl, rfl, rfl⟩
      have hl : (withObj st (sem tb (.store n y z) st).wr).live = st.live := by unfold withObj; split <;> rfl
      refine ⟨_, undef, w', g, q1, .inr ⟨rfl, rfl⟩, q2, ?_, ?_, ?_⟩
      · rw [liveAfter_pure hcons.1 hcons.2.1, ← hl]
        exact q3.quiet (live' := (withObj st (sem tb (.store n y z) st).wr).live) (Qt.refl _ q3.dom _) (fun _ h => .inl h) (fun t htm => .inl (q3.wf.live t htm))
      · rw [hcons.2.2]; trivial
      · rw [hcons.2.2]; simp [ASlot.toks]
    · cases hc
  | nilCheck x =>
    simp only [compOp, Option.map_eq_some_iff] at hc
    obtain ⟨y, hx, rfl⟩ := hc
    exact does_gives hs (gives_nilCheck hop hx hs hob) rfl rfl rfl (opd_toks hs hx (by first | exact hob | exact hob.1))
  | binOp b t x y u =>
    have hbin : ∀ s1 s2 : ASlot, (binS b s1 s2).wr = none ∧ (binS b s1 s2).cons = [] ∧ (binS b s1 s2).iss = [] ∧ (binS b s1 s2).v.toks = [] := by
      intro s1 s2
      unfold binS
      split
      · split <;> (refine ⟨rfl, rfl, rfl, ?_⟩) <;> first | rfl | (unfold binInt; split <;> rfl)
      · refine ⟨rfl, rfl, rfl, ?_⟩
        unfold binStr
        split <;> rfl
      · exact ⟨rfl, rfl, rfl, rfl⟩
    simp only [compOp] at hc
    split at hc
    · rename_i x' y' k h1 h2 h3
      cases hc
      obtain ⟨q1, q2, q3, q4⟩ := hbin (x'.get st.fr) (y'.get st.fr)
      exact does_gives hs (gives_bin hop h1 h2 hs hob) q1 q2 q3 (by simp only [sem]; rw [q4]; simp)
    · rename_i x' y' h1 h2 h3
      cases hc
      obtain ⟨q1, q2, q3, q4⟩ := hbin (x'.get st.fr) (y'.get st.fr)
      exact does_gives hs (gives_bin hop h1 h2 hs hob) q1 q2 q3 (by simp only [sem]; rw [q4]; simp)
    · rename_i x' y' h1 h2 h3
      split at hc
      · cases hc
        refine does_gives hs (gives_eqb (neg := false) hop h3 h1 h2 hs hob) ?_ ?_ ?_ ?_ <;> simp only [sem] <;> split <;> first | rfl | simp [Out.bad, ASlot.toks]
      · cases hc
        refine does_gives hs (gives_eqb (neg := true) hop h3 h1 h2 hs hob) ?_ ?_ ?_ ?_ <;> simp only [sem] <;> split <;> first | rfl | simp [Out.bad, ASlot.toks]
      · cases hc
    · split at hc
      · split at hc
        · cases hc; simp [sem, Out.bad] at hob
        · cases hc; simp [sem, Out.bad] at hob
        · cases hc
      · cases hc
    · rename_i x' y' fs h1 h2 h3
      split at hc
      · rename_i ks hk
        cases hc
        refine does_gives hs (gives_eqAgg (neg := false) hop h1 h2 hk hs hob) ?_ ?_ ?_ ?_ <;> simp only [sem] <;> split <;> first | rfl | simp [Out.bad, ASlot.toks]
      · rename_i ks hk
        cases hc
        refine does_gives hs (gives_eqAgg (neg := true) hop h1 h2 hk hs hob) ?_ ?_ ?_ ?_ <;> simp only [sem] <;> split <;> first | rfl | simp [Out.bad, ASlot.toks]
      · cases hc
    · rename_i x' y' d _ _ _ _ _ h1 h2 h3
      split at hc
      · rename_i k hk
        cases hc
        refine does_gives hs (gives_eqnil (neg := false) hop h1 h3 hk hs hob) ?_ ?_ ?_ ?_ <;> simp only [sem] <;> split <;> first | rfl | simp [Out.bad, ASlot.toks]
      · rename_i k hk
        cases hc
        refine does_gives hs (gives_eqnil (neg := true) hop h1 h3 hk hs hob) ?_ ?_ ?_ ?_ <;> simp only [sem] <;> split <;> first | rfl | simp [Out.bad, ASlot.toks]
      · cases hc
    · cases hc
  | unOp b t x =>
    simp only [compOp] at hc
    split at hc
    · rename_i y hx
      cases hc
      refine does_gives hs (gives_not hop hx hs hob) ?_ ?_ ?_ ?_ <;> simp only [sem] <;> split <;> first | rfl | simp [Out.bad, ASlot.toks]
    · rename_i y hx
      cases hc
      refine does_gives hs (gives_neg hop hx hs hob) ?_ ?_ ?_ ?_ <;> simp only [sem] <;> split <;> first | rfl | simp [Out.bad, ASlot.toks]
    · cases hc
  | convert s t x =>
    simp only [compOp] at hc
    split at hc
    · rename_i j k y h1 h2 h3
      cases hc
      refine does_gives hs (gives_conv hop h1 h2 h3 hs hob) ?_ ?_ ?_ ?_ <;> simp only [sem] <;> split <;> first | rfl | simp [Out.bad, ASlot.toks]
    · rename_i y h1 h2 h3
      cases hc
      refine does_gives hs (gives_asStr hop h1 h2 h3 hs hob) ?_ ?_ ?_ ?_ <;> simp only [sem] <;> split <;> first | rfl | simp [Out.bad, ASlot.toks]
    · rename_i j y h1 h2 h3
      cases hc
      refine does_gives hs (gives_i2s hop h1 h2 h3 hs hob) ?_ ?_ ?_ ?_ <;> simp only [sem] <;> split <;> first | rfl | simp [Out.bad, ASlot.toks]
    · rename_i e y h1 h2 h3
      split at hc
      · rename_i h4
        cases hc
        cases hr : (y.get st.fr).rows with
        | some p =>
          obtain ⟨es, r⟩ := p
          refine does_gives hs (gives_b2s hr hop h1 h4 h2 h3 hs hob) ?_ ?_ ?_ ?_ <;> simp only [sem, hr] <;> first | rfl | simp [Out.bad, ASlot.toks]
        | none =>
          cases hr2 : refSrc 1 st.os (y.get st.fr) with
          | some r => refine does_gives hs (gives_b2s_ref hr hr2 hop h1 h4 h2 h3 hs hob) ?_ ?_ ?_ ?_ <;> simp only [sem, hr, hr2] <;> first | rfl | simp [Out.bad, ASlot.toks]
          | none => simp [sem, hr, hr2, Out.bad] at hob
      · cases hc
    · rename_i e y h1 h2 h3
      split at hc
      · rename_i h4
        cases hc
        refine does_step hs (step_s2b hop h1 h2 h4 h3 hs hob) ?_ ?_ ?_ <;> simp only [sem] <;> split <;> first | rfl | simp [Out.bad, ASlot.toks]
      · cases hc
    · cases hc
  | makeFunc fn first captured =>
    simp only [compOp] at hc
    split at hc
    · rename_i f' c' h1 h2
      cases hc
      exact does_gives hs (gives_mkFunc hop h1 h2 hs hob) rfl rfl rfl (by simp [sem, ASlot.toks])
    · cases hc
  | makeSlice t l c =>
    simp only [compOp] at hc
    split at hc
    · rename_i e ht
      split at hc
      · rename_i z i l' c' h1 h2 h3 h4
        split at hc
        · rename_i h5
          cases hc
          refine does_step hs (step_makeSlice hop ht h2 h1 h5.1 h5.2 h3 h4 hs hfr hob) ?_ ?_ ?_ <;> simp only [sem] <;> split <;> first | rfl | (simp [Out.bad, ASlot.toks]; done) | (cases uu <;> simp [ASlot.toks, Next])
        · cases hc
      · cases hc
    · cases hc
  | slice t x lo hi mx =>
    simp only [compOp] at hc
    split at hc
    · rename_i e x' lo' hi' mx' h1 h2 h3 h4 h5
      simp only [Option.map_eq_some_iff] at hc
      obtain ⟨i, hi', rfl⟩ := hc
      refine does_gives hs (gives_slice hop h1 hi' h2 h3 h4 h5 hs hob) ?_ ?_ ?_ ?_ <;> simp only [sem, sliceOut] <;> split <;> first | rfl | (simp [Out.bad, ASlot.toks]; done) | (split <;> first | rfl | simp [Out.bad, ASlot.toks])
    · rename_i x' lo' hi' h1 h2 h3 h4 h5
      cases hc
      have hmx : mx = none := by
        cases mx with
        | none => rfl
        | some m => cases hm : opdOf m <;> simp [hm] at h5
      subst hmx
      refine does_gives hs (gives_sliceS hop h1 h2 h3 h4 hs hob) ?_ ?_ ?_ ?_ <;> simp only [sem, sliceSOut] <;> split <;> first | rfl | simp [Out.bad, ASlot.toks]
    · rename_i n e x' lo' hi' mx' h1 h2 h3 h4 h5
      split at hc
      · rename_i i h7
        split at hc
        · cases hc
          refine does_gives hs (gives_sliceA hop h1 h7 h2 h3 h4 h5 hs hob) ?_ ?_ ?_ ?_ <;> simp only [sem, sliceAOut] <;> split <;> first | rfl | simp [Out.bad, ASlot.toks]
        · cases hc
      · cases hc
    · cases hc
  | fieldAddr t x f =>
    simp only [compOp] at hc
    split at hc
    · rename_i fs y h1 h2
      split at hc
      · rename_i fl h3
        split at hc
        · rename_i i h4
          split at hc
          · cases hc
          · rename_i h5
            cases hc
            refine does_gives hs (gives_faddr hop h1 h3 h4 h5 h2 hs hob) ?_ ?_ ?_ ?_ <;> simp only [sem] <;> split <;> first | rfl | simp [Out.bad, ASlot.toks]
        · cases hc
      · cases hc
    · cases hc
  | field t x f =>
    simp only [compOp] at hc
    split at hc
    · rename_i fs y h1 h2
      split at hc
      · rename_i fl h3
        simp only [Option.map_eq_some_iff] at hc
        obtain ⟨n, hn, rfl⟩ := hc
        refine does_gives hs (gives_field hop h1 h3 hn h2 hs hob) ?_ ?_ ?_ ?_ <;> simp only [sem] <;> split <;> first | rfl | (simp [Out.bad, ASlot.toks]; done) | (split <;> first | rfl | simp [ASlot.toks])
      · cases hc
    · cases hc
  | indexAddr t x i =>
    simp only [compOp] at hc
    split at hc
    · rename_i e x' i' h1 h2 h3
      split at hc
      · rename_i ti h4
        split at hc
        · cases hc
          refine does_gives hs (gives_iaddr hop h1 h4 h2 h3 hs hob) ?_ ?_ ?_ ?_ <;> simp only [sem] <;> split <;> first | rfl | (simp [Out.bad, ASlot.toks]; done) | (split <;> first | rfl | simp [Out.bad, ASlot.toks])
        · cases hc
      · cases hc
    · rename_i n e x' i' h1 h2 h3
      split at hc
      · rename_i ti h4
        split at hc
        · cases hc
          refine does_gives hs (gives_iaddrA hop h1 h4 h2 h3 hs hob) ?_ ?_ ?_ ?_ <;> simp only [sem] <;> split <;> first | rfl | simp [Out.bad, ASlot.toks]
        · cases hc
      · cases hc
    · cases hc
  | index t x i =>
    simp only [compOp] at hc
    split at hc
    · rename_i x' i' h1 h2 h3
      cases hc
      refine does_gives hs (gives_indexS hop h1 h2 h3 hs hob) ?_ ?_ ?_ ?_ <;> simp only [sem] <;> split <;> first | rfl | simp [Out.bad, ASlot.toks]
    · rename_i n e x' i' h1 h2 h3
      split at hc
      · rename_i ti k h4 h5
        cases hc
        refine does_gives hs (gives_indexA hop h1 h4 h5 h2 h3 hs hob) ?_ ?_ ?_ ?_ <;> simp only [sem] <;> split <;> first | rfl | (simp [Out.bad, ASlot.toks]; done) | (split <;> first | rfl | simp [ASlot.toks])
      · cases hc
    · cases hc
  | extract x i =>
    simp only [compOp, Option.map_eq_some_iff] at hc
    obtain ⟨y, hx, rfl⟩ := hc
    refine does_gives hs (gives_extract hop hx hs hob) ?_ ?_ ?_ ?_
    · simp only [sem]; split <;> rfl
    · simp only [sem]; split <;> rfl
    · simp only [sem]; split <;> rfl
    · simp only [sem] at hob ⊢
      split
      · rename_i l hl
        simp only [hl] at hob
        intro t ht
        have hrs := opd_rs hs hx hob.1
        rw [hl] at hrs
        obtain ⟨vs, _, hlen, hc⟩ := hrs
        have hmem := extract_toks ht (fun s hsl m hm => by
          obtain ⟨j, hj⟩ := List.getElem?_of_mem hsl
          have hlt : j < vs.length := by rw [hlen]; exact (List.getElem?_eq_some_iff.1 hj).1
          have := hc j _ s (List.getElem?_eq_getElem hlt) hj
          rw [hm] at this
          exact this.elim)
        have := opd_toks hs hx hob.1 t
        rw [hl] at this
        exact this hmem
      · simp [Out.bad, ASlot.toks]
  | call c =>
    obtain ⟨callee, args, argTypes⟩ := c
    cases callee with
    | value f =>
      simp only [compOp] at hc
      split at hc
      · cases hc; simp [sem, Out.bad] at hob
      · cases hc
    | invoke r m => simp [compOp] at hc
    | builtin b =>
    by_cases hlen : b = .len
    · subst hlen
      simp only [compOp] at hc
      split at hc
      · rename_i x t ha hty
        have ea : args = #[x] := by apply Array.ext'; simpa using ha
        have et : argTypes = #[t] := by apply Array.ext'; simpa using hty
        subst ea et
        split at hc
        · rename_i y h1 h2
          cases hc
          refine does_gives hs (gives_lenS hop h2 h1 hs hob) ?_ ?_ ?_ ?_ <;> simp only [sem] <;> split <;> first | rfl | simp [Out.bad, ASlot.toks]
        · rename_i y e h1 h2
          cases hc
          refine does_gives hs (gives_len hop h2 h1 hs hob) ?_ ?_ ?_ ?_ <;> simp only [sem] <;> split <;> first | rfl | simp [Out.bad, ASlot.toks]
        · cases hc
      · cases hc
    by_cases happ : b = .append
    · subst happ
      simp only [compOp] at hc
      split at hc
      · rename_i s x t u ha hty
        have ea : args = #[s, x] := by apply Array.ext'; simpa using ha
        have et : argTypes = #[t, u] := by apply Array.ext'; simpa using hty
        subst ea et
        have fin : ∀ (es bytes : Nat) (s' x' : Opd), (∃ v w' g', (execOp a.eval oper).run P w = .ok (.value v) w' ∧ Qt T g w g' w' st.live (liveAfter st.live (sem tb (.append uu es bytes s' x') st)) ∧
            RS g' w' (liveAfter st.live (sem tb (.append uu es bytes s' x') st)) v (sem tb (.append uu es bytes s' x') st).v) → Does P N T tb g w st a oper (sem tb (.append uu es bytes s' x') st) := by
          intro es bytes s' x' h
          have hU : ∀ (r : Src) (s : ASlot), (appendU es bytes tb r s).wr = none ∧ (∀ t ∈ (appendU es bytes tb r s).iss, Next T tb t) ∧ ∀ t ∈ (appendU es bytes tb r s).v.toks, Next T tb t := by
            intro r s
            unfold appendU
            split <;> simp [ASlot.toks, Next, Out.bad]
          cases uu with
          | true =>
            refine does_step hs h ?_ ?_ ?_ <;> simp only [sem, appendOut] <;> split <;> first | exact (hU _ _).1 | exact (hU _ _).2.1 | exact (hU _ _).2.2 | rfl | (simp [Out.bad, ASlot.toks]; done)
          | false => refine does_step hs h ?_ ?_ ?_ <;> simp only [sem, appendOut] <;> split <;> first | rfl | (simp [Out.bad, ASlot.toks]; done) | (split <;> first | rfl | (simp [Out.bad, ASlot.toks]; done) | (simp [ASlot.toks, Next]))
        have both : ∀ {e : TypeId} {i : TypeInfo} {z : List D} {s' x' : Opd}, P.underlying t = some (.slice e) → P.info? e = some i → zeroCellsD P e = some z → i.size = z.length → 0 < i.bytes →
            ((∃ f, P.underlying u = some (.slice f)) ∨ P.underlying u = some .string) → opdOf s = some s' → opdOf x = some x' → (sem tb (.append uu i.size i.bytes s' x') st).ob →
            (∀ t ∈ (sem tb (.append uu i.size i.bytes s' x') st).cons, t ∈ st.live) →
            ∃ v w' g', (execOp a.eval oper).run P w = .ok (.value v) w' ∧ Qt T g w g' w' st.live (liveAfter st.live (sem tb (.append uu i.size i.bytes s' x') st)) ∧
            RS g' w' (liveAfter st.live (sem tb (.append uu i.size i.bytes s' x') st)) v (sem tb (.append uu i.size i.bytes s' x') st).v := by
          intro e i z s' x' q1 q2 q3 q4 q5 q6 q7 q8 q9 q10
          cases uu with
          | true => exact step_append_uni hop q1 q2 q3 q4 q5 q6 q7 q8 hs hfr q9 q10
          | false => exact step_append_own hop q1 q2 q3 q4 q5 q6 q7 q8 hs hfr q9 q10
        have all : ∀ {e : TypeId} {i : TypeInfo} {z : List D} {s' x' : Opd}, P.underlying t = some (.slice e) → P.info? e = some i → zeroCellsD P e = some z → i.size = z.length → 0 < i.bytes →
            ((∃ f, P.underlying u = some (.slice f)) ∨ P.underlying u = some .string) → opdOf s = some s' → opdOf x = some x' → some (mkAppend uu oo back i.size i.bytes s' x') = some o → Does P N T tb g w st a oper (sem tb o st) := by
          intro e i z s' x' q1 q2 q3 q4 q5 q6 q7 q8 hc
          unfold mkAppend at hc
          cases oo with
          | true =>
            simp only [if_true, Option.some.injEq] at hc
            subst hc
            refine does_obj (step_appendO hop q1 q2 q3 q4 q5 q6 q7 q8 hs hob) ?_ ?_ ?_ <;> simp only [sem, appendOOut] <;> split <;> first | rfl | simp [Out.bad, ASlot.toks]
          | false =>
            simp only [Bool.false_eq_true, if_false, Option.some.injEq] at hc
            subst hc
            exact fin _ _ _ _ (both q1 q2 q3 q4 q5 q6 q7 q8 hob hlv)
        split at hc
        · rename_i e f a' b' h1 h2 h3 h4
          split at hc
          · rename_i i z h5 h6
            split at hc
            · rename_i h7
              exact all h1 h5 h6 h7.1 h7.2.2 (.inl ⟨f, h2⟩) h3 h4 hc
            · cases hc
          · cases hc
        · rename_i e a' b' h1 h2 h3 h4
          split at hc
          · rename_i i z h5 h6
            split at hc
            · rename_i h7
              exact all h1 h5 h6 h7.1 h7.2.2 (.inr h2) h3 h4 hc
            · cases hc
          · cases hc
        · cases hc
      · cases hc
    by_cases hcpy : b = .copy
    · subst hcpy
      simp only [compOp] at hc
      split at hc
      · rename_i s x t u ha hty
        have ea : args = #[s, x] := by apply Array.ext'; simpa using ha
        have et : argTypes = #[t, u] := by apply Array.ext'; simpa using hty
        subst ea et
        have fin : ∀ (es : Nat) (s' x' : Opd), (∃ v w' g', (execOp a.eval oper).run P w = .ok (.value v) w' ∧ G g w g' w' ∧ SR N T g' w' (withObj st (sem tb (.copy es s' x') st).wr) a ∧ RS g' w' st.live v (sem tb (.copy es s' x') st).v) →
            Does P N T tb g w st a oper (sem tb (.copy es s' x') st) := by
          intro es s' x' h
          refine does_obj h ?_ ?_ ?_ <;> simp only [sem, copyOut] <;> split <;> first | rfl | simp [Out.bad, ASlot.toks]
        split at hc
        · rename_i e f a' b' h1 h2 h3 h4
          simp only [Option.map_eq_some_iff] at hc
          obtain ⟨i, h5, rfl⟩ := hc
          exact fin _ _ _ (step_copy hop h1 h5 h3 h4 hs hob)
        · rename_i e a' b' h1 h2 h3 h4
          split at hc
          · rename_i i h5
            split at hc
            · cases hc
              exact fin _ _ _ (step_copy hop h1 h5 h3 h4 hs hob)
            · cases hc
          · cases hc
        · cases hc
      · cases hc
    by_cases hmin : b = .min
    · subst hmin
      simp only [compOp] at hc
      split at hc
      · rename_i x y ha
        have ea : args = #[x, y] := by apply Array.ext'; simpa using ha
        subst ea
        split at hc
        · rename_i x' y' h1 h2
          cases hc
          refine does_gives hs (gives_minmax (mx := false) (.inl ⟨hop, rfl⟩) h1 h2 hs hob) ?_ ?_ ?_ ?_ <;> simp only [sem] <;> split <;> first | rfl | simp [Out.bad, ASlot.toks]
        · cases hc
      · cases hc
    by_cases hmax : b = .max
    · subst hmax
      simp only [compOp] at hc
      split at hc
      · rename_i x y ha
        have ea : args = #[x, y] := by apply Array.ext'; simpa using ha
        subst ea
        split at hc
        · rename_i x' y' h1 h2
          cases hc
          refine does_gives hs (gives_minmax (mx := true) (.inr ⟨hop, rfl⟩) h1 h2 hs hob) ?_ ?_ ?_ ?_ <;> simp only [sem] <;> split <;> first | rfl | simp [Out.bad, ASlot.toks]
        · cases hc
      · cases hc
    · cases b <;> first | (exact (hlen rfl).elim) | (exact (happ rfl).elim) | (exact (hcpy rfl).elim) | (exact (hmin rfl).elim) | (exact (hmax rfl).elim) | (simp [compOp] at hc)
  | _ => simp [compOp] at hc

end
end Go.Abs

/- The abstract layer, part 17: one operation of a region, with its guard; calls; regions in the order of the text. -/
namespace Go.Abs

/-- Is an operation wanted? (none: not known) -/
def gv (fr : Fr) : Option (Nat × Bool) → Option Bool
  | none => some true
  | some (k, b) => match fr.get k with
    | some (v, .d (.bool c)) => some (v && (c == b))
    | _ => none

def putFr (fr : Fr) (dst : Option Nat) (g : Bool) (v : ASlot) : Fr :=
  match dst with
  | some d => (d, g, v) :: fr
  | none => fr

/-- The state behind an operation. -/
def St.next (st : St) (o : SOper) (g : Bool) (out : Out) : St :=
  { fr := putFr st.fr o.dst g out.v, os := setAll st.os out.wrs, live := liveAfter st.live out, nt := st.nt }

/-- An operation that may also be left out. -/
def Out.tame (out : Out) : Prop := out.wrs = [] ∧ out.cons = [] ∧ out.iss = []

/-- The function and the arguments of a call. -/
def callOf (fr : Fr) (f : Opd) (args : List Opd) : Option (FuncId × List ASlot) :=
  match f.get fr with
  | .d (.func (.func k) first caps) => some (k, first.map .d ++ args.map (·.get fr) ++ caps.map .d)
  | _ => none

def callOut (tb : Nat) (as fa : List ASlot) (r : ASlot) (fo' : List AObj) (ι : List Nat) : Out :=
  { v := (retok tb r).ren ι, ob := True, cons := (handed as fa).map (·.1), iss := (retok tb r).toks, mv := ι.zip (fo'.map (AObj.ren ι)) }

/-- A call that may be made, by a contract. -/
structure CallOk (P : Program) (st : St) (f : Opd) (args : List Opd) (k : FuncId) (as fa : List ASlot) (r : ASlot) (fo fo' : List AObj) (ι : List Nat) : Prop where
  callee : callOf st.fr f args = some (k, as)
  ok : f.ok st.fr = true
  oks : (args.all fun x => x.ok st.fr) = true
  contract : ACall P k fa fo r fo'
  body : (P.funcs[k]?).any (fun fn => fn.body.isSome && !(fn.name == "runtime.NumGoroutine")) = true
  fits : Fits st.live as fa ι fo.length
  objs : ObjFit st.os fo fo' ι
  nodup : r.toks.Nodup
  few : r.toks.length ≤ 16

/-- What is known of one operation's outcome. -/
def AOne (P : Program) (tb : Nat) (o : SOper) (st : St) (g : Bool) (out : Out) : Prop :=
  gv st.fr o.guard = some g ∧ (g = true ∨ out.tame) ∧
  match o.op with
  | .call f args => ∃ k as fa r fo fo' ι, out = callOut tb as fa r fo' ι ∧ r.toks.length ≤ 16 ∧ (g = true → CallOk P st f args k as fa r fo fo' ι)
  | .eqnilS neg _ => ∃ (b : Bool), out = { v := .d (.bool (if neg then !b else b)), ob := True } ∧ g = true
  | op => out = sem tb op st ∧ (g = true → out.ob ∧ ∀ t ∈ out.cons, t ∈ st.live)

section
variable {P : Program} {mu : List Nat} {N tb : Nat} {T : Nat → Prop} {g : Ghost} {w : World} {st : St} {a : Act} {oper : Oper} {ops : Array Oper}

theorem compOper_spec {back : Nat} {o : SOper} (h : compOper P mu ops N back oper = some o) :
    compOp P (oper.dst.any mu.contains) (oper.dst.any fun d => mu.contains (d + 1000000)) back oper.op = some o.op ∧ o.dst = oper.dst ∧ (∀ d, oper.dst = some d → d < N) ∧
    match oper.guard with
    | none => o.guard = none
    | some (j, b) => ∃ d, (ops[j]?).bind (·.dst) = some d ∧ o.guard = some (d, b) := by
  unfold compOper at h
  split at h
  · cases h
  · rename_i op hop
    split at h
    · rename_i hd
      have hd' : ∀ d, oper.dst = some d → d < N := by
        intro d hdd
        rw [hdd] at hd
        simpa using hd
      split at h
      · rename_i hg
        cases h
        exact ⟨hop, rfl, hd', by rw [hg]⟩
      · rename_i j b hg
        split at h
        · rename_i d hj
          cases h
          exact ⟨hop, rfl, hd', by rw [hg]; exact ⟨d, hj, rfl⟩⟩
        · cases h
    · cases h

theorem wanted_gv {back : Nat} {o : SOper} {gb : Bool} (h : compOper P mu ops N back oper = some o) (hs : SR N T g w st a) (hg : gv st.fr o.guard = some gb) : Region.wanted oper (yielded ops a.tmps) = gb := by
  obtain ⟨_, _, _, hgd⟩ := compOper_spec h
  cases hq : oper.guard with
  | none =>
    rw [hq] at hgd
    simp only at hgd
    rw [hgd] at hg
    simp [gv] at hg
    simp [Region.wanted, hq, hg]
  | some p =>
    obtain ⟨j, b⟩ := p
    rw [hq] at hgd
    obtain ⟨d, hd, hgd⟩ := hgd
    rw [hgd] at hg
    simp only [gv] at hg
    split at hg
    · rename_i v c hget
      cases hg
      obtain ⟨h1, h2⟩ := hs.slots d v _ hget
      simp only [Region.wanted, hq, yielded, hd, Option.bind_some]
      cases v with
      | true =>
        have := rv_bool (rs_d (h1 rfl))
        have hlt : a.tmps[d]? = some (.bool c) := by
          cases hx : a.tmps[d]? with
          | none => simp [Array.getD_eq_getD_getElem?, hx, undef] at this
          | some u => simp [Array.getD_eq_getD_getElem?, hx] at this; rw [this]
        rw [hlt]
        cases c <;> cases b <;> rfl
      | false =>
        have := h2 rfl
        cases hx : a.tmps[d]? with
        | none => rfl
        | some u =>
          simp [Array.getD_eq_getD_getElem?, hx] at this
          rw [this]
          rfl
    · cases hg

theorem setAll_nil (os : List AObj) : setAll os [] = os := rfl

theorem wrs_plain {out : Out} (st : St) (hm : out.mv = []) : setAll st.os out.wrs = (withObj st out.wr).os := by
  unfold Out.wrs
  rw [hm, List.append_nil]
  cases out.wr with
  | none => rfl
  | some p => rfl

theorem sem_mv (o : SOp) (st : St) : (sem tb o st).mv = [] := by
  cases o <;> simp only [sem, loadOut, storeOut, binS, appendOut, appendU, appendOOut, copyOut, sliceOut, sliceSOut, sliceAOut, Out.bad] <;> (repeat' split) <;> rfl

theorem withObj_none (st : St) : withObj st none = st := rfl

theorem withObj_fields (st : St) (x : Option (Nat × AObj)) : (withObj st x).fr = st.fr ∧ (withObj st x).live = st.live ∧ (withObj st x).nt = st.nt := by
  unfold withObj; split <;> exact ⟨rfl, rfl, rfl⟩

/-- Behind an operation that was left out. -/
theorem skip_next {back : Nat} {o : SOper} {out : Out} (h : compOper P mu ops N back oper = some o) (hs : SR N T g w st a) (ht : out.tame) :
    SR N T g w (st.next o false out) (a.put oper.dst undef) := by
  obtain ⟨_, hdst, hd, _⟩ := compOper_spec h
  obtain ⟨t1, t2, t3⟩ := ht
  have hn : st.next o false out = { st with fr := putFr st.fr o.dst false out.v } := by
    unfold St.next
    rw [t1, setAll_nil, liveAfter_pure t2 t3]
  rw [hn, hdst]
  cases hdd : oper.dst with
  | none => exact hs
  | some d => exact hs.putUndef (hd d hdd)

/-- Behind an operation that was carried out. -/
theorem done_next {back : Nat} {o : SOper} {out : Out} {g' : Ghost} {w' : World} {v : Value} (h : compOper P mu ops N back oper = some o)
    (hs : SR N T g' w' { st with os := setAll st.os out.wrs, live := liveAfter st.live out } a) (hv : RS g' w' (liveAfter st.live out) v out.v) (htk : ∀ t ∈ out.v.toks, T t) :
    SR N T g' w' (st.next o true out) (a.put oper.dst v) := by
  obtain ⟨_, hdst, hd, _⟩ := compOper_spec h
  have hn : st.next o true out = { ({ st with os := setAll st.os out.wrs, live := liveAfter st.live out } : St) with fr := putFr st.fr o.dst true out.v } := rfl
  rw [hn, hdst]
  cases hdd : oper.dst with
  | none => exact hs
  | some d => exact hs.put (hd d hdd) hv htk

theorem SR.weakT {T' : Nat → Prop} (hs : SR N T g w st a) (h : ∀ t, T t → T' t) : SR N T' g w st a :=
  hs.quiet (Qt.refl T hs.dom _) h (fun t ht => h t (hs.wf.live t ht))

theorem args_rs (hs : SR N T g w st a) {l : List Operand} {r : List Opd} (h : l.mapM opdOf = some r) (hok : (r.all fun x => x.ok st.fr) = true) :
    (l.map a.eval).length = (r.map fun x => x.get st.fr).length ∧ ∀ (i : Nat) (v : Value) (s : ASlot), (l.map a.eval)[i]? = some v → (r.map fun x => x.get st.fr)[i]? = some s → RS g w st.live v s := by
  obtain ⟨h1, h2⟩ := mapM_some h
  refine ⟨by simp [h1], fun j v s hv hsl => ?_⟩
  simp only [List.getElem?_map, Option.map_eq_some_iff] at hv hsl
  obtain ⟨y, hy, rfl⟩ := hv
  obtain ⟨x, hx, rfl⟩ := hsl
  exact opd_rs hs (h2 j y x hy hx) (List.all_eq_true.1 hok x (List.mem_of_getElem? hx))

theorem rs_append {live : List Nat} {us vs : List Value} {ss ts : List ASlot} (h1 : us.length = ss.length) (hr : ∀ (i : Nat) (v : Value) (s : ASlot), us[i]? = some v → ss[i]? = some s → RS g w live v s)
    (hq : ∀ (i : Nat) (v : Value) (s : ASlot), vs[i]? = some v → ts[i]? = some s → RS g w live v s) : ∀ (i : Nat) (v : Value) (s : ASlot), (us ++ vs)[i]? = some v → (ss ++ ts)[i]? = some s → RS g w live v s := by
  intro i v s hv hs
  by_cases hi : i < us.length
  · rw [List.getElem?_append_left hi] at hv
    rw [List.getElem?_append_left (by omega)] at hs
    exact hr i v s hv hs
  · rw [List.getElem?_append_right (by omega)] at hv
    rw [List.getElem?_append_right (by omega), ← h1] at hs
    exact hq _ v s hv hs

/-- A call, by its contract. -/
theorem call_sound {f : Operand} {args : Array Operand} {argTypes : Array TypeId} {f' : Opd} {args' : List Opd} {k : FuncId} {as fa : List ASlot} {r : ASlot} {fo fo' : List AObj} {ι : List Nat} (ho : oper.op = .call { callee := .value f, args, argTypes })
    (hf : opdOf f = some f') (ha : args.toList.mapM opdOf = some args') (hs : SR N T g w st a) (hfr : Fresh T tb) (h : CallOk P st f' args' k as fa r fo fo' ι) {K : Act → World → Prop} {Q : Exit → Act → World → Prop}
    (hK : ∀ v w' g', G g w g' w' → SR N (Next T tb) g' w' { st with os := setAll st.os (callOut tb as fa r fo' ι).wrs, live := liveAfter st.live (callOut tb as fa r fo' ι) } a →
      RS g' w' (liveAfter st.live (callOut tb as fa r fo' ι)) v (callOut tb as fa r fo' ι).v → K (a.put oper.dst v) w') : oper.wp P a w K Q := by
  have hcal := h.callee
  unfold callOf at hcal
  cases hfg : f'.get st.fr with
  | d x =>
    cases x with
    | func fn first caps =>
      cases fn with
      | func k' =>
        rw [hfg] at hcal
        simp only [Option.some.injEq, Prod.mk.injEq] at hcal
        obtain ⟨rfl, rfl⟩ := hcal
        have hrf := opd_rs hs hf h.ok
        rw [hfg] at hrf
        have hrv := rs_d hrf
        generalize hfv : a.eval f = fv at hrv
        cases hrv with
        | func _ vf vc _ _ l1 l2 r1 r2 =>
        obtain ⟨la, ra⟩ := args_rs hs ha h.oks
        have hb := h.body
        cases hfn : P.funcs[k']? with
        | none => rw [hfn] at hb; simp at hb
        | some fn =>
          rw [hfn] at hb
          simp only [Option.any_some, Bool.and_eq_true] at hb
          obtain ⟨hb1, hb2⟩ := hb
          have hname : fn.body.isNone = false := by cases hbb : fn.body <;> simp [hbb] at hb1 ⊢
          have hng : (fn.name == "runtime.NumGoroutine") = false := by simpa using hb2
          have hrun : (execOp a.eval oper).run P w = .ok (.enter k' (vf ++ args.toList.map a.eval ++ vc).toArray) w := by
            have harr : vf.toArray ++ args.map a.eval ++ vc.toArray = (vf ++ args.toList.map a.eval ++ vc).toArray := by apply Array.ext'; simp
            simp only [execOp, ho, resolve, hfv, Deferred.ofValue, Sem.run_bind, Sem.run_pure, Result.andThen_ok, invoke, callFunc, run_program, hfn, hname, hng, harr, Bool.false_eq_true, if_false]
          unfold Oper.wp
          rw [hrun]
          show Calls P k' _ w _
          have hvl : (vf ++ args.toList.map a.eval ++ vc).length = (first.map ASlot.d ++ args'.map (fun x => x.get st.fr) ++ caps.map ASlot.d).length := by
            simp only [List.length_append, List.length_map] at la ⊢
            omega
          have hvr := rs_append (g := g) (w := w) (live := st.live) (us := vf ++ args.toList.map a.eval) (vs := vc) (ss := first.map ASlot.d ++ args'.map fun x => x.get st.fr) (ts := caps.map ASlot.d) (by simp only [List.length_append, List.length_map] at la ⊢; omega)
            (rs_append (by simp [l1]) (fun i v s hv hsl => by
              simp only [List.getElem?_map, Option.map_eq_some_iff] at hsl
              obtain ⟨d, hd, rfl⟩ := hsl
              exact r1 i v d hv hd) ra) (fun i v s hv hsl => by
              simp only [List.getElem?_map, Option.map_eq_some_iff] at hsl
              obtain ⟨d, hd, rfl⟩ := hsl
              exact r2 i v d hv hd)
          have hlt : ∀ id ∈ ι, id < st.os.length := by
            intro id hid
            obtain ⟨j, hj⟩ := List.mem_iff_getElem?.1 hid
            by_cases hjl : j < fo.length
            · obtain ⟨id', c, h1, h2, _⟩ := objsIn_get h.objs.olds j _ (List.getElem?_eq_getElem hjl)
              rw [hj] at h1; cases h1
              exact (List.getElem?_eq_some_iff.1 h2).1
            · have hm : id ∈ ι.drop fo.length := by
                refine List.mem_iff_getElem?.2 ⟨j - fo.length, ?_⟩
                rw [List.getElem?_drop, show fo.length + (j - fo.length) = j by omega]
                exact hj
              exact (List.getElem?_eq_some_iff.1 (h.objs.news id hm)).1
          refine (call_objs h.contract hs.dom h.fits h.objs h.nodup tb hfr h.few hs.objs hs.inj hs.ids hvl hvr).mono ?_
          rintro e w' ⟨v, g', rfl, hq, hr, o1, o2, o3⟩
          have hla : liveAfter st.live (callOut tb (first.map ASlot.d ++ args'.map (fun x => x.get st.fr) ++ caps.map ASlot.d) fa r fo' ι) = (st.live.filter fun t => !((handed (first.map ASlot.d ++ args'.map (fun x => x.get st.fr) ++ caps.map ASlot.d) fa).map (·.1)).contains t) ++ (retok tb r).toks := rfl
          have hwr : (callOut tb (first.map ASlot.d ++ args'.map (fun x => x.get st.fr) ++ caps.map ASlot.d) fa r fo' ι).wrs = ι.zip (fo'.map (AObj.ren ι)) := rfl
          refine hK v w' g' hq.toG ?_ (by rw [hla]; exact hr)
          rw [hla, hwr]
          refine hs.quietX hq (fun _ h => .inl h) (fun t htm => ?_) h.objs.nd (by rw [List.length_map]; exact h.objs.len) hlt o1 o2 o3 (fun o ho s hs' => ?_)
          · rcases List.mem_append.1 htm with h1 | h1
            · exact .inl (hs.wf.live t (List.mem_filter.1 h1).1)
            · have := retok_toks h1
              have := h.few
              exact .inr ⟨by omega, by omega⟩
          · obtain ⟨o0, ho0, rfl⟩ := List.mem_map.1 ho
            cases o0 with
            | none => simp [AObj.ren, AObj.cells] at hs'
            | row cs =>
              obtain ⟨s0, hs0, rfl⟩ := List.mem_map.1 hs'
              rw [ren1_toks]
              exact h.objs.toks _ ho0 s0 hs0
      | _ => rw [hfg] at hcal; simp at hcal
    | _ => rw [hfg] at hcal; simp at hcal
  | _ => rw [hfg] at hcal; simp at hcal

theorem compOp_call {uu oo : Bool} {back : Nat} {mo : Op} {f : Opd} {args : List Opd} (h : compOp P uu oo back mo = some (.call f args)) :
    ∃ f0 ma aty, mo = .call { callee := .value f0, args := ma, argTypes := aty } ∧ opdOf f0 = some f ∧ ma.toList.mapM opdOf = some args := by
  cases mo with
  | call c =>
    obtain ⟨callee, margs, argTypes⟩ := c
    cases callee with
    | value f0 =>
      simp only [compOp] at h
      split at h
      · rename_i a0 l0 h2 h3
        cases h
        exact ⟨f0, margs, argTypes, rfl, h2, h3⟩
      · cases h
    | invoke _ _ => simp [compOp] at h
    | builtin b =>
      exfalso
      cases b <;> simp only [compOp, mkAppend] at h <;> (repeat' split at h) <;> first | (cases h; done) | (simp only [Option.map_eq_some_iff] at h; obtain ⟨_, _, h⟩ := h; cases h)
  | _ =>
    exfalso
    simp only [compOp, Option.map_eq_some_iff] at h
    first
      | (obtain ⟨_, _, h⟩ := h; cases h; done)
      | ((repeat' split at h) <;> first | (cases h; done) | (simp only [Option.map_eq_some_iff] at h; obtain ⟨_, _, h⟩ := h; cases h))

/-- ONE OPERATION OF A REGION. -/
theorem one_wp {back : Nat} {o : SOper} {gb : Bool} {out : Out} {K : Act → World → Prop} {Q : Exit → Act → World → Prop} (hc : compOper P mu ops N back oper = some o) (hs : SR N T g w st a) (hfr : Fresh T tb)
    (h1 : AOne P tb o st gb out) (hne : o.op.isNilS = false) (hK : ∀ a' w' g', G g w g' w' → SR N (Next T tb) g' w' (st.next o gb out) a' → K a' w') :
    if Region.wanted oper (yielded ops a.tmps) then oper.wp P a w K Q else K (a.put oper.dst undef) w := by
  obtain ⟨hgv, htame, hop⟩ := h1
  rw [wanted_gv hc hs hgv]
  cases gb with
  | false =>
    rw [if_neg (by simp)]
    exact hK _ _ g (G.refl g w) ((skip_next hc hs (by simpa using htame)).weakT fun _ h => .inl h)
  | true =>
    rw [if_pos rfl]
    obtain ⟨hco, _, _, _⟩ := compOper_spec hc
    have plain : out = sem tb o.op st → (out.ob ∧ ∀ t ∈ out.cons, t ∈ st.live) → oper.wp P a w K Q := by
      intro he hob
      subst he
      obtain ⟨n, v, w', g', r1, r2, r3, r4, r5, r6⟩ := sem_sound hco hs hfr hob.1 hob.2
      unfold Oper.wp
      rw [r1]
      have hfin := hK _ _ g' r3 (done_next hc (by rw [wrs_plain st (sem_mv _ _)]; have := withObj_fields st (sem tb o.op st).wr; exact (by rw [← this.1, ← this.2.2]; exact r4)) r5 r6)
      rcases r2 with rfl | ⟨rfl, rfl⟩
      · exact hfin
      · exact hfin
    cases hoo : o.op with
    | call f args =>
      rw [hoo] at hop hco
      obtain ⟨k, as, fa, r, fo, fo', ι, rfl, hfew, hok⟩ := hop
      have hok := hok rfl
      obtain ⟨f0, ma, aty, hmo, h2, h3⟩ := compOp_call hco
      refine call_sound hmo h2 h3 hs hfr hok (fun v w' g' q1 q2 q3 => hK _ _ g' q1 (done_next hc q2 q3 (fun t ht => ?_)))
      have ht : t ∈ ((retok tb r).ren ι).toks := ht
      rw [ren_toks] at ht
      have := retok_toks ht
      exact .inr ⟨by omega, by omega⟩
    | eqnilS neg x => rw [hoo] at hne; simp [SOp.isNilS] at hne
    | _ => rw [hoo] at hop; exact plain (by rw [hoo]; exact hop.1) (hop.2 rfl)

end
end Go.Abs

/- The abstract layer, part 18: regions in the order of the text. -/
namespace Go.Abs

/-- The objects that an operation touches. -/
def Out.touch (out : Out) : List Nat := out.wrs.map (·.1) ++ out.rd.toList

def nilOut (neg b : Bool) : Out := { v := .d (.bool (if neg then !b else b)), ob := True }

/-- What is asked of a plain operation. -/
def Obl (g : Bool) (out : Out) (live : List Nat) : Prop := (g = true → out.ob ∧ ∀ t ∈ out.cons, t ∈ live) ∧ (g = true ∨ out.tame)

/-- THE RUN OF A REGION's OPERATIONS, number by number. -/
def ARun (P : Program) : List SOper → Nat → List (List Nat) → (List (List Nat) → St → Prop) → St → Prop
  | [], _, tids, K, st => K tids st
  | o :: ops, k, tids, K, st =>
    match gv st.fr o.guard with
    | none => False
    | some g =>
      match o.op with
      | .call f args => ∃ n as fa r fo fo' ι, r.toks.length ≤ 16 ∧ (g = true → CallOk P st f args n as fa r fo fo' ι) ∧ (g = true ∨ (callOut (16 * (st.nt + k)) as fa r fo' ι).tame) ∧
          ARun P ops (k + 1) (tids ++ [(callOut (16 * (st.nt + k)) as fa r fo' ι).touch]) K (st.next o g (callOut (16 * (st.nt + k)) as fa r fo' ι))
      | .eqnilS neg x => g = true ∧ x.ok st.fr = true ∧ ∃ es rows, (x.get st.fr).rows = some (es, rows) ∧
          ∀ b : Bool, (b = true → rows = []) → ARun P ops (k + 1) (tids ++ [[]]) K (st.next o g (nilOut neg b))
      | op => Obl g (sem (16 * (st.nt + k)) op st) st.live ∧ ARun P ops (k + 1) (tids ++ [(sem (16 * (st.nt + k)) op st).touch]) K (st.next o g (sem (16 * (st.nt + k)) op st))

/-- Pairs of operations that must touch different objects. -/
def pairsOk (pairs : List (Nat × Nat)) (tids : List (List Nat)) : Prop :=
  ∀ p ∈ pairs, ∀ i ∈ tids.getD p.1 [], i ∉ tids.getD p.2 []

def St.grow (st : St) (n : Nat) : St := { st with os := st.os ++ List.replicate n .none }
def St.bump (st : St) (n : Nat) : St := { st with nt := st.nt + n }

/-- A region. -/
def ARegion (P : Program) (ops : List SOper) (objs : Nat) (pairs : List (Nat × Nat)) (Q : St → Prop) (st : St) : Prop :=
  ARun P ops 0 [] (fun tids st' => pairsOk pairs tids ∧ Q (st'.bump ops.length)) (st.grow objs)

section
variable {P : Program} {mu : List Nat} {N tb : Nat} {T : Nat → Prop} {g : Ghost} {w : World} {st : St} {a : Act} {ops : Array Oper}

theorem objs_append_none (os : List AObj) (n id : Nat) (o : AObj) (ho : o ≠ .none) : (os ++ List.replicate n AObj.none)[id]? = some o ↔ os[id]? = some o := by
  by_cases h : id < os.length
  · rw [List.getElem?_append_left h]
  · rw [List.getElem?_append_right (by omega)]
    constructor
    · intro h1
      have := List.mem_of_getElem? h1
      exact (ho (List.eq_of_mem_replicate this)).elim
    · intro h1
      have := (List.getElem?_eq_some_iff.1 h1).1
      omega

theorem SR.grow (hs : SR N T g w st a) (n : Nat) : SR N T g w (st.grow n) a := by
  refine ⟨hs.dom, hs.defers, hs.size, hs.slots, fun id o ho hn => hs.objs id o ((objs_append_none _ _ _ _ hn).1 ho) hn, hs.inj, fun b id hb => ?_, ⟨hs.wf.live, hs.wf.fr, fun id o ho s hsm t ht => ?_⟩⟩
  · obtain ⟨o, ho, hn⟩ := hs.ids b id hb
    exact ⟨o, (objs_append_none _ _ _ _ hn).2 ho, hn⟩
  · by_cases hn : o = .none
    · subst hn; simp [AObj.cells] at hsm
    · exact hs.wf.os id o ((objs_append_none _ _ _ _ hn).1 ho) s hsm t ht

theorem SR.bump (hs : SR N T g w st a) (n : Nat) : SR N T g w (st.bump n) a := ⟨hs.dom, hs.defers, hs.size, hs.slots, hs.objs, hs.inj, hs.ids, ⟨hs.wf.live, hs.wf.fr, hs.wf.os⟩⟩

def below (n : Nat) : Nat → Prop := fun t => t < 16 * n

theorem fresh_below (n : Nat) : Fresh (below n) (16 * n) := fun t h h2 => by unfold below at h; omega

theorem next_below (n : Nat) : ∀ t, Next (below n) (16 * n) t → below (n + 1) t := by
  intro t h
  unfold below at *
  rcases h with h | h
  · omega
  · omega

theorem next_nt (st : St) (o : SOper) (g : Bool) (out : Out) : (st.next o g out).nt = st.nt := rfl

theorem compOp_nilS {uu oo : Bool} {back : Nat} {mo : Op} {neg : Bool} {x : Opd} (h : compOp P uu oo back mo = some (.eqnilS neg x)) :
    ∃ t x0 y0 u e, mo = .binOp (if neg then .neq else .eql) t x0 y0 u ∧ opdOf x0 = some x ∧ P.underlying t = some (.slice e) ∧ isNilConst y0 = true := by
  cases mo with
  | binOp op t x0 y0 u =>
    simp only [compOp] at h
    split at h
    · cases h
    · cases h
    · split at h <;> cases h
    · rename_i a b e h1 h2 h3
      split at h
      · rename_i hy
        split at h
        · cases h; exact ⟨t, x0, y0, u, e, rfl, h1, h3, hy⟩
        · cases h; exact ⟨t, x0, y0, u, e, rfl, h1, h3, hy⟩
        · cases h
      · cases h
    · split at h <;> cases h
    · split at h <;> cases h
    · cases h
  | call c =>
    exfalso
    obtain ⟨callee, margs, argTypes⟩ := c
    cases callee with
    | value f0 => simp only [compOp] at h; split at h <;> cases h
    | invoke _ _ => simp [compOp] at h
    | builtin b => cases b <;> simp only [compOp, mkAppend] at h <;> (repeat' split at h) <;> first | (cases h; done) | (simp only [Option.map_eq_some_iff] at h; obtain ⟨_, _, h⟩ := h; cases h)
  | _ =>
    exfalso
    simp only [compOp, Option.map_eq_some_iff] at h
    first
      | (obtain ⟨_, _, h⟩ := h; cases h; done)
      | ((repeat' split at h) <;> first | (cases h; done) | (simp only [Option.map_eq_some_iff] at h; obtain ⟨_, _, h⟩ := h; cases h))

theorem arun_wp {Q : Exit → Act → World → Prop} : ∀ (l : List Oper) (sops : List SOper) (k : Nat) (tids : List (List Nat)) (K : List (List Nat) → St → Prop) (st : St) (g : Ghost) (w : World) (a : Act),
    compOps P mu N ops l = some sops → ARun P sops k tids K st → SR N (below (st.nt + k)) g w st a →
    (∀ tids' st' a' w' g', K tids' st' → st'.nt = st.nt → G g w g' w' → SR N (below (st.nt + k + sops.length)) g' w' st' a' → Q .normal a' w') → wpList P ops Q l a w
  | [], sops, k, tids, K, st, g, w, a, hc, hr, hs, hQ => by
    simp [compOps] at hc; subst hc
    exact hQ tids st a w g hr rfl (G.refl g w) (by simpa using hs)
  | oper :: l, sops, k, tids, K, st, g, w, a, hc, hr, hs, hQ => by
    simp only [compOps] at hc
    split at hc
    · rename_i o rest h1 h2
      cases hc
      simp only [ARun] at hr
      cases hg : gv st.fr o.guard with
      | none => rw [hg] at hr; exact hr.elim
      | some gb =>
        rw [hg] at hr
        have fin : ∀ out : Out, AOne P (16 * (st.nt + k)) o st gb out → o.op.isNilS = false → (∃ td, ARun P rest (k + 1) (tids ++ [td]) K (st.next o gb out)) → wpList P ops Q (oper :: l) a w := by
          rintro out h3 hne ⟨td, h4⟩
          refine wpList_step (fun K' hK' => one_wp h1 hs (fresh_below _) h3 hne (fun a' w' g' hG hs' => hK' a' w' ?_))
          refine arun_wp l rest (k + 1) (tids ++ [td]) K (st.next o gb out) g' w' a' h2 h4 (by rw [next_nt, ← Nat.add_assoc]; exact hs'.weakT (next_below _)) (fun tids' st' a'' w'' g'' q1 q2 q3 q4 => hQ tids' st' a'' w'' g'' q1 q2 (hG.trans q3) ?_)
          rw [next_nt] at q4
          simp only [List.length_cons]
          rw [show st.nt + k + (rest.length + 1) = st.nt + (k + 1) + rest.length by omega]
          exact q4
        cases hop : o.op with
        | call f args =>
          rw [hop] at hr
          obtain ⟨n, as, fa, r, fo, fo', ι, r1, r2, r3, r4⟩ := hr
          exact fin _ ⟨hg, r3, by rw [hop]; exact ⟨n, as, fa, r, fo, fo', ι, rfl, r1, r2⟩⟩ (by rw [hop]; rfl) ⟨_, r4⟩
        | eqnilS neg x =>
          rw [hop] at hr
          obtain ⟨r1, r2, es, rows, r3, r4⟩ := hr
          subst r1
          obtain ⟨hco, hdst, hd, _⟩ := compOper_spec h1
          rw [hop] at hco
          obtain ⟨t, x0, y0, u, e, hmo, hx, ht, hy⟩ := compOp_nilS hco
          obtain ⟨b, hb, v, hv1, hv2⟩ := gives_eqnilS hmo ht hx hy hs r2 r3
          refine wpList_step (fun K' hK' => ?_)
          rw [wanted_gv h1 hs hg, if_pos rfl]
          unfold Oper.wp
          rw [hv1]
          refine hK' _ _ (arun_wp l rest (k + 1) _ K (st.next o true (nilOut neg b)) g w (a.put oper.dst v) h2 (r4 b hb) ?_ (fun tids' st' a'' w'' g'' q1 q2 q3 q4 => hQ tids' st' a'' w'' g'' q1 q2 q3 ?_))
          · refine done_next h1 ?_ ?_ (by simp [nilOut, ASlot.toks])
            · have : liveAfter st.live (nilOut neg b) = st.live := liveAfter_pure rfl rfl
              rw [this]
              exact (hs.weakT fun t h => by rw [next_nt]; unfold below at *; omega)
            · exact hv2
          · rw [next_nt] at q4
            simp only [List.length_cons]
            rw [show st.nt + k + (rest.length + 1) = st.nt + (k + 1) + rest.length by omega]
            exact q4
        | _ =>
          rw [hop] at hr
          exact fin _ ⟨hg, hr.1.2, by rw [hop]; exact ⟨rfl, hr.1.1⟩⟩ (by rw [hop]; rfl) ⟨_, hr.2⟩
    · cases hc

end
end Go.Abs
