/- The abstract layer, part 10: append, make, literals of slices, the bytes of a string. -/
import Derived.Test.YthcpckcgjplhiaaAi
import Derived.Laws.CopyRow
namespace Go.Abs

section
variable {P : Program} {N tb : Nat} {T : Nat → Prop} {g : Ghost} {w : World} {st : St} {a : Act} {oper : Oper}

theorem getElem?_chunks : ∀ (n es : Nat) (l : List D), n * es ≤ l.length → (chunks es n l).flatten = l.take (n * es) ∧ (∀ r ∈ chunks es n l, r.length = es) ∧ (chunks es n l).length = n
  | 0, es, l, _ => by simp [chunks]
  | n + 1, es, l, h => by
    rw [Nat.succ_mul] at h
    obtain ⟨h1, h2, h3⟩ := getElem?_chunks n es (l.drop es) (by simp; omega)
    refine ⟨?_, ?_, by simp [chunks, h3]⟩
    · simp only [chunks, List.flatten_cons, h1]
      rw [Nat.succ_mul, Nat.add_comm, List.take_add]
    · intro r hr
      simp only [chunks, List.mem_cons] at hr
      rcases hr with rfl | hr
      · simp; omega
      · exact h2 r hr


theorem ref_read (hs : SR N T g w st a) {v : Value} {id off es n : Nat} (h : RV g w v (.ref id off es n)) (hok : refOk st.os id off es n) :
    (∀ row ∈ refRows st.os id off es n, row.length = es) ∧ (refRows st.os id off es n).length = n ∧ ∃ us : List Value, RL g w us (refRows st.os id off es n).flatten ∧
      ((n = 0 ∧ ∃ ad, v = .slice ad 0 0) ∨ ∃ b cap, v = .slice (some ⟨b, off, none⟩) n cap ∧ ∀ (j : Nat) (u : Value), us[j]? = some u → w.cell? ⟨b, off + j, none⟩ = some u) := by
  obtain ⟨h1, h2⟩ := hok
  obtain ⟨c1, c2, c3⟩ := getElem?_chunks n es (((objCells st.os id).drop off).map ASlot.cellD) (by simp; omega)
  refine ⟨c2, c3, ?_⟩
  show ∃ us : List Value, RL g w us (chunks es n (((objCells st.os id).drop off).map ASlot.cellD)).flatten ∧ _
  rw [c1]
  generalize hy : D.ref id off es n = y at h
  cases h with
  | ref b off' id' es' len cap hg hcap hmx hsz =>
    cases hy
    by_cases h0 : n * es = 0
    · refine ⟨[], ?_, .inr ⟨b, cap, rfl, by simp⟩⟩
      rw [h0]
      exact ⟨by simp, by simp, by simp⟩
    · obtain ⟨c, e, q1, q2, q3⟩ := ro_obj hs hg (by omega)
      have hlen : ((c.toList.drop off).take (n * es)).length = n * es := by simp; omega
      refine ⟨(c.toList.drop off).take (n * es), ⟨by rw [hlen]; simp; omega, ?_, ?_⟩, .inr ⟨b, cap, rfl, ?_⟩⟩
      · intro d hd
        rw [← List.map_take, List.mem_map] at hd
        obtain ⟨s, hs', rfl⟩ := hd
        have := List.all_eq_true.1 h2 s hs'
        cases s <;> simp_all [ASlot.isCellD, ASlot.cellD] <;> rfl
      · intro j u d hu hd
        rw [← List.map_take, List.getElem?_map, Option.map_eq_some_iff] at hd
        obtain ⟨s, hs', rfl⟩ := hd
        have hall := List.all_eq_true.1 h2 s (List.mem_of_getElem? hs')
        have hsj : (objCells st.os id)[off + j]? = some s := by rw [List.getElem?_take] at hs'; split at hs' <;> simp_all
        have huj : c[off + j]? = some u := by rw [List.getElem?_take] at hu; split at hu <;> simp_all
        obtain ⟨v, hv1, _, hv2⟩ := q3 (off + j) s hsj
        rw [huj] at hv1
        cases hv1
        exact (cellD_rv (st := st) hv2 hall).1
      · intro j u hu
        rw [List.getElem?_take] at hu
        split at hu
        · simpa [World.cell?, q1] using hu
        · cases hu
  | refnil ad id' off' es' =>
    cases hy
    refine ⟨[], ?_, .inl ⟨rfl, ad, rfl⟩⟩
    rw [Nat.zero_mul]
    exact ⟨by simp, by simp, by simp⟩
  | _ => cases hy

theorem gives_b2s_ref {s t e : TypeId} {x : Operand} {y : Opd} {r : Src} (h1 : (y.get st.fr).rows = none) (h2 : refSrc 1 st.os (y.get st.fr) = some r) (ho : oper.op = .convert s t x) (hsrc : P.underlying s = some (.slice e)) (he : P.underlying e = some (.int .u8)) (hdst : P.underlying t = some .string)
    (hx : opdOf x = some y) (hs : SR N T g w st a) (hob : (sem tb (.b2s y) st).ob) : Gives P g w st a oper (sem tb (.b2s y) st).v := by
  simp only [sem, h1, h2] at hob ⊢
  obtain ⟨hok, hrok, l, hl⟩ := hob
  have r1 := opd_rs hs hx hok
  cases hy : y.get st.fr with
  | d p =>
    cases p with
    | ref id off es n =>
      rw [hy] at h2 r1
      simp only [refSrc] at h2
      split at h2
      · rename_i hes
        subst hes
        cases h2
        obtain ⟨c1, c2, us, c3, c4⟩ := ref_read hs (rs_d r1) hrok
        simp only at hl
        rw [hl] at c2 c3 ⊢
        rw [rowsBytes_byteRows]
        refine ⟨.string ⟨l.toArray⟩, ?_, .str l⟩
        have hflat := flat_byteRows l
        have hln : l.length = n := by simpa [byteRows] using c2
        have hus : us = l.map fun c => Value.int .u8 c.toNat := by
          refine List.ext_getElem? fun j => ?_
          rcases Nat.lt_or_ge j l.length with hj | hj
          · have hlt : j < us.length := by rw [c3.1, hflat]; simpa using hj
            rw [List.getElem?_eq_getElem hlt, List.getElem?_map, List.getElem?_eq_getElem hj]
            have := c3.2.2 j us[j] (D.int .u8 l[j].toNat) (List.getElem?_eq_getElem hlt) (by rw [hflat]; simp [hj])
            rw [rv_int this]; rfl
          · rw [List.getElem?_eq_none (by rw [c3.1, hflat]; simpa using hj), List.getElem?_eq_none (by simpa using hj)]
        rcases c4 with ⟨h0, ad, hv⟩ | ⟨b, cap, hv, hc⟩
        · have : l = [] := List.eq_nil_of_length_eq_zero (by omega)
          subst this
          cases ad with
          | none =>
            simp [execOp, ho, hv, run_convert_bytes_string w s t e _ _ _ hsrc he hdst, Conv.bytesToString]
            rfl
          | some a0 =>
            have hload : (loadCells a0 0).run P w = .ok (([] : List Int).map (Value.int .u8)).toArray w := by simpa using run_loadCells_list (P := P) w a0 [] (by simp)
            have hrun := run_bytesToString w a0 0 0 [] hload
            simp only [execOp, ho, hv, Sem.run_bind, run_convert_bytes_string w s t e _ _ _ hsrc he hdst, hrun]
            simp [ByteArray.empty, ByteArray.emptyWithCapacity]
            rfl
        · have hload : (loadCells ⟨b, off, none⟩ n).run P w = .ok ((l.map fun c => (c.toNat : Int)).map (Value.int .u8)).toArray w := by
            have := run_loadCells_list (P := P) w ⟨b, off, none⟩ ((l.map fun c => (c.toNat : Int)).map (Value.int .u8)) (by
              intro j v hj
              rw [Addr.add_lit]
              apply hc
              rw [hus]
              simpa using hj)
            simpa [hln] using this
          have hrun := run_bytesToString w ⟨b, off, none⟩ n cap (l.map fun c => (c.toNat : Int)) hload
          rw [foldl_push_bytes] at hrun
          simp only [execOp, ho, hv, Sem.run_bind, run_convert_bytes_string w s t e _ _ _ hsrc he hdst, hrun]
          simp [ByteArray.empty, ByteArray.emptyWithCapacity]
          rfl
      · cases h2
    | _ => rw [hy] at h2; simp [refSrc] at h2
  | _ => rw [hy] at h2; simp [refSrc] at h2

/-- The source of an append: how many elements, and their cells. -/
def Source (P : Program) (size : Nat) (x : Value) (n : Nat) (w : World) (news : List Value) : Prop :=
  (Builtin.lenOf x).run P w = .ok n w ∧ (Builtin.firstCells size n x).run P w = .ok news.toArray w

theorem run_append_fits {t u ty e : TypeId} {i : TypeInfo} (ht : P.underlying t = some (.slice e)) (hi : P.info? e = some i) (hu : (∃ f, P.underlying u = some (.slice f)) ∨ P.underlying u = some .string)
    (ad : Addr) (sLen sCap : Nat) {x : Value} {n : Nat} {news : List Value} (hx : Source P i.size x n w news) (hn : sLen + n ≤ sCap) :
    (Builtin.append_ #[t, u] ty #[.slice (some ad) sLen sCap, x]).run P w =
      ((storeCells (ad.add (sLen * i.size)) news).run P w).andThen fun _ w' => .ok (.slice (some ad) (sLen + n) sCap) w' := by
  obtain ⟨h1, h2⟩ := hx
  rcases hu with ⟨f, hu⟩ | hu
  · simp only [Builtin.append_, Sem.run_bind, run_underlying ht, run_underlying hu, run_sizeOf_info hi, Result.andThen_ok, h1, List.getElem?_toArray, List.getElem?_cons_zero, List.getElem?_cons_succ, Sem.run_pure, Bool.false_eq_true, if_false, hn, if_true, h2, Bool.not_false]
  · simp only [Builtin.append_, Sem.run_bind, run_underlying ht, run_underlying hu, run_sizeOf_info hi, Result.andThen_ok, h1, List.getElem?_toArray, List.getElem?_cons_zero, List.getElem?_cons_succ, Sem.run_pure, Bool.false_eq_true, if_false, hn, if_true, h2, Bool.not_false]

theorem run_append_nofits {t u ty e : TypeId} {i : TypeInfo} (ht : P.underlying t = some (.slice e)) (hi : P.info? e = some i) (hu : (∃ f, P.underlying u = some (.slice f)) ∨ P.underlying u = some .string)
    (sLen sCap : Nat) {x : Value} {n : Nat} {news : List Value} (hx : Source P i.size x n w news) (hn : sLen + n ≤ sCap) :
    (Builtin.append_ #[t, u] ty #[.slice none sLen sCap, x]).run P w = .ok (.slice none (sLen + n) sCap) w := by
  obtain ⟨h1, h2⟩ := hx
  rcases hu with ⟨f, hu⟩ | hu
  · simp only [Builtin.append_, Sem.run_bind, run_underlying ht, run_underlying hu, run_sizeOf_info hi, Result.andThen_ok, h1, List.getElem?_toArray, List.getElem?_cons_zero, List.getElem?_cons_succ, Sem.run_pure, Bool.false_eq_true, if_false, hn, if_true, h2, Bool.not_false]
  · simp only [Builtin.append_, Sem.run_bind, run_underlying ht, run_underlying hu, run_sizeOf_info hi, Result.andThen_ok, h1, List.getElem?_toArray, List.getElem?_cons_zero, List.getElem?_cons_succ, Sem.run_pure, Bool.false_eq_true, if_false, hn, if_true, h2, Bool.not_false]

theorem run_append_more {t u ty e : TypeId} {i : TypeInfo} {z : Value} (ht : P.underlying t = some (.slice e)) (hi : P.info? e = some i) (hz : i.zero = some z) (hu : (∃ f, P.underlying u = some (.slice f)) ∨ P.underlying u = some .string) (hb0 : i.bytes ≠ 0)
    (base : Option Addr) (sLen sCap : Nat) {x : Value} {n : Nat} {olds news : List Value} (hl : (Builtin.lenOf x).run P w = .ok n w) (hx : (Builtin.firstCells i.size n x).run P w.drew = .ok news.toArray w.drew)
    (ho : (Builtin.firstCells i.size sLen (.slice base sLen sCap)).run P w.drew = .ok olds.toArray w.drew)
    (hn : sCap < sLen + n) (hfit : Builtin.nextslicecap (sLen + n) sCap * i.bytes ≤ 281474976710656) :
    (Builtin.append_ #[t, u] ty #[.slice base sLen sCap, x]).run P w =
      .ok (.slice (some ⟨w.heap.size, 0, none⟩) (sLen + n) (grownCap w (sLen + n) sCap e))
        (w.drew.alloc (.cells (olds.toArray ++ news.toArray ++ Builtin.zeroCells z.cells (grownCap w (sLen + n) sCap e - (sLen + n))) e)) := by
  have hn' : ¬ (sLen + n ≤ sCap) := by omega
  have h48' : ¬ (281474976710656 < Builtin.nextslicecap (sLen + n) sCap * i.bytes) := by omega
  have hb : ¬ (((sLen + n : Nat) : Int) > IntKind.i64.max ∧ (false = true ∨ i.bytes = 0)) := by simp [hb0]
  rcases hu with ⟨f, hu⟩ | hu
  · simp [Builtin.append_, run_underlying ht, run_underlying hu, run_sizeOf_info hi, typeInfo, zeroValue, hi, hz, hl, hn', hx, ho, h48', hb0, Question.forced, newRow, grownCap]
    congr 2
    apply Array.ext'
    simp
  · simp [Builtin.append_, run_underlying ht, run_underlying hu, run_sizeOf_info hi, typeInfo, zeroValue, hi, hz, hl, hn', hx, ho, h48', hb0, Question.forced, newRow, grownCap]
    congr 2
    apply Array.ext'
    simp

theorem rl_of_sl {v : Value} {es : Nat} {rows : List (List D)} (h : RV g w v (.sl es rows)) :
    ∃ vs : List Value, RL g w vs rows.flatten ∧ ∃ cap, ((∃ ad, v = .slice ad 0 cap ∧ (ad = none → cap = 0)) ∧ rows = []) ∨ (∃ b off, v = .slice (some ⟨b, off, none⟩) rows.length cap ∧ (∀ r ∈ rows, r.length = es) ∧
      ∀ (j : Nat) (u : Value), vs[j]? = some u → w.cell? ((⟨b, off, none⟩ : Addr).add j) = some u) := by
  rcases rv_sl h with ⟨⟨ad, cp, hv, hn0⟩, rfl⟩ | ⟨b, off, cap, n, o, f, hv, hg, hn, hcap, hes, hcl, hcell, hrv⟩
  · exact ⟨[], ⟨rfl, by simp, by simp⟩, cp, .inl ⟨⟨ad, hv, hn0⟩, rfl⟩⟩
  · refine ⟨(List.range rows.flatten.length).map f, ⟨by simp, hcl, ?_⟩, cap, .inr ⟨b, off, hv, hes, ?_⟩⟩
    · intro j u d hj hd
      simp only [List.getElem?_map, Option.map_eq_some_iff] at hj
      obtain ⟨i, hi, rfl⟩ := hj
      have hlt : j < rows.flatten.length := (List.getElem?_eq_some_iff.1 hd).1
      rw [List.getElem?_range hlt] at hi
      cases hi
      exact hrv j d hd
    · intro j u hj
      simp only [List.getElem?_map, Option.map_eq_some_iff] at hj
      obtain ⟨i, hi, rfl⟩ := hj
      have hlt : j < rows.flatten.length := by have := (List.getElem?_eq_some_iff.1 hi).1; simpa using this
      rw [List.getElem?_range hlt] at hi
      cases hi
      rw [Addr.add_lit]
      exact hcell j _ (List.getElem?_eq_getElem hlt)

theorem source_rows {live : List Nat} {v : Value} {s : ASlot} {es : Nat} {r : List (List D)} (h : RS g w live v s) (hr : (∃ l, s = .d (.str l) ∧ es = 1 ∧ r = byteRows l) ∨ ∃ e, s.rows = some (e, r) ∧ (e = es ∨ r = [])) :
    (∀ row ∈ r, row.length = es) ∧ ∃ news : List Value, RL g w news r.flatten ∧ Source P es v r.length w news ∧ (Builtin.firstCells es r.length v).run P w.drew = .ok news.toArray w.drew ∧ ∀ k, k ≤ r.length → (Builtin.firstCells es k v).run P w = .ok (news.take (k * es)).toArray w := by
  rcases hr with ⟨l, rfl, rfl, rfl⟩ | hr'
  · · have hv := rv_str (rs_d h)
      subst hv
      have hlen : (byteRows l).length = l.length := by simp [byteRows]
      have hext : (⟨l.toArray⟩ : ByteArray).extract 0 l.length = ⟨l.toArray⟩ := by
        apply ByteArray.ext
        simp [ByteArray.data_extract]
      have hcells : ∀ w0 : World, (Builtin.firstCells 1 (byteRows l).length (.string ⟨l.toArray⟩)).run P w0 = .ok (l.map fun b => Value.int .u8 b.toNat).toArray w0 := by
        intro w0
        rw [hlen]
        simp [Builtin.firstCells, hext]
      have hpre : ∀ k, k ≤ (byteRows l).length → (Builtin.firstCells 1 k (.string ⟨l.toArray⟩)).run P w = .ok ((l.map fun b => Value.int .u8 b.toNat).take (k * 1)).toArray w := by
        intro k hk
        rw [hlen] at hk
        simp [Builtin.firstCells, ← List.map_take]
      refine ⟨by simp [byteRows], l.map fun b => Value.int .u8 b.toNat, ?_, ⟨?_, hcells w⟩, hcells w.drew, hpre⟩
      · rw [flat_byteRows]
        refine ⟨by simp, fun d hd => by obtain ⟨c, _, rfl⟩ := List.mem_map.1 hd; rfl, fun j u d hu hd => ?_⟩
        simp only [List.getElem?_map, Option.map_eq_some_iff] at hu hd
        obtain ⟨c, hc, rfl⟩ := hu
        obtain ⟨c', hc', rfl⟩ := hd
        rw [hc] at hc'; cases hc'
        exact .int _ _
      · simp [Builtin.lenOf, hlen, size_mk]
  · obtain ⟨e, hrow, hc⟩ := hr'
    obtain ⟨vs, hrl, cap, hcase⟩ := rl_of_sl (rs_rows h hrow)
    rcases hcase with ⟨⟨ad, rfl, _⟩, rfl⟩ | ⟨b, off, rfl, hes, hcell⟩
    · have : vs = [] := by have := hrl.1; simpa using this
      subst this
      have hfc : ∀ w0 : World, (Builtin.firstCells es 0 (.slice ad 0 cap)).run P w0 = .ok #[] w0 := by
        intro w0
        cases ad with
        | none => simp [Builtin.firstCells]
        | some a0 => exact run_firstCells_some (P := P) w0 es 0 a0 _ _ [] (by simp) (by simp)
      exact ⟨by simp, [], hrl, ⟨by simp [Builtin.lenOf], hfc w⟩, hfc w.drew, fun k hk => (by have : k = 0 := (by simpa using hk); subst this; simpa using hfc w)⟩
    · have hes' : ∀ row ∈ r, row.length = es := by
        rcases hc with rfl | rfl
        · exact hes
        · simp
      have hl : vs.length = r.length * es := by rw [hrl.1, flat_length hes']
      refine ⟨hes', vs, hrl, ⟨by simp [Builtin.lenOf], ?_⟩, ?_, fun k hk => ?_⟩
      · exact run_firstCells_some (P := P) w es r.length _ _ _ vs hl hcell
      · exact run_firstCells_some (P := P) w.drew es r.length _ _ _ vs hl (by simpa using hcell)
      · have hke : k * es ≤ r.length * es := Nat.mul_le_mul_right _ hk
        refine run_firstCells_some (P := P) w es k _ _ _ _ (by rw [List.length_take]; omega) (fun j u hj => hcell j u ?_)
        rw [List.getElem?_take] at hj
        split at hj
        · exact hj
        · cases hj

theorem source_of (hs : SR N T g w st a) {v : Value} {s : ASlot} {es : Nat} {r : Src} (h : RS g w st.live v s) (hr : srcOf es st.os s = some r) (hok : r.ok) :
    (∀ row ∈ r.rows, row.length = es) ∧ ∃ news : List Value, RL g w news r.rows.flatten ∧ Source P es v r.rows.length w news ∧ (Builtin.firstCells es r.rows.length v).run P w.drew = .ok news.toArray w.drew ∧ ∀ k, k ≤ r.rows.length → (Builtin.firstCells es k v).run P w = .ok (news.take (k * es)).toArray w := by
  unfold srcOf at hr
  split at hr
  · rename_i l
    split at hr
    · rename_i h1; cases hr; exact source_rows h (.inl ⟨l, rfl, h1, rfl⟩)
    · cases hr
  · split at hr
    · rename_i e r' hrow
      split at hr
      · rename_i hc; cases hr; exact source_rows h (.inr ⟨e, hrow, hc⟩)
      · cases hr
    · unfold refSrc at hr
      split at hr
      · rename_i id off e n _ _
        split at hr
        · rename_i he
          subst he
          cases hr
          obtain ⟨c1, c2, us, c3, c4⟩ := ref_read hs (rs_d h) hok
          refine ⟨c1, us, c3, ?_⟩
          simp only
          rw [c2]
          rcases c4 with ⟨rfl, ad, rfl⟩ | ⟨b, cap, rfl, hc⟩
          · have : us = [] := by
              have h1 := c3.1
              rw [flat_length c1, c2] at h1
              exact List.eq_nil_of_length_eq_zero (by simpa using h1)
            subst this
            have hfc : ∀ w0 : World, (Builtin.firstCells e 0 (.slice ad 0 0)).run P w0 = .ok #[] w0 := by
              intro w0
              cases ad with
              | none => simp [Builtin.firstCells]
              | some a0 => exact run_firstCells_some (P := P) w0 e 0 a0 _ _ [] (by simp) (by simp)
            exact ⟨⟨by simp [Builtin.lenOf], hfc w⟩, hfc w.drew, fun k hk => (by have : k = 0 := (by omega); subst this; simpa using hfc w)⟩
          · have hl : us.length = n * e := by rw [c3.1, flat_length c1, c2]
            refine ⟨⟨by simp [Builtin.lenOf], ?_⟩, ?_, fun k hk => ?_⟩
            · exact run_firstCells_some (P := P) w e n _ _ _ us hl (fun j u hj => by rw [Addr.add_lit]; exact hc j u hj)
            · exact run_firstCells_some (P := P) w.drew e n _ _ _ us hl (fun j u hj => by rw [Addr.add_lit]; exact hc j u hj)
            · have hke : k * e ≤ n * e := Nat.mul_le_mul_right _ hk
              refine run_firstCells_some (P := P) w e k _ _ _ _ (by rw [List.length_take]; omega) (fun j u hj => ?_)
              rw [List.getElem?_take] at hj
              split at hj
              · rw [Addr.add_lit]; exact hc j u hj
              · cases hj
        · cases hr
      · cases hr

end
end Go.Abs
