/- The abstract layer, part 12: make, literals of slices, bytes of a string; new objects and stores. -/
import Derived.Test.YthcpckcgjplhiaaAk
namespace Go.Abs

section
variable {P : Program} {N tb : Nat} {T : Nat → Prop} {g : Ghost} {w : World} {st : St} {a : Act} {oper : Oper} {live live' : List Nat}

theorem fillD_length : ∀ (ps : List (Nat × List D)) (z : List D), (∀ p ∈ ps, p.1 + p.2.length ≤ z.length) → (fillD z ps).length = z.length
  | [], z, _ => rfl
  | (off, cs) :: ps, z, h => by
    have h0 := h (off, cs) (by simp)
    have hl : (z.take off ++ cs ++ z.drop (off + cs.length)).length = z.length := by simp at h0 ⊢; omega
    simp only [fillD]
    rw [fillD_length ps _ (fun p hp => by rw [hl]; exact h p (by simp [hp])), hl]

/-- The zero cells of a made row. -/
theorem zeroRow_rl {zv : Value} {z : List D} (hm : zv.cells.toList.mapM constD = some z) : ∀ (n k : Nat), k = zv.cells.size → 0 < k →
    RL g w ((Array.range (n * k)).map (zv.cells[· % zv.cells.size]!)).toList (List.replicate n z).flatten := by
  intro n k hk h0
  have hrl : RL g w zv.cells.toList z := RL.consts hm
  have hzl : z.length = k := by have := hrl.1; simp at this; omega
  have hfl : (List.replicate n z).flatten.length = n * k := by simp [hzl]
  have hget : ∀ j, j < n * k → (List.replicate n z).flatten[j]? = z[j % k]? := by
    intro j hj
    have hes : ∀ r ∈ List.replicate n z, r.length = k := by intro r hr; rw [List.eq_of_mem_replicate hr, hzl]
    have hdiv : j / k < n := Nat.div_lt_of_lt_mul (by rw [Nat.mul_comm]; exact hj)
    have hmod : j % k < k := Nat.mod_lt _ h0
    have hrow : (List.replicate n z).getD (j / k) [] = z := by simp [List.getD, hdiv]
    have := flat_getD hes (j / k) (j % k) z[j % k] (by rw [hrow]; exact List.getElem?_eq_getElem (by omega))
    rw [show j / k * k + j % k = j by rw [Nat.mul_comm]; exact Nat.div_add_mod j k] at this
    rw [this, List.getElem?_eq_getElem (by omega)]
  refine ⟨by simp [hzl], ?_, ?_⟩
  · intro d hd
    obtain ⟨j, hj⟩ := List.getElem?_of_mem hd
    have hlt : j < n * k := by rw [← hfl]; exact (List.getElem?_eq_some_iff.1 hj).1
    rw [hget j hlt] at hj
    exact hrl.2.1 d (List.mem_of_getElem? hj)
  · intro j v d hv hd
    have hlt : j < n * k := by rw [← hfl]; exact (List.getElem?_eq_some_iff.1 hd).1
    rw [hget j hlt] at hd
    have hmod : j % k < zv.cells.size := by rw [← hk]; exact Nat.mod_lt _ h0
    simp [hlt, ← hk] at hv
    have : zv.cells[j % k]! = zv.cells[j % k]'hmod := by simp [hmod]
    rw [this] at hv
    exact hrl.2.2 (j % k) v d (by subst hv; simp) hd

theorem step_makeSlice {u : Bool} {t e : TypeId} {l c : Operand} {l' c' : Opd} {i : TypeInfo} {z : List D} (ho : oper.op = .makeSlice t l c) (ht : P.underlying t = some (.slice e)) (hi : P.info? e = some i) (hz : zeroCellsD P e = some z)
    (hsz : i.size = z.length) (h0 : 0 < i.size) (hl' : opdOf l = some l') (hc' : opdOf c = some c') (hs : SR N T g w st a) (hfr : Fresh T tb)
    (hob : (sem tb (.makeSlice u i.size i.bytes z l' c') st).ob) :
    ∃ v w' g', (execOp a.eval oper).run P w = .ok (.value v) w' ∧ Qt T g w g' w' st.live (liveAfter st.live (sem tb (.makeSlice u i.size i.bytes z l' c') st)) ∧
      RS g' w' (liveAfter st.live (sem tb (.makeSlice u i.size i.bytes z l' c') st)) v (sem tb (.makeSlice u i.size i.bytes z l' c') st).v := by
  simp only [sem] at hob ⊢
  obtain ⟨i', zv, hi', hzv, hzm⟩ := zeroCellsD_spec hz
  rw [hi] at hi'; cases hi'
  have hzs : i.size = zv.cells.size := by have := (mapM_some hzm).1; rw [hsz]; simpa using this.symm
  cases h1 : l'.get st.fr with
  | d p =>
    cases p with
    | int k1 n =>
      cases h2 : c'.get st.fr with
      | d q =>
        cases q with
        | int k2 m =>
          simp only [h1, h2] at hob ⊢
          obtain ⟨o1, o2, o3, o4, o5, o6⟩ := hob
          have r1 := opd_rs hs hl' o1
          have r2 := opd_rs hs hc' o2
          rw [h1] at r1; rw [h2] at r2
          have e1 := rv_int (rs_d r1)
          have e2 := rv_int (rs_d r2)
          have w1 : IntKind.i64.wrap n = n := by rw [IntKind.wrap_i64]; omega
          have w2 : IntKind.i64.wrap m = m := by rw [IntKind.wrap_i64]; omega
          have hmul : ((m.toNat * i.bytes : Nat) : Int) = m * i.bytes := by rw [Int.natCast_mul]; congr 1; omega
          generalize hcells : (Array.range (m.toNat * i.size)).map (zv.cells[· % zv.cells.size]!) = cells
          have hcell0 : m.toNat * i.size = 0 → cells = #[] := by intro h; rw [← hcells, h]; simp [Array.range_zero']
          have hrun : (execOp a.eval oper).run P w = .ok (.value (.slice (some ⟨w.heap.size, 0, none⟩) n.toNat m.toNat)) (w.alloc (.cells cells e)) := by
            have t1 : ¬ (281474976710656 < (i.bytes : Int) * m) := by rw [Int.mul_comm]; omega
            have t2 : ¬ (m < 0) := by omega
            have t3 : ¬ (n < 0) := by omega
            have t4 : ¬ (n > m) := by omega
            have t5 : ¬ (m < n) := by omega
            by_cases hz0 : m.toNat * i.size = 0
            · have hm0 : m.toNat = 0 := by rcases Nat.mul_eq_zero.1 hz0 with h | h; exact h; omega
              simp [execOp, ho, Instr.makeSlice, run_underlying ht, e1, e2, asInt, asIntOf, typeInfo, hi, w1, w2, t1, t2, t3, t5, run_sizeOf_info hi, hm0, newRow, hcell0 hz0, Array.range_zero']
            · simp [execOp, ho, Instr.makeSlice, run_underlying ht, e1, e2, asInt, asIntOf, typeInfo, hi, w1, w2, t1, t2, t3, t5, run_sizeOf_info hi, newRow, zeroValue, hzv, hcells]
              exact fun h => (hz0 h).elim
          have hnew : (w.alloc (.cells cells e)).heap[w.heap.size]? = some (.cells cells e (0, 0)) := heap_alloc_new w _
          have hcs : cells.size = m.toNat * i.size := by rw [← hcells]; simp
          have hrl := zeroRow_rl (g := g) (w := w) hzm n.toNat i.size hzs h0
          have hes : ∀ r ∈ List.replicate n.toNat z, r.length = i.size := by intro r hr; rw [List.eq_of_mem_replicate hr, hsz]
          have hfl : (List.replicate n.toNat z).flatten.length = n.toNat * i.size := by rw [flat_length hes]; simp
          have hget : ∀ (j : Nat) (v : Value), ((Array.range (n.toNat * i.size)).map (zv.cells[· % zv.cells.size]!)).toList[j]? = some v → cells[j]? = some v := fun j v hj => by
            have hlt : j < n.toNat * i.size := by have := (List.getElem?_eq_some_iff.1 hj).1; simpa using this
            have hlt2 : j < m.toNat * i.size := by
              have : n.toNat * i.size ≤ m.toNat * i.size := Nat.mul_le_mul_right _ (by omega)
              omega
            rw [← hcells]
            simp [hlt] at hj
            simp [hlt2, hj]
          have hl : ∀ (vv : ASlot) (oo : Prop), ∀ t, T t → t ∈ liveAfter st.live { v := vv, ob := oo, iss := [tb] } → t ∈ st.live := fun vv oo t h h' => by
            rcases mem_liveAfter.1 h' with ⟨h1, _⟩ | h1
            · exact h1
            · simp at h1; exact (hfr.ne h h1).elim
          cases u with
          | false =>
            have hq := Qt.newRow hs.dom w rfl rfl rfl rfl (.cells cells e) (n.toNat * i.size) (some tb) (hl (ASlot.own tb i.size (List.replicate n.toNat z)) (l'.ok st.fr = true ∧ c'.ok st.fr = true ∧ 0 ≤ n ∧ n ≤ m ∧ m ≤ 9223372036854775807 ∧ m * i.bytes ≤ 281474976710656))
            have hrv := rv_newRow (cap := m.toNat) (rows := List.replicate n.toNat z) hnew (Ghost.at_same _ _ _) (Nat.le_of_eq hfl) hes (by simp; omega) (hrl.quiet hs.dom hq) hget
            rw [List.length_replicate] at hrv
            refine ⟨_, _, _, hrun, hq, hrv, fun _ => .inr ⟨w.heap.size, _, _, e, by rw [List.length_replicate], ?_, hnew, ?_, ?_, Nat.le_of_eq hcs.symm⟩⟩
            · rw [Ghost.at_same, List.length_replicate]
            · rw [List.length_replicate]; omega
            · unfold maxLen; omega
          | true =>
            have hq := Qt.newUni hs.dom w rfl rfl rfl rfl (.cells cells e) tb (hl (ASlot.uni tb i.size (List.replicate n.toNat z)) (l'.ok st.fr = true ∧ c'.ok st.fr = true ∧ 0 ≤ n ∧ n ≤ m ∧ m ≤ 9223372036854775807 ∧ m * i.bytes ≤ 281474976710656))
            have hrl2 := hrl.quiet hs.dom hq
            refine ⟨_, _, _, hrun, hq, ⟨_, _, by rw [List.length_replicate]⟩, fun _ => .inr ⟨w.heap.size, _, _, e, by rw [List.length_replicate], Ghost.at_same _ _ _, hnew, ?_, ?_, Nat.le_of_eq hcs.symm, hes, fun j d hj => ?_⟩⟩
            · rw [List.length_replicate]; omega
            · unfold maxLen; omega
            · have hlt : j < ((Array.range (n.toNat * i.size)).map (zv.cells[· % zv.cells.size]!)).toList.length := by rw [hrl.1]; exact (List.getElem?_eq_some_iff.1 hj).1
              exact ⟨hrl2.2.1 d (List.mem_of_getElem? hj), _, hget j _ (List.getElem?_eq_getElem hlt), hrl2.2.2 j _ d (List.getElem?_eq_getElem hlt) hj⟩
        | _ => simp [h1, h2, Out.bad] at hob
      | _ => simp [h1, h2, Out.bad] at hob
    | _ => simp [h1, Out.bad] at hob
  | _ => simp [h1, Out.bad] at hob

theorem step_s2b {s t e : TypeId} {x : Operand} {y : Opd} (ho : oper.op = .convert s t x) (hsrc : P.underlying s = some .string) (hdst : P.underlying t = some (.slice e)) (he : P.underlying e = some (.int .u8)) (hx : opdOf x = some y) (hs : SR N T g w st a)
    (hob : (sem tb (.s2b y) st).ob) :
    ∃ v w' g', (execOp a.eval oper).run P w = .ok (.value v) w' ∧ Qt T g w g' w' st.live (liveAfter st.live (sem tb (.s2b y) st)) ∧ RS g' w' (liveAfter st.live (sem tb (.s2b y) st)) v (sem tb (.s2b y) st).v := by
  simp only [sem] at hob ⊢
  cases h1 : y.get st.fr with
  | d p =>
    cases p with
    | str l =>
      simp only [h1] at hob ⊢
      have r1 := opd_rs hs hx hob
      rw [h1] at r1
      have hv := rv_str (rs_d r1)
      generalize hc : (Question.appendCap l.length 0 e).cut (w.tape w.drawn (.appendCap l.length 0 e)) = cap
      have hge : l.length ≤ cap := by rw [← hc]; simp [Question.cut]
      generalize hcells : (l.map fun b => Value.int .u8 b.toNat).toArray ++ Array.replicate (cap - l.length) (Value.int .u8 0) = cells
      have hcs : cells.size = cap := by rw [← hcells]; simp; omega
      have hheap : ∀ (h : Array Obj), (h.push (.cells cells e)).modify h.size (fun | .cells c elem (lo, hi) => .cells c elem (if lo == hi then (cap, cap + 1) else (min lo cap, max hi (cap + 1))) | o => o) = h.push (.cells cells e (cap, cap + 1)) := by
        intro h
        apply Array.ext
        · simp
        · intro j h1 h2
          simp only [Array.getElem_modify, Array.getElem_push]
          by_cases hj : j < h.size
          · have : h.size ≠ j := by omega
            simp [hj, this]
          · have : h.size = j := by simp at h2; omega
            subst this
            simp
      have hrun : (execOp a.eval oper).run P w = .ok (.value (.slice (some ⟨w.heap.size, 0, none⟩) l.length cap)) (w.drew.alloc (.cells cells e (cap, cap + 1))) := by
        have hmark : (markStringish ⟨w.heap.size, 0, none⟩).run P (w.drew.alloc (.cells cells e)) = .ok () (w.drew.alloc (.cells cells e (cap, cap + 1))) := by
          have hsh : (w.drew.alloc (.cells cells e)).shape? w.heap.size = some (e, cap) := by
            have : (w.drew.alloc (.cells cells e)).heap[w.heap.size]? = some (.cells cells e (0, 0)) := heap_alloc_new w.drew _
            unfold World.shape?
            rw [this]
            simp [hcs]
          have hfr : (w.drew.alloc (.cells cells e)).freeze ⟨w.heap.size, cap, none⟩ 1 = w.drew.alloc (.cells cells e (cap, cap + 1)) := by
            unfold World.freeze
            rw [if_neg (by omega)]
            have := hheap w.heap
            simp only [World.alloc, World.drew] at this ⊢
            rw [← this]
            rfl
          simp only [markStringish, Sem.run_bind, run_shape, hsh, Result.andThen_ok, run_freeze, hfr]
        have hd : Array.map (fun b : UInt8 => Value.int IntKind.u8 (b.toNat : Int)) (⟨l.toArray⟩ : ByteArray).data = (l.map fun b => Value.int .u8 b.toNat).toArray := by simp
        have hsz : (⟨l.toArray⟩ : ByteArray).size = l.length := size_mk l
        simp only [execOp, ho, hv, convert, Sem.run_bind, run_underlying hsrc, run_underlying hdst, run_underlying he, Result.andThen_ok, Conv.stringToBytes, hsz, hd, newRow]
        rw [run_choose]
        simp [Question.forced, hc, hcells, hmark]
      have hnew : (w.drew.alloc (.cells cells e (cap, cap + 1))).heap[w.heap.size]? = some (.cells cells e (cap, cap + 1)) := heap_alloc_new w.drew _
      have hl : liveAfter st.live { v := ASlot.d (.sl 1 (byteRows l)), ob := y.ok st.fr = true } = st.live := by simp [liveAfter]
      have hq : Qt T g w (g.at w.heap.size (.row l.length none)) (w.drew.alloc (.cells cells e (cap, cap + 1))) st.live
          (liveAfter st.live { v := ASlot.d (.sl 1 (byteRows l)), ob := y.ok st.fr = true }) := by
        rw [hl]
        exact Qt.newRow hs.dom w.drew rfl rfl rfl rfl _ _ _ (fun _ _ h => h)
      have hes : ∀ r ∈ byteRows l, r.length = 1 := by simp [byteRows]
      have hbl : (byteRows l).length = l.length := by simp [byteRows]
      have hfl : (byteRows l).flatten.length = l.length := by rw [flat_byteRows]; simp
      have hrl : RL g w (l.map fun b => Value.int .u8 b.toNat) (byteRows l).flatten := by
        rw [flat_byteRows]
        refine ⟨by simp, fun d hd => by obtain ⟨c, _, rfl⟩ := List.mem_map.1 hd; rfl, fun j u d hu hd => ?_⟩
        simp only [List.getElem?_map, Option.map_eq_some_iff] at hu hd
        obtain ⟨c, hc, rfl⟩ := hu
        obtain ⟨c', hc', rfl⟩ := hd
        rw [hc] at hc'; cases hc'
        exact .int _ _
      have hrv := rv_newRow (cap := cap) (rows := byteRows l) hnew (Ghost.at_same _ _ _) (Nat.le_of_eq hfl) hes (by omega) (hrl.quiet hs.dom hq) (fun j u hj => by
        have hlt : j < (l.map fun b => Value.int .u8 b.toNat).length := (List.getElem?_eq_some_iff.1 hj).1
        rw [← hcells, Array.getElem?_append_left (by simpa using hlt)]
        simpa using hj)
      rw [hbl] at hrv
      exact ⟨_, _, _, hrun, hq, hrv⟩
    | _ => simp [h1, Out.bad] at hob
  | _ => simp [h1, Out.bad] at hob

end
end Go.Abs
