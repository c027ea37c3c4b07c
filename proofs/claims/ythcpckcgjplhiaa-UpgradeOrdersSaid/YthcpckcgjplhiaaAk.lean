/- The abstract layer, part 11: append. -/
import Derived.Test.YthcpckcgjplhiaaAj
namespace Go.Abs

section
variable {P : Program} {N tb : Nat} {T : Nat → Prop} {g : Ghost} {w : World} {st : St} {a : Act} {oper : Oper} {live live' : List Nat}

theorem rv_sl_es {v : Value} {e es : Nat} {l : List (List D)} (h : RV g w v (.sl e l)) (he : e = es ∨ l = []) : RV g w v (.sl es l) := by
  rcases he with rfl | rfl
  · exact h
  · rcases rv_sl h with ⟨⟨ad, cp, rfl, hn0⟩, _⟩ | ⟨b, off, cap, n, o, f, rfl, hg, hn, hcap, hes, hcl, hcell, hrv⟩
    · exact .nilsl ad cp es hn0
    · exact .sl b off cap es n o [] f hg hn hcap (by simp) hcl hcell hrv

theorem rows_es {v : Value} {es : Nat} {l : List (List D)} (h : RV g w v (.sl es l)) : ∀ r ∈ l, r.length = es := by
  rcases rv_sl h with ⟨_, rfl⟩ | ⟨b, off, cap, n, o, f, _, _, _, _, hes, _⟩
  · simp
  · exact hes

/-- The cells of a slice, as the model's 'firstCells' gives them, and how they read. -/
theorem olds_of {v : Value} {es : Nat} {l : List (List D)} (h : RV g w v (.sl es l)) :
    ∃ olds : List Value, RL g w olds l.flatten ∧ (Builtin.firstCells es l.length v).run P w.drew = .ok olds.toArray w.drew := by
  obtain ⟨vs, hrl, cap, hcase⟩ := rl_of_sl h
  rcases hcase with ⟨⟨ad, rfl, _⟩, rfl⟩ | ⟨b, off, rfl, hes, hcell⟩
  · have : vs = [] := by have := hrl.1; simpa using this
    subst this
    cases ad with
    | none => exact ⟨[], hrl, by simp [Builtin.firstCells]⟩
    | some a0 => exact ⟨[], hrl, run_firstCells_some (P := P) w.drew es 0 a0 _ _ [] (by simp) (by simp)⟩
  · exact ⟨vs, hrl, run_firstCells_some (P := P) w.drew es l.length _ _ _ vs (by rw [hrl.1, flat_length hes]) (by simpa using hcell)⟩

theorem RL.quiet {g' : Ghost} {w' : World} {vs : List Value} {ds : List D} (h : RL g w vs ds) (hd : Dom g w) (hq : Qt T g w g' w' live live') : RL g' w' vs ds :=
  ⟨h.1, h.2.1, fun j v d hv hd' => hq.rv hd (h.2.2 j v d hv hd')⟩

/-- A row of a new block, read as a slice. -/
theorem rv_newRow {g' : Ghost} {w' : World} {b cap : Nat} {c : Array Value} {e : TypeId} {fz : Nat × Nat} {t : Option Nat} {es : Nat} {rows : List (List D)} {vs : List Value} {n : Nat} (hh : w'.heap[b]? = some (.cells c e fz))
    (hg : g' b = .row n t) (hn : rows.flatten.length ≤ n) (hes : ∀ r ∈ rows, r.length = es) (hcap : rows.length ≤ cap) (hrl : RL g' w' vs rows.flatten) (hc : ∀ (j : Nat) (u : Value), vs[j]? = some u → c[j]? = some u) :
    RV g' w' (.slice (some ⟨b, 0, none⟩) rows.length cap) (.sl es rows) := by
  refine .sl b 0 cap es n t rows (fun j => vs.getD j undef) hg (by omega) hcap hes hrl.2.1 (fun j d hj => ?_) (fun j d hj => ?_)
  · have hlt : j < vs.length := by rw [hrl.1]; exact (List.getElem?_eq_some_iff.1 hj).1
    have := hc j vs[j] (List.getElem?_eq_getElem hlt)
    simp [World.cell?, hh, this, List.getD, hlt]
  · have hlt : j < vs.length := by rw [hrl.1]; exact (List.getElem?_eq_some_iff.1 hj).1
    have : vs.getD j undef = vs[j] := by simp [List.getD, hlt]
    simp only [this]
    exact hrl.2.2 j _ d (List.getElem?_eq_getElem hlt) hj

theorem size_zeros (z : Array Value) (n : Nat) : (Builtin.zeroCells z n).size = n * z.size := size_zeroCells z n

theorem append_more {t u ty e : TypeId} {i : TypeInfo} {z : Value} (hd : Dom g w) (ht : P.underlying t = some (.slice e)) (hi : P.info? e = some i) (hz : i.zero = some z) (hzs : z.cells.size = i.size)
    (hu : (∃ f, P.underlying u = some (.slice f)) ∨ P.underlying u = some .string) (hb0 : i.bytes ≠ 0)
    {base : Option Addr} {sCap : Nat} {x : Value} {l r : List (List D)} {news : List Value} (hs : RV g w (.slice base l.length sCap) (.sl i.size l))
    (hl : (Builtin.lenOf x).run P w = .ok r.length w) (hx : (Builtin.firstCells i.size r.length x).run P w.drew = .ok news.toArray w.drew) (hrl : RL g w news r.flatten) (hes : ∀ row ∈ r, row.length = i.size)
    (hn : sCap < l.length + r.length) (h63 : l.length + r.length ≤ 9223372036854775807) (hby : (l.length + r.length) * i.bytes ≤ 140737488355328) (tk : Nat)
    (hlive : ∀ t, T t → t ∈ live' → t ∈ live) :
    ∃ v w' g', (Builtin.append_ #[t, u] ty #[.slice base l.length sCap, x]).run P w = .ok v w' ∧ Qt T g w g' w' live live' ∧ RC g' w' live' v (.own tk i.size (l ++ r)) := by
  obtain ⟨olds, ho1, ho2⟩ := olds_of (P := P) hs
  have hfit : Builtin.nextslicecap (l.length + r.length) sCap * i.bytes ≤ 281474976710656 := growslice_fits (by omega) hby
  have hrun := run_append_more (P := P) (w := w) (ty := ty) ht hi hz hu hb0 base l.length sCap hl hx ho2 hn hfit
  have hq : Qt T g w (g.at w.heap.size (.row ((l.length + r.length) * i.size) (some tk))) (w.drew.alloc (.cells (olds.toArray ++ news.toArray ++ Builtin.zeroCells z.cells (grownCap w (l.length + r.length) sCap e - (l.length + r.length))) e)) live live' :=
    Qt.newRow hd w.drew rfl rfl rfl rfl _ _ (some tk) hlive
  have hge := grownCap_ge w (l.length + r.length) sCap e
  have hle := grownCap_le_maxLen w (l.length + r.length) sCap e (by unfold maxLen; omega)
  have hesl := rows_es hs
  have hesa : ∀ row ∈ l ++ r, row.length = i.size := fun row hr => by rcases List.mem_append.1 hr with h | h; exact hesl row h; exact hes row h
  have hfl : (l ++ r).flatten.length = (l.length + r.length) * i.size := by rw [flat_length hesa, List.length_append]
  have hnew : (w.drew.alloc (.cells (olds.toArray ++ news.toArray ++ Builtin.zeroCells z.cells (grownCap w (l.length + r.length) sCap e - (l.length + r.length))) e)).heap[w.heap.size]? = some (.cells (olds.toArray ++ news.toArray ++ Builtin.zeroCells z.cells (grownCap w (l.length + r.length) sCap e - (l.length + r.length))) e (0, 0)) := heap_alloc_new w.drew _
  have hrl2 : RL g w (olds ++ news) (l ++ r).flatten := by rw [List.flatten_append]; exact ho1.append hrl
  have hrv := rv_newRow (cap := grownCap w (l.length + r.length) sCap e) (rows := l ++ r) hnew (Ghost.at_same _ _ _) (Nat.le_of_eq hfl) hesa (by rw [List.length_append]; exact hge) (hrl2.quiet hd hq) (fun j u hj => by
    have hlt : j < (olds ++ news).length := (List.getElem?_eq_some_iff.1 hj).1
    rw [Array.getElem?_append_left (by simp at hlt ⊢; exact hlt)]
    have : (olds.toArray ++ news.toArray)[j]? = (olds ++ news)[j]? := by simp
    rw [this]
    exact hj)
  rw [List.length_append] at hrv
  refine ⟨_, _, _, hrun, hq, hrv, fun _ => .inr ⟨w.heap.size, _, _, e, by rw [List.length_append], ?_, hnew, ?_, hle, ?_⟩⟩
  · rw [Ghost.at_same, List.length_append]
  · rw [List.length_append]; exact hge
  · have h1 : olds.length = l.length * i.size := by rw [ho1.1, flat_length hesl]
    have h2 : news.length = r.length * i.size := by rw [hrl.1, flat_length hes]
    simp only [Array.size_append, List.size_toArray, size_zeros, hzs, h1, h2, ← Nat.add_mul]
    refine Nat.mul_le_mul_right _ ?_
    omega

theorem append_fits {t u ty e : TypeId} {i : TypeInfo} (hd : Dom g w) (ht : P.underlying t = some (.slice e)) (hi : P.info? e = some i)
    (hu : (∃ f, P.underlying u = some (.slice f)) ∨ P.underlying u = some .string)
    {b cap tk0 : Nat} {cur : Array Value} {te : TypeId} {x : Value} {l r : List (List D)} {news : List Value} (hs : RV g w (.slice (some ⟨b, 0, none⟩) l.length cap) (.sl i.size l))
    (hg : g b = .row (l.length * i.size) (some tk0)) (hh : w.heap[b]? = some (.cells cur te (0, 0))) (hcm : cap ≤ maxLen) (hcs : cap * i.size ≤ cur.size)
    (hx : Source P i.size x r.length w news) (hrl : RL g w news r.flatten) (hes : ∀ row ∈ r, row.length = i.size)
    (hn : l.length + r.length ≤ cap) (tk : Nat) (hlive : ∀ t, T t → t ∈ live' → t ∈ live ∧ t ≠ tk0) :
    ∃ v w' g', (Builtin.append_ #[t, u] ty #[.slice (some ⟨b, 0, none⟩) l.length cap, x]).run P w = .ok v w' ∧ Qt T g w g' w' live live' ∧ RC g' w' live' v (.own tk i.size (l ++ r)) := by
  have hrun := run_append_fits (P := P) (w := w) (ty := ty) ht hi hu ⟨b, 0, none⟩ l.length cap hx hn
  have hesl := rows_es hs
  have hesa : ∀ row ∈ l ++ r, row.length = i.size := fun row hr => by rcases List.mem_append.1 hr with h | h; exact hesl row h; exact hes row h
  have h1 : l.flatten.length = l.length * i.size := flat_length hesl
  have h2 : news.length = r.length * i.size := by rw [hrl.1, flat_length hes]
  have hfl : (l ++ r).flatten.length = (l.length + r.length) * i.size := by rw [flat_length hesa, List.length_append]
  have hone : ∀ v ∈ news, v.oneCell' = true := by
    intro v hv
    obtain ⟨j, hj⟩ := List.getElem?_of_mem hv
    have hlt : j < r.flatten.length := by rw [← hrl.1]; exact (List.getElem?_eq_some_iff.1 hj).1
    exact (hrl.2.2 j v _ hj (List.getElem?_eq_getElem hlt)).oneCell (hrl.2.1 _ (List.getElem_mem hlt))
  have hsz : (l.length + r.length) * i.size ≤ cap * i.size := Nat.mul_le_mul_right _ hn
  rw [Nat.add_mul] at hsz
  have hst := run_storeCells_at P b (l.length * i.size) te news 0 cur w hh (by omega) hone
  rw [Addr.add_lit, Nat.zero_add] at hrun
  rw [hst] at hrun
  simp only [Nat.add_zero, Result.andThen_ok] at hrun
  generalize hcur' : (cur.toList.take (l.length * i.size) ++ news ++ cur.toList.drop (l.length * i.size + news.length)).toArray = cur' at hrun
  have hb : b < w.heap.size := hd.lt_row hg
  have hheap : (w.setRow b cur').heap[b]? = some (.cells cur' te (0, 0)) := setRow_heap w b cur cur' te (0, 0) hh
  have hother : ∀ k, k ≠ b → (w.setRow b cur').heap[k]? = w.heap[k]? := fun k hk => setRow_other w b k cur' hk
  have hsize : (w.setRow b cur').heap.size = w.heap.size := by simp [World.setRow]
  have hlen' : cap * i.size ≤ cur'.size := by
    rw [← hcur']
    simp only [List.size_toArray, List.length_append, List.length_take, List.length_drop, Array.length_toList]
    omega
  have hkeep : ∀ j, j < l.length * i.size → cur'[j]? = cur[j]? := by
    intro j hj
    rw [← hcur']
    have hle : l.length * i.size ≤ cur.toList.length := by have hq : cur.toList.length = cur.size := Array.length_toList; omega
    simp only [List.getElem?_toArray, List.append_assoc]
    rw [List.getElem?_append_left (by rw [List.length_take]; omega), List.getElem?_take_of_lt hj]
    simp
  have hput : ∀ (j : Nat) (v : Value), news[j]? = some v → cur'[l.length * i.size + j]? = some v := by
    intro j v hj
    have hlt : j < news.length := (List.getElem?_eq_some_iff.1 hj).1
    have hle : (cur.toList.take (l.length * i.size)).length = l.length * i.size := by have hq : cur.toList.length = cur.size := Array.length_toList; rw [List.length_take]; omega
    rw [← hcur']
    simp only [List.getElem?_toArray, List.append_assoc]
    rw [List.getElem?_append_right (by omega), hle, Nat.add_sub_cancel_left, List.getElem?_append_left hlt]
    exact hj
  have hq : Qt T g w (g.at b (.row ((l.length + r.length) * i.size) (some tk))) (w.setRow b cur') live live' := by
    have hgo : ∀ k, k ≠ b → g.at b (.row ((l.length + r.length) * i.size) (some tk)) k = g k := fun k hk => Ghost.at_ne g _ hk
    refine ⟨⟨rfl, rfl, rfl, by omega, fun k hk hgk => ?_, fun k m hk hgk => ?_, fun k m t' hk hgk => ?_, fun k id hk hgk => ?_⟩, fun k hk => ?_, fun k id hgk => ?_, fun k id hgk => ?_, fun k m t' htb htl hgk => ?_, fun t' h h' => (hlive t' h h').1, fun k t' htb htl hgk => ?_⟩
    · have : k ≠ b := by rintro rfl; rw [hg] at hgk; cases hgk
      exact ⟨hother k this, by rw [hgo k this]; exact hgk⟩
    · have : k ≠ b := by rintro rfl; rw [hg] at hgk; cases hgk
      exact ⟨hother k this, by rw [hgo k this]; exact hgk⟩
    · by_cases hkb : k = b
      · subst hkb
        rw [hg] at hgk
        cases hgk
        refine ⟨_, _, Ghost.at_same _ _ _, Nat.mul_le_mul_right _ (by omega), fun j v hj hv => ?_⟩
        simp only [World.cell?, hh, hheap, Option.isSome_none, Bool.false_eq_true, if_false] at hv ⊢
        rw [hkeep j hj]
        exact hv
      · exact ⟨m, some t', by rw [hgo k hkb]; exact hgk, Nat.le_refl _, fun j v _ hv => by rw [cell_same (hother k hkb)]; exact hv⟩
    · have : k ≠ b := by rintro rfl; rw [hg] at hgk; cases hgk
      exact ⟨by rw [hgo k this]; exact hgk, Nat.le_of_eq (bsize_same (hother k this)).symm⟩
    · have : k ≠ b := by omega
      rw [hgo k this]; exact hd k (by omega)
    · have : k ≠ b := by rintro rfl; rw [hg] at hgk; cases hgk
      exact hother k this
    · have : k ≠ b := by rintro rfl; rw [Ghost.at_same] at hgk; cases hgk
      rw [hgo k this] at hgk; exact hgk
    · have : k ≠ b := by rintro rfl; rw [hg] at hgk; cases hgk; exact (hlive _ htb htl).2 rfl
      exact ⟨by rw [hgo k this]; exact hgk, hother k this⟩
    · have : k ≠ b := by rintro rfl; rw [hg] at hgk; cases hgk
      exact ⟨by rw [hgo k this]; exact hgk, hother k this⟩
  obtain ⟨vs, hvs, c0, hcase⟩ := rl_of_sl hs
  have hvs' : ∀ (j : Nat) (u : Value), vs[j]? = some u → cur[j]? = some u := by
    rcases hcase with ⟨_, hnil⟩ | ⟨b', off', h, _, hcell⟩
    · intro j u hj
      have hv0 : vs = [] := by have := hvs.1; rw [hnil] at this; simpa using this
      rw [hv0] at hj
      simp at hj
    · cases h
      intro j u hj
      have := hcell j u hj
      rw [Addr.add_lit, Nat.zero_add] at this
      simpa [World.cell?, hh] using this
  have hrl2 : RL g w (vs ++ news) (l ++ r).flatten := by rw [List.flatten_append]; exact hvs.append hrl
  have hvl : vs.length = l.length * i.size := by rw [hvs.1, h1]
  have hrv := rv_newRow (cap := cap) (rows := l ++ r) hheap (Ghost.at_same _ _ _) (Nat.le_of_eq hfl) hesa (by rw [List.length_append]; exact hn) (hrl2.quiet hd hq) (fun j u hj => by
    by_cases hjl : j < vs.length
    · rw [List.getElem?_append_left hjl] at hj
      rw [hkeep j (by omega)]
      exact hvs' j u hj
    · rw [List.getElem?_append_right (by omega)] at hj
      have := hput (j - vs.length) u hj
      rwa [show l.length * i.size + (j - vs.length) = j by omega] at this)
  rw [List.length_append] at hrv
  refine ⟨_, _, _, hrun, hq, hrv, fun _ => .inr ⟨b, cap, cur', te, by rw [List.length_append], ?_, hheap, ?_, hcm, hlen'⟩⟩
  · rw [Ghost.at_same, List.length_append]
  · rw [List.length_append]; exact hn

/-- The elements of a slice that is ours alone. -/
theorem olds_uni {t es : Nat} {l : List (List D)} {v : Value} (h : UniOk g w t es l v) :
    ∃ base cap olds, v = .slice base l.length cap ∧ l.length ≤ cap ∧ (∀ r ∈ l, r.length = es) ∧ RL g w olds l.flatten ∧ (Builtin.firstCells es l.length v).run P w.drew = .ok olds.toArray w.drew := by
  rcases h with ⟨ad, rfl, rfl⟩ | ⟨b, cap, cur, e, rfl, h2, h3, h4, h5, h6, h7, h8⟩
  · refine ⟨ad, 0, [], rfl, Nat.le_refl _, by simp, ⟨by simp, by simp, by simp⟩, ?_⟩
    cases ad with
    | none => simp [Builtin.firstCells]
    | some a0 => exact run_firstCells_some (P := P) w.drew es 0 a0 _ _ [] (by simp) (by simp)
  · have hfl : l.flatten.length = l.length * es := flat_length h7
    have hrow : l.length * es ≤ cap * es := Nat.mul_le_mul_right _ h4
    have hlen : (cur.toList.take (l.length * es)).length = l.length * es := by have hq : cur.toList.length = cur.size := Array.length_toList; rw [List.length_take]; omega
    refine ⟨_, cap, cur.toList.take (l.length * es), rfl, h4, h7, ⟨by rw [hlen, hfl], fun d hd => ?_, fun j v d hv hd => ?_⟩, ?_⟩
    · obtain ⟨j, hj⟩ := List.getElem?_of_mem hd
      exact (h8 j d hj).1
    · obtain ⟨_, u, c2, c3⟩ := h8 j d hd
      rw [List.getElem?_take] at hv
      split at hv
      · simp only [Array.getElem?_toList] at hv
        rw [c2] at hv; cases hv
        exact c3
      · cases hv
    · refine run_firstCells_some (P := P) w.drew es l.length _ _ _ _ hlen (fun j u hj => ?_)
      rw [List.getElem?_take] at hj
      split at hj
      · rw [Addr.add_lit, Nat.zero_add]
        have h3' : w.drew.heap[b]? = some (.cells cur e (0, 0)) := h3
        simpa [World.cell?, h3'] using hj
      · cases hj

theorem append_moreU {t u ty e : TypeId} {i : TypeInfo} {z : Value} (hd : Dom g w) (ht : P.underlying t = some (.slice e)) (hi : P.info? e = some i) (hz : i.zero = some z) (hzs : z.cells.size = i.size)
    (hu : (∃ f, P.underlying u = some (.slice f)) ∨ P.underlying u = some .string) (hb0 : i.bytes ≠ 0)
    {base : Option Addr} {sCap : Nat} {x : Value} {l r : List (List D)} {olds news : List Value} (hesl : ∀ row ∈ l, row.length = i.size) (ho1 : RL g w olds l.flatten)
    (ho2 : (Builtin.firstCells i.size l.length (.slice base l.length sCap)).run P w.drew = .ok olds.toArray w.drew)
    (hl : (Builtin.lenOf x).run P w = .ok r.length w) (hx : (Builtin.firstCells i.size r.length x).run P w.drew = .ok news.toArray w.drew) (hrl : RL g w news r.flatten) (hes : ∀ row ∈ r, row.length = i.size)
    (hn : sCap < l.length + r.length) (h63 : l.length + r.length ≤ 9223372036854775807) (hby : (l.length + r.length) * i.bytes ≤ 140737488355328) (tk : Nat)
    (hlive : ∀ t, T t → t ∈ live' → t ∈ live) :
    ∃ v w' g', (Builtin.append_ #[t, u] ty #[.slice base l.length sCap, x]).run P w = .ok v w' ∧ Qt T g w g' w' live live' ∧ RC g' w' live' v (.uni tk i.size (l ++ r)) := by
  have hfit : Builtin.nextslicecap (l.length + r.length) sCap * i.bytes ≤ 281474976710656 := growslice_fits (by omega) hby
  have hrun := run_append_more (P := P) (w := w) (ty := ty) ht hi hz hu hb0 base l.length sCap hl hx ho2 hn hfit
  have hq : Qt T g w (g.at w.heap.size (.uni tk)) (w.drew.alloc (.cells (olds.toArray ++ news.toArray ++ Builtin.zeroCells z.cells (grownCap w (l.length + r.length) sCap e - (l.length + r.length))) e)) live live' :=
    Qt.newUni hd w.drew rfl rfl rfl rfl _ tk hlive
  have hge := grownCap_ge w (l.length + r.length) sCap e
  have hle := grownCap_le_maxLen w (l.length + r.length) sCap e (by unfold maxLen; omega)
  have hesa : ∀ row ∈ l ++ r, row.length = i.size := fun row hr => by rcases List.mem_append.1 hr with h | h; exact hesl row h; exact hes row h
  have hnew : (w.drew.alloc (.cells (olds.toArray ++ news.toArray ++ Builtin.zeroCells z.cells (grownCap w (l.length + r.length) sCap e - (l.length + r.length))) e)).heap[w.heap.size]? = some (.cells (olds.toArray ++ news.toArray ++ Builtin.zeroCells z.cells (grownCap w (l.length + r.length) sCap e - (l.length + r.length))) e (0, 0)) := heap_alloc_new w.drew _
  have hrl2 : RL g w (olds ++ news) (l ++ r).flatten := by rw [List.flatten_append]; exact ho1.append hrl
  have hrl3 := hrl2.quiet hd hq
  refine ⟨_, _, _, hrun, hq, ⟨_, _, by rw [List.length_append]⟩, fun _ => .inr ⟨w.heap.size, _, _, e, by rw [List.length_append], Ghost.at_same _ _ _, hnew, ?_, hle, ?_, hesa, fun j d hj => ?_⟩⟩
  · rw [List.length_append]; exact hge
  · have h1 : olds.length = l.length * i.size := by rw [ho1.1, flat_length hesl]
    have h2 : news.length = r.length * i.size := by rw [hrl.1, flat_length hes]
    simp only [Array.size_append, List.size_toArray, size_zeros, hzs, h1, h2, ← Nat.add_mul]
    refine Nat.mul_le_mul_right _ ?_
    omega
  · have hlt : j < (olds ++ news).length := by rw [hrl2.1]; exact (List.getElem?_eq_some_iff.1 hj).1
    refine ⟨hrl3.2.1 d (List.mem_of_getElem? hj), (olds ++ news)[j], ?_, hrl3.2.2 j _ d (List.getElem?_eq_getElem hlt) hj⟩
    rw [Array.getElem?_append_left (by simp at hlt ⊢; exact hlt)]
    have : (olds.toArray ++ news.toArray)[j]? = (olds ++ news)[j]? := by simp
    rw [this, List.getElem?_eq_getElem hlt]

theorem append_fitsU {t u ty e : TypeId} {i : TypeInfo} (hd : Dom g w) (ht : P.underlying t = some (.slice e)) (hi : P.info? e = some i)
    (hu : (∃ f, P.underlying u = some (.slice f)) ∨ P.underlying u = some .string)
    {b cap tk0 : Nat} {cur : Array Value} {te : TypeId} {x : Value} {l r : List (List D)} {news : List Value} (hesl : ∀ row ∈ l, row.length = i.size)
    (hcell : ∀ (j : Nat) (d : D), l.flatten[j]? = some d → d.isCell = true ∧ ∃ u, cur[j]? = some u ∧ RV g w u d)
    (hg : g b = .uni tk0) (hh : w.heap[b]? = some (.cells cur te (0, 0))) (hcm : cap ≤ maxLen) (hcs : cap * i.size ≤ cur.size)
    (hx : Source P i.size x r.length w news) (hrl : RL g w news r.flatten) (hes : ∀ row ∈ r, row.length = i.size)
    (hn : l.length + r.length ≤ cap) (tk : Nat) (hlive : ∀ t, T t → t ∈ live' → t ∈ live ∧ t ≠ tk0) :
    ∃ v w' g', (Builtin.append_ #[t, u] ty #[.slice (some ⟨b, 0, none⟩) l.length cap, x]).run P w = .ok v w' ∧ Qt T g w g' w' live live' ∧ RC g' w' live' v (.uni tk i.size (l ++ r)) := by
  have hrun := run_append_fits (P := P) (w := w) (ty := ty) ht hi hu ⟨b, 0, none⟩ l.length cap hx hn
  have hesa : ∀ row ∈ l ++ r, row.length = i.size := fun row hr => by rcases List.mem_append.1 hr with h | h; exact hesl row h; exact hes row h
  have h1 : l.flatten.length = l.length * i.size := flat_length hesl
  have h2 : news.length = r.length * i.size := by rw [hrl.1, flat_length hes]
  have hone : ∀ v ∈ news, v.oneCell' = true := by
    intro v hv
    obtain ⟨j, hj⟩ := List.getElem?_of_mem hv
    have hlt : j < r.flatten.length := by rw [← hrl.1]; exact (List.getElem?_eq_some_iff.1 hj).1
    exact (hrl.2.2 j v _ hj (List.getElem?_eq_getElem hlt)).oneCell (hrl.2.1 _ (List.getElem_mem hlt))
  have hsz : (l.length + r.length) * i.size ≤ cap * i.size := Nat.mul_le_mul_right _ hn
  rw [Nat.add_mul] at hsz
  have hst := run_storeCells_at P b (l.length * i.size) te news 0 cur w hh (by omega) hone
  rw [Addr.add_lit, Nat.zero_add] at hrun
  rw [hst] at hrun
  simp only [Nat.add_zero, Result.andThen_ok] at hrun
  generalize hcur' : (cur.toList.take (l.length * i.size) ++ news ++ cur.toList.drop (l.length * i.size + news.length)).toArray = cur' at hrun
  have hb : b < w.heap.size := hd.lt_uni hg
  have hheap : (w.setRow b cur').heap[b]? = some (.cells cur' te (0, 0)) := setRow_heap w b cur cur' te (0, 0) hh
  have hother : ∀ k, k ≠ b → (w.setRow b cur').heap[k]? = w.heap[k]? := fun k hk => setRow_other w b k cur' hk
  have hsize : (w.setRow b cur').heap.size = w.heap.size := by simp [World.setRow]
  have hlen' : cap * i.size ≤ cur'.size := by
    rw [← hcur']
    simp only [List.size_toArray, List.length_append, List.length_take, List.length_drop, Array.length_toList]
    omega
  have hkeep : ∀ j, j < l.length * i.size → cur'[j]? = cur[j]? := by
    intro j hj
    rw [← hcur']
    have hle : l.length * i.size ≤ cur.toList.length := by have hq : cur.toList.length = cur.size := Array.length_toList; omega
    simp only [List.getElem?_toArray, List.append_assoc]
    rw [List.getElem?_append_left (by rw [List.length_take]; omega), List.getElem?_take_of_lt hj]
    simp
  have hput : ∀ (j : Nat) (v : Value), news[j]? = some v → cur'[l.length * i.size + j]? = some v := by
    intro j v hj
    have hlt : j < news.length := (List.getElem?_eq_some_iff.1 hj).1
    have hle : (cur.toList.take (l.length * i.size)).length = l.length * i.size := by have hq : cur.toList.length = cur.size := Array.length_toList; rw [List.length_take]; omega
    rw [← hcur']
    simp only [List.getElem?_toArray, List.append_assoc]
    rw [List.getElem?_append_right (by omega), hle, Nat.add_sub_cancel_left, List.getElem?_append_left hlt]
    exact hj
  have hq : Qt T g w (g.at b (.uni tk)) (w.setRow b cur') live live' := by
    have hgo : ∀ k, k ≠ b → g.at b (.uni tk) k = g k := fun k hk => Ghost.at_ne g _ hk
    refine ⟨⟨rfl, rfl, rfl, by omega, fun k hk hgk => ?_, fun k m hk hgk => ?_, fun k m t' hk hgk => ?_, fun k id hk hgk => ?_⟩, fun k hk => ?_, fun k id hgk => ?_, fun k id hgk => ?_, fun k m t' htb htl hgk => ?_, fun t' h h' => (hlive t' h h').1, fun k t' htb htl hgk => ?_⟩
    · have : k ≠ b := by rintro rfl; rw [hg] at hgk; cases hgk
      exact ⟨hother k this, by rw [hgo k this]; exact hgk⟩
    · have : k ≠ b := by rintro rfl; rw [hg] at hgk; cases hgk
      exact ⟨hother k this, by rw [hgo k this]; exact hgk⟩
    · have hkb : k ≠ b := by rintro rfl; rw [hg] at hgk; cases hgk
      exact ⟨m, some t', by rw [hgo k hkb]; exact hgk, Nat.le_refl _, fun j v _ hv => by rw [cell_same (hother k hkb)]; exact hv⟩
    · have : k ≠ b := by rintro rfl; rw [hg] at hgk; cases hgk
      exact ⟨by rw [hgo k this]; exact hgk, Nat.le_of_eq (bsize_same (hother k this)).symm⟩
    · have : k ≠ b := by omega
      rw [hgo k this]; exact hd k (by omega)
    · have : k ≠ b := by rintro rfl; rw [hg] at hgk; cases hgk
      exact hother k this
    · have : k ≠ b := by rintro rfl; rw [Ghost.at_same] at hgk; cases hgk
      rw [hgo k this] at hgk; exact hgk
    · have : k ≠ b := by rintro rfl; rw [hg] at hgk; cases hgk
      exact ⟨by rw [hgo k this]; exact hgk, hother k this⟩
    · have : k ≠ b := by rintro rfl; rw [hg] at hgk; cases hgk; exact (hlive _ htb htl).2 rfl
      exact ⟨by rw [hgo k this]; exact hgk, hother k this⟩
  refine ⟨_, _, _, hrun, hq, ⟨_, _, by rw [List.length_append]⟩, fun _ => .inr ⟨b, cap, cur', te, by rw [List.length_append], Ghost.at_same _ _ _, hheap, by rw [List.length_append]; exact hn, hcm, hlen', hesa, fun j d hj => ?_⟩⟩
  rw [List.flatten_append] at hj
  by_cases hjl : j < l.flatten.length
  · rw [List.getElem?_append_left hjl] at hj
    obtain ⟨c1, u, c2, c3⟩ := hcell j d hj
    exact ⟨c1, u, by rw [hkeep j (by omega)]; exact c2, hq.rv hd c3⟩
  · rw [List.getElem?_append_right (by omega)] at hj
    have hlt : j - l.flatten.length < news.length := by rw [hrl.1]; exact (List.getElem?_eq_some_iff.1 hj).1
    have := hput (j - l.flatten.length) _ (List.getElem?_eq_getElem hlt)
    rw [show l.length * i.size + (j - l.flatten.length) = j by omega] at this
    exact ⟨hrl.2.1 d (List.mem_of_getElem? hj), _, this, hq.rv hd (hrl.2.2 _ _ d (List.getElem?_eq_getElem hlt) hj)⟩

/-- The tokens behind an operation. -/
def liveAfter (live : List Nat) (o : Out) : List Nat := (live.filter fun t => !o.cons.contains t) ++ o.iss

theorem mem_liveAfter {live : List Nat} {o : Out} {t : Nat} : t ∈ liveAfter live o ↔ (t ∈ live ∧ t ∉ o.cons) ∨ t ∈ o.iss := by
  simp [liveAfter]

theorem step_append_own {t u e : TypeId} {s x : Operand} {s' x' : Opd} {i : TypeInfo} {z : List D} (ho : oper.op = .call { callee := .builtin .append, args := #[s, x], argTypes := #[t, u] })
    (ht : P.underlying t = some (.slice e)) (hi : P.info? e = some i) (hz : zeroCellsD P e = some z) (hsz : i.size = z.length) (hb : 0 < i.bytes)
    (hu : (∃ f, P.underlying u = some (.slice f)) ∨ P.underlying u = some .string) (hs' : opdOf s = some s') (hx' : opdOf x = some x') (hs : SR N T g w st a) (hfr : Fresh T tb)
    (hob : (sem tb (.append false i.size i.bytes s' x') st).ob) (hlv : ∀ t ∈ (sem tb (.append false i.size i.bytes s' x') st).cons, t ∈ st.live) :
    ∃ v w' g', (execOp a.eval oper).run P w = .ok (.value v) w' ∧ Qt T g w g' w' st.live (liveAfter st.live (sem tb (.append false i.size i.bytes s' x') st)) ∧
      RS g' w' (liveAfter st.live (sem tb (.append false i.size i.bytes s' x') st)) v (sem tb (.append false i.size i.bytes s' x') st).v := by
  simp only [sem] at hob hlv ⊢
  obtain ⟨o1, o2, hob⟩ := hob
  have rs := opd_rs hs hs' o1
  have rx := opd_rs hs hx' o2
  obtain ⟨i', zv, hi', hzv, hzm⟩ := zeroCellsD_spec hz
  rw [hi] at hi'; cases hi'
  have hzs : zv.cells.size = i.size := by have := (mapM_some hzm).1; rw [hsz]; simpa using this
  unfold appendOut at hob hlv ⊢
  cases hsrc : srcOf i.size st.os (x'.get st.fr) with
  | none => simp [hsrc, Out.bad] at hob
  | some rr =>
    obtain ⟨r, rdd, rok⟩ := rr
    cases hrow : (s'.get st.fr).rows with
    | none => simp [hsrc, hrow, Out.bad] at hob
    | some p =>
      obtain ⟨e0, l⟩ := p
      simp only [hsrc, hrow] at hob hlv ⊢
      obtain ⟨hrok, he, hkind, hby, h63⟩ := hob
      obtain ⟨hes, news, hrl, hsource, hfirst, _⟩ := source_of (P := P) hs rx hsrc hrok
      have hrvs := rv_sl_es (rs_rows rs hrow) he
      obtain ⟨base, cap, hv⟩ := rv_sl_len hrvs
      have hcap : l.length ≤ cap := by
        rcases rv_sl hrvs with ⟨h, rfl⟩ | ⟨b, off, c, n, o, f, h, _, _, hc, _⟩
        · simp
        · rw [hv] at h; cases h; exact hc
      rw [hv] at hrvs rs
      have exec : ∀ v w', (Builtin.append_ #[t, u] oper.type #[.slice base l.length cap, a.eval x]).run P w = .ok v w' → (execOp a.eval oper).run P w = .ok (.value v) w' := by
        intro v w' h
        simp [execOp, ho, resolve, invoke, builtin, hv, h]
      -- the two ways on which a new row is made, or nothing
      have more : ∀ (live' : List Nat), (∀ t, T t → t ∈ live' → t ∈ st.live) → cap < l.length + r.length →
          ∃ v w' g', (execOp a.eval oper).run P w = .ok (.value v) w' ∧ Qt T g w g' w' st.live live' ∧ RS g' w' live' v (.own tb i.size (l ++ r)) := by
        intro live' hl hn
        obtain ⟨v, w', g', h1, h2, h3⟩ := append_more (P := P) (ty := oper.type) hs.dom ht hi hzv hzs hu (by omega) hrvs hsource.1 hfirst hrl hes hn h63 hby tb hl
        exact ⟨v, w', g', exec v w' h1, h2, h3⟩
      have nothing : ∀ (live' : List Nat), (∀ t, T t → t ∈ live' → t ∈ st.live) → cap = l.length → ¬ cap < l.length + r.length →
          ∃ v w' g', (execOp a.eval oper).run P w = .ok (.value v) w' ∧ Qt T g w g' w' st.live live' ∧ RS g' w' live' v (.own tb i.size (l ++ r)) := by
        intro live' hl hce hn
        have hr0 : r = [] := List.eq_nil_of_length_eq_zero (by omega)
        subst hr0
        have hnews : news = [] := by have := hrl.1; simpa using this
        subst hnews
        refine ⟨.slice base l.length cap, w, g, exec _ _ ?_, ⟨G.refl g w, hs.dom, fun _ _ _ => rfl, fun _ _ h => h, fun _ _ _ _ _ h => ⟨h, rfl⟩, hl, fun _ _ _ _ h => ⟨h, rfl⟩⟩, ?_⟩
        · cases base with
          | none =>
            have := run_append_nofits (P := P) (ty := oper.type) ht hi hu l.length cap hsource (by simpa using hcap)
            simpa using this
          | some ad =>
            have := run_append_fits (P := P) (ty := oper.type) ht hi hu ad l.length cap hsource (by simpa using hcap)
            simpa [storeCells] using this
        · rw [List.append_nil]
          exact ⟨hrvs, fun _ => .inl ⟨base, by rw [hce]⟩⟩
      cases hk : s'.get st.fr with
      | own t0 e1 l1 =>
        rw [hk] at hrow hkind rs hlv
        have hlv0 : t0 ∈ st.live := hlv t0 (by simp [tokOf])
        simp only [ASlot.rows, Option.some.injEq, Prod.mk.injEq] at hrow
        obtain ⟨rfl, rfl⟩ := hrow
        simp only [tokOf]
        have hl : ∀ (vv : ASlot) (oo : Prop), ∀ t, T t → t ∈ liveAfter st.live { v := vv, ob := oo, rd := rdd, cons := [t0], iss := [tb] } → t ∈ st.live ∧ t ≠ t0 := by
          intro vv oo t htb htl
          rcases mem_liveAfter.1 htl with ⟨h1, h2⟩ | h
          · exact ⟨h1, by simpa using h2⟩
          · simp at h; exact (hfr.ne htb h).elim
        rcases rs.2 hlv0 with ⟨ad, hfull⟩ | ⟨b, c, cur, te, hval, hg, hh, hle, hcm, hcs⟩
        · cases hfull
          by_cases hn : l1.length < l1.length + r.length
          · exact more _ (fun t h h' => (hl _ _ t h h').1) hn
          · exact nothing _ (fun t h h' => (hl _ _ t h h').1) rfl hn
        · cases hval
          by_cases hn : cap < l1.length + r.length
          · exact more _ (fun t h h' => (hl _ _ t h h').1) hn
          · have hes1 := hkind
            subst hes1
            obtain ⟨v, w', g', q1, q2, q3⟩ := append_fits (P := P) (ty := oper.type) hs.dom ht hi hu hrvs hg hh hcm hcs hsource hrl hes (by show _ + r.length ≤ _; omega) tb (hl _ _)
            exact ⟨v, w', g', exec v w' q1, q2, q3⟩
      | full e1 l1 =>
        rw [hk] at hrow hkind rs
        simp only [ASlot.rows, Option.some.injEq, Prod.mk.injEq] at hrow
        obtain ⟨rfl, rfl⟩ := hrow
        simp only [tokOf]
        obtain ⟨ad, hfull⟩ := rs.2
        cases hfull
        have hl : ∀ (vv : ASlot) (oo : Prop), ∀ t, T t → t ∈ liveAfter st.live { v := vv, ob := oo, rd := rdd, cons := [], iss := [tb] } → t ∈ st.live := by
          intro vv oo t htb htl
          rcases mem_liveAfter.1 htl with ⟨h1, h2⟩ | h
          · exact h1
          · simp at h; exact (hfr.ne htb h).elim
        by_cases hn : l1.length < l1.length + r.length
        · exact more _ (hl _ _) hn
        · exact nothing _ (hl _ _) rfl hn
      | d x =>
        rw [hk] at hrow hkind rs
        cases x <;> first | exact hkind.elim | skip
        simp only [ASlot.rows, Option.some.injEq, Prod.mk.injEq] at hrow
        obtain ⟨rfl, rfl⟩ := hrow
        simp only [tokOf]
        have hl : ∀ (vv : ASlot) (oo : Prop), ∀ t, T t → t ∈ liveAfter st.live { v := vv, ob := oo, rd := rdd, cons := [], iss := [tb] } → t ∈ st.live := by
          intro vv oo t htb htl
          rcases mem_liveAfter.1 htl with ⟨h1, h2⟩ | h
          · exact h1
          · simp at h; exact (hfr.ne htb h).elim
        have hcap0 : cap = 0 := by
          have rs' : RV g w (.slice base 0 cap) .nilsl := rs
          generalize hx0 : Value.slice base 0 cap = u0 at rs'
          generalize hy0 : D.nilsl = y0 at rs'
          cases rs' <;> first | (cases hx0; rfl) | (cases hy0; done)
        by_cases hn : cap < ([] : List (List D)).length + r.length
        · exact more _ (hl _ _) hn
        · exact nothing _ (hl _ _) (by simpa using hcap0) hn
      | _ => rw [hk] at hkind; simp at hkind

theorem step_append_uni {t u e : TypeId} {s x : Operand} {s' x' : Opd} {i : TypeInfo} {z : List D} (ho : oper.op = .call { callee := .builtin .append, args := #[s, x], argTypes := #[t, u] })
    (ht : P.underlying t = some (.slice e)) (hi : P.info? e = some i) (hz : zeroCellsD P e = some z) (hsz : i.size = z.length) (hb : 0 < i.bytes)
    (hu : (∃ f, P.underlying u = some (.slice f)) ∨ P.underlying u = some .string) (hs' : opdOf s = some s') (hx' : opdOf x = some x') (hs : SR N T g w st a) (hfr : Fresh T tb)
    (hob : (sem tb (.append true i.size i.bytes s' x') st).ob) (hlv : ∀ t ∈ (sem tb (.append true i.size i.bytes s' x') st).cons, t ∈ st.live) :
    ∃ v w' g', (execOp a.eval oper).run P w = .ok (.value v) w' ∧ Qt T g w g' w' st.live (liveAfter st.live (sem tb (.append true i.size i.bytes s' x') st)) ∧
      RS g' w' (liveAfter st.live (sem tb (.append true i.size i.bytes s' x') st)) v (sem tb (.append true i.size i.bytes s' x') st).v := by
  simp only [sem] at hob hlv ⊢
  obtain ⟨o1, o2, hob⟩ := hob
  have rs := opd_rs hs hs' o1
  have rx := opd_rs hs hx' o2
  obtain ⟨i', zv, hi', hzv, hzm⟩ := zeroCellsD_spec hz
  rw [hi] at hi'; cases hi'
  have hzs : zv.cells.size = i.size := by have := (mapM_some hzm).1; rw [hsz]; simpa using this
  unfold appendOut at hob hlv ⊢
  cases hsrc : srcOf i.size st.os (x'.get st.fr) with
  | none => simp [hsrc, Out.bad] at hob
  | some rr =>
    obtain ⟨r, rdd, rok⟩ := rr
    simp only [hsrc] at hob hlv ⊢
    have exec : ∀ (base : Option Addr) (n cap : Nat) v w', a.eval s = .slice base n cap → (Builtin.append_ #[t, u] oper.type #[.slice base n cap, a.eval x]).run P w = .ok v w' → (execOp a.eval oper).run P w = .ok (.value v) w' := by
      intro base n cap v w' hv h
      simp [execOp, ho, resolve, invoke, builtin, hv, h]
    -- from an empty slice
    have fresh : ∀ (ad : Option Addr) (live' : List Nat), a.eval s = .slice ad 0 0 → rok → r.length * i.bytes ≤ 140737488355328 → r.length ≤ 9223372036854775807 → (∀ t, T t → t ∈ live' → t ∈ st.live) →
        ∃ v w' g', (execOp a.eval oper).run P w = .ok (.value v) w' ∧ Qt T g w g' w' st.live live' ∧ RS g' w' live' v (.uni tb i.size r) := by
      intro ad live' hv hrok hby h63 hl
      obtain ⟨hes, news, hrl, hsource, hfirst, _⟩ := source_of (P := P) hs rx hsrc hrok
      have hfc : (Builtin.firstCells i.size 0 (.slice ad 0 0)).run P w.drew = .ok #[] w.drew := by
        cases ad with
        | none => simp [Builtin.firstCells]
        | some a0 => exact run_firstCells_some (P := P) w.drew i.size 0 a0 _ _ [] (by simp) (by simp)
      by_cases hn : 0 < r.length
      · obtain ⟨v, w', g', h1, h2, h3⟩ := append_moreU (P := P) (ty := oper.type) (l := []) (olds := []) hs.dom ht hi hzv hzs hu (by omega) (by simp) ⟨by simp, by simp, by simp⟩ hfc hsource.1 hfirst hrl hes (by simpa using hn) (by simpa using h63) (by simpa using hby) tb hl
        exact ⟨v, w', g', exec _ _ _ v w' hv h1, h2, h3⟩
      · have hr0 : r = [] := List.eq_nil_of_length_eq_zero (by omega)
        subst hr0
        refine ⟨.slice ad 0 0, w, g, exec _ _ _ _ _ hv ?_, ⟨G.refl g w, hs.dom, fun _ _ _ => rfl, fun _ _ h => h, fun _ _ _ _ _ h => ⟨h, rfl⟩, hl, fun _ _ _ _ h => ⟨h, rfl⟩⟩, ⟨ad, 0, rfl⟩, fun _ => .inl ⟨ad, rfl, rfl⟩⟩
        have hnews : news = [] := by have := hrl.1; simpa using this
        subst hnews
        cases ad with
        | none =>
          have := run_append_nofits (P := P) (ty := oper.type) ht hi hu 0 0 hsource (by simp)
          simpa using this
        | some ad =>
          have := run_append_fits (P := P) (ty := oper.type) ht hi hu ad 0 0 hsource (by simp)
          simpa [storeCells] using this
    cases hk : s'.get st.fr with
    | uni t0 e1 l =>
      rw [hk] at rs
      simp only [hk, appendU] at hob hlv ⊢
      obtain ⟨hrok, rfl, hby, h63⟩ := hob
      have hlv0 : t0 ∈ st.live := hlv t0 (by simp)
      have hl : ∀ (vv : ASlot) (oo : Prop), ∀ t, T t → t ∈ liveAfter st.live { v := vv, ob := oo, rd := rdd, cons := [t0], iss := [tb] } → t ∈ st.live ∧ t ≠ t0 := by
        intro vv oo t htb htl
        rcases mem_liveAfter.1 htl with ⟨h1, h2⟩ | h
        · exact ⟨h1, by simpa using h2⟩
        · simp at h; exact (hfr.ne htb h).elim
      obtain ⟨hes, news, hrl, hsource, hfirst, _⟩ := source_of (P := P) hs rx hsrc hrok
      have hu0 := rs.2 hlv0
      obtain ⟨base, cap, olds, hv, hcap, hesl, ho1, ho2⟩ := olds_uni (P := P) hu0
      rw [hv] at ho2
      by_cases hn : cap < l.length + r.length
      · obtain ⟨v, w', g', h1, h2, h3⟩ := append_moreU (P := P) (ty := oper.type) hs.dom ht hi hzv hzs hu (by omega) hesl ho1 ho2 hsource.1 hfirst hrl hes hn h63 hby tb (fun t h h' => (hl _ _ t h h').1)
        exact ⟨v, w', g', exec _ _ _ v w' hv h1, h2, h3⟩
      · rcases hu0 with ⟨ad, hv2, rfl⟩ | ⟨b, c, cur, te, hval, hg, hh, hle, hcm, hcs, hes1, hcell⟩
        · rw [hv] at hv2
          cases hv2
          have hr0 : r = [] := List.eq_nil_of_length_eq_zero (by simp at hn; simpa using hn)
          subst hr0
          exact fresh base _ hv hrok (by simp) (by simp) (fun t h h' => (hl _ _ t h h').1)
        · rw [hval] at hv
          cases hv
          obtain ⟨v, w', g', q1, q2, q3⟩ := append_fitsU (P := P) (ty := oper.type) hs.dom ht hi hu hesl hcell hg hh hcm hcs hsource hrl hes (by show _ + r.length ≤ _; omega) tb (hl _ _)
          exact ⟨v, w', g', exec _ _ _ v w' hval q1, q2, q3⟩
    | full e1 l =>
      rw [hk] at rs
      simp only [hk, appendU] at hob hlv ⊢
      obtain ⟨hrok, rfl, hby, h63⟩ := hob
      obtain ⟨ad, hfull⟩ := rs.2
      exact fresh ad _ hfull hrok hby h63 (fun t htb htl => by
        rcases mem_liveAfter.1 htl with ⟨h1, h2⟩ | h
        · exact h1
        · simp at h; exact (hfr.ne htb h).elim)
    | d y =>
      rw [hk] at rs
      cases y with
      | nilsl =>
        simp only [hk, appendU] at hob hlv ⊢
        obtain ⟨hrok, hby, h63⟩ := hob
        have hv : a.eval s = .slice none 0 0 := by
          have rs' : RV g w (a.eval s) .nilsl := rs
          generalize a.eval s = u0 at rs'
          cases rs'
          rfl
        exact fresh none _ hv hrok hby h63 (fun t htb htl => by
          rcases mem_liveAfter.1 htl with ⟨h1, h2⟩ | h
          · exact h1
          · simp at h; exact (hfr.ne htb h).elim)
      | _ => simp [hk, appendU, Out.bad] at hob
    | _ => simp [hk, appendU, Out.bad] at hob

end
end Go.Abs
