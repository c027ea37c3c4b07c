/- The abstract layer, part 31: copies between rows, in the model; a slice that is ours alone with other contents (for slices.Insert). -/
import Derived.Test.YthcpckcgjplhiaaBd
namespace Go.Abs

section
variable {P : Program} {T : Nat → Prop} {g : Ghost} {w : World} {live live' : List Nat}

/-- A row with cells put over its own. -/
def putAt (cur : Array Value) (off : Nat) (news : List Value) : Array Value := (cur.toList.take off ++ news ++ cur.toList.drop (off + news.length)).toArray

theorem putAt_list (cur : Array Value) (off : Nat) (news : List Value) : (putAt cur off news).toList = cur.toList.take off ++ news ++ cur.toList.drop (off + news.length) := rfl
theorem putAt_size (cur : Array Value) (off : Nat) (news : List Value) (h : off + news.length ≤ cur.size) : (putAt cur off news).size = cur.size := by
  have hq : cur.toList.length = cur.size := Array.length_toList
  simp only [putAt, List.size_toArray, List.length_append, List.length_take, List.length_drop]
  omega

/-- copy(d, s), from row to row. -/
theorem copy_rows {t u ty e : TypeId} {i : TypeInfo} (ht : P.underlying t = some (.slice e)) (hi : P.info? e = some i) (W : World) (d doff dn dc : Nat) (cur : Array Value) (e0 : TypeId) (hd : W.heap[d]? = some (.cells cur e0 (0, 0)))
    (s soff sn sc : Nat) (curs : Array Value) (e1 : TypeId) (hs : W.heap[s]? = some (.cells curs e1 (0, 0))) (k : Nat) (hk : k = Nat.min sn dn) (h1 : doff + k * i.size ≤ cur.size) (h2 : soff + k * i.size ≤ curs.size)
    (hone : ∀ v ∈ (curs.toList.drop soff).take (k * i.size), v.oneCell' = true) :
    (Builtin.copy_ #[t, u] ty #[.slice (some ⟨d, doff, none⟩) dn dc, .slice (some ⟨s, soff, none⟩) sn sc]).run P W = .ok (.int .i64 k) (W.setRow d (putAt cur doff ((curs.toList.drop soff).take (k * i.size)))) := by
  subst hk
  have hq : curs.toList.length = curs.size := Array.length_toList
  have hlen : ((curs.toList.drop soff).take (Nat.min sn dn * i.size)).length = Nat.min sn dn * i.size := by rw [List.length_take, List.length_drop]; omega
  have hf : (Builtin.firstCells i.size (Nat.min sn dn) (.slice (some ⟨s, soff, none⟩) sn sc)).run P W = .ok ((curs.toList.drop soff).take (Nat.min sn dn * i.size)).toArray W := by
    refine run_firstCells_some (P := P) W i.size _ _ _ _ _ hlen (fun j v hj => ?_)
    rw [List.getElem?_take] at hj
    split at hj
    · rw [Addr.add_lit]
      simpa [World.cell?, hs] using hj
    · cases hj
  have hst := run_storeCells_at P d doff e0 ((curs.toList.drop soff).take (Nat.min sn dn * i.size)) 0 cur W hd (by rw [hlen]; omega) hone
  have := run_copy (P := P) (w := W) (u := u) (ty := ty) ht hi (base := some ⟨d, doff, none⟩) (n := dn) (cap := dc) (k := sn) (x := .slice (some ⟨s, soff, none⟩) sn sc) (w1 := W.setRow d (putAt cur doff ((curs.toList.drop soff).take (Nat.min sn dn * i.size))))
    (by simp [Builtin.lenOf]) hf (fun ad had => by cases had; simpa [putAt] using hst) (fun h => by cases h)
  exact this

/-- Our own row with other contents. -/
theorem Qt.setUni (hd : Dom g w) {W : World} (hos : W.os = w.os) (htape : W.tape = w.tape) (hout : W.output = w.output) {b t : Nat} (hg : g b = .uni t) (hsz : W.heap.size = w.heap.size)
    (hh : ∀ k, k ≠ b → W.heap[k]? = w.heap[k]?) : Qt (fun _ => False) g w g W live live' := by
  have hne : ∀ {k : Nat} {r : Role}, g k = r → (∀ u, r ≠ .uni u) → k ≠ b := fun h hr => by rintro rfl; rw [hg] at h; exact hr t h.symm
  refine ⟨⟨hos, htape, hout, by omega, fun k _ hgk => ⟨hh k (hne hgk (by simp)), hgk⟩, fun k m _ hgk => ⟨hh k (hne hgk (by simp)), hgk⟩,
    fun k m u _ hgk => ⟨m, some u, hgk, Nat.le_refl _, fun i v _ hv => by rw [cell_same (hh k (hne hgk (by simp)))]; exact hv⟩, fun k id _ hgk => ⟨hgk, Nat.le_of_eq (bsize_same (hh k (hne hgk (by simp)))).symm⟩⟩,
    ?_, fun k id hgk => hh k (hne hgk (by simp)), fun k id h => h, fun _ _ _ h => h.elim, fun _ h => h.elim, fun _ _ h => h.elim⟩
  intro k hk
  rw [hsz] at hk
  exact hd k hk

/-- A new row of our own. -/
theorem Qt.addUni (hd : Dom g w) {W : World} (hos : W.os = w.os) (htape : W.tape = w.tape) (hout : W.output = w.output) (t : Nat) (hsz : W.heap.size = w.heap.size + 1)
    (hh : ∀ k, k < w.heap.size → W.heap[k]? = w.heap[k]?) : Qt (fun _ => False) g w (g.at w.heap.size (.uni t)) W live live' := by
  have hg : ∀ b, b < w.heap.size → g.at w.heap.size (.uni t) b = g b := fun b hb => Ghost.at_ne g _ (by omega)
  refine ⟨⟨hos, htape, hout, by omega, fun k hk hgk => ⟨hh k hk, by rw [hg k hk]; exact hgk⟩, fun k m hk hgk => ⟨hh k hk, by rw [hg k hk]; exact hgk⟩,
    fun k m u hk hgk => ⟨m, some u, by rw [hg k hk]; exact hgk, Nat.le_refl _, fun i v _ hv => by rw [cell_same (hh k hk)]; exact hv⟩, fun k id hk hgk => ⟨by rw [hg k hk]; exact hgk, Nat.le_of_eq (bsize_same (hh k hk)).symm⟩⟩,
    ?_, fun k id hgk => hh k (hd.lt_obj hgk), fun k id h => ?_, fun _ _ _ h => h.elim, fun _ h => h.elim, fun _ _ h => h.elim⟩
  · intro k hk
    rw [hsz] at hk
    rw [Ghost.at_ne g _ (by omega)]
    exact hd k (by omega)
  · by_cases hk : k = w.heap.size
    · subst hk; rw [Ghost.at_same] at h; cases h
    · rwa [Ghost.at_ne g _ hk] at h

/-- What a slice that is ours alone reads as, told by its row. -/
theorem rc_uni_of {g' : Ghost} {W : World} {b cap tk es : Nat} {c : Array Value} {e : TypeId} {rows : List (List D)} {L : List Value} (hg : g' b = .uni tk) (hh : W.heap[b]? = some (.cells c e (0, 0))) (hn : rows.length ≤ cap) (hm : cap ≤ maxLen)
    (hcs : cap * es ≤ c.size) (hes : ∀ r ∈ rows, r.length = es) (hrl : RL g' W L rows.flatten) (hL : ∀ (j : Nat) (u : Value), L[j]? = some u → c[j]? = some u) :
    RC g' W live (.slice (some ⟨b, 0, none⟩) rows.length cap) (.uni tk es rows) := by
  refine ⟨⟨_, _, rfl⟩, fun _ => .inr ⟨b, cap, c, e, rfl, hg, hh, hn, hm, hcs, hes, fun j d hj => ?_⟩⟩
  have hlt : j < L.length := by rw [hrl.1]; exact (List.getElem?_eq_some_iff.1 hj).1
  exact ⟨hrl.2.1 d (List.mem_of_getElem? hj), L[j], hL j _ (List.getElem?_eq_getElem hlt), hrl.2.2 j _ d (List.getElem?_eq_getElem hlt) hj⟩

/-- A slice that is ours alone, told by its row. -/
theorem uni_row {t es : Nat} {l : List (List D)} {v : Value} (h : UniOk g w t es l v) (hne : l ≠ []) :
    ∃ (b cap : Nat) (cur : Array Value) (e : TypeId), v = .slice (some ⟨b, 0, none⟩) l.length cap ∧ g b = .uni t ∧ w.heap[b]? = some (.cells cur e (0, 0)) ∧ l.length ≤ cap ∧ cap ≤ maxLen ∧ cap * es ≤ cur.size ∧ (∀ r ∈ l, r.length = es) ∧
      RL g w (cur.toList.take (l.length * es)) l.flatten := by
  rcases h with ⟨ad, rfl, rfl⟩ | ⟨b, cap, cur, e, rfl, h2, h3, h4, h5, h6, h7, h8⟩
  · exact (hne rfl).elim
  · have hfl : l.flatten.length = l.length * es := flat_length h7
    have hrow : l.length * es ≤ cap * es := Nat.mul_le_mul_right _ h4
    have hlen : (cur.toList.take (l.length * es)).length = l.length * es := by have hq : cur.toList.length = cur.size := Array.length_toList; rw [List.length_take]; omega
    refine ⟨b, cap, cur, e, rfl, h2, h3, h4, h5, h6, h7, ⟨by rw [hlen, hfl], fun d hd => ?_, fun j v d hv hd => ?_⟩⟩
    · obtain ⟨j, hj⟩ := List.getElem?_of_mem hd
      exact (h8 j d hj).1
    · obtain ⟨_, u, c2, c3⟩ := h8 j d hd
      rw [List.getElem?_take] at hv
      split at hv
      · simp only [Array.getElem?_toList] at hv
        rw [c2] at hv; cases hv
        exact c3
      · cases hv

theorem RL.ones {vs : List Value} {ds : List D} (h : RL g w vs ds) : ∀ v ∈ vs, v.oneCell' = true := by
  intro v hv
  obtain ⟨j, hj⟩ := List.getElem?_of_mem hv
  have hlt : j < ds.length := by rw [← h.1]; exact (List.getElem?_eq_some_iff.1 hj).1
  exact (h.2.2 j v _ hj (List.getElem?_eq_getElem hlt)).oneCell (h.2.1 _ (List.getElem_mem hlt))

end
end Go.Abs
