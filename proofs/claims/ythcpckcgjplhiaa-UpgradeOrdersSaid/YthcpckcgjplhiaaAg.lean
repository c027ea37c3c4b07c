/- The abstract layer, part 7: slicing, literals. -/
import Derived.Test.YthcpckcgjplhiaaAf
namespace Go.Abs

section
variable {P : Program} {N tb : Nat} {T : Nat → Prop} {g : Ghost} {w : World} {st : St} {a : Act} {oper : Oper}

/-- A cut of a slice reads as the cut of its rows. -/
theorem rv_cut {v : Value} {es : Nat} {rows : List (List D)} (h : RV g w v (.sl es rows)) (l h' size : Nat) (hl : l ≤ h') (hh : h' ≤ rows.length) (hsz : size = es ∨ rows = []) :
    ∃ ad cap, v = .slice ad rows.length cap ∧ rows.length ≤ cap ∧
      ∀ m, h' ≤ m → m ≤ cap → RV g w (sliced ad l h' m size) (.sl es ((rows.drop l).take (h' - l))) ∧ ((rows.drop l).take (h' - l)).length = h' - l := by
  have hlen : ((rows.drop l).take (h' - l)).length = h' - l := by simp; omega
  rcases rv_sl h with ⟨⟨ad, cp, rfl, hn0⟩, rfl⟩ | ⟨b, off, cap, n, o, f, rfl, hg, hn, hcap, hes, hcl, hcell, hrv⟩
  · refine ⟨ad, cp, rfl, by simp, fun m hm hm0 => ⟨?_, hlen⟩⟩
    have h0 : h' = 0 := by simp at hh; omega
    have l0 : l = 0 := by omega
    subst h0 l0
    have key : ∀ x, (x = none → m = 0) → RV g w (.slice x 0 m) (.sl es []) := fun x hx => .nilsl x m es hx
    have hnm : ad = none → m = 0 := fun h => by have := hn0 h; omega
    simp only [List.drop_nil, List.take_nil]
    unfold sliced
    split
    · exact key _ hnm
    · exact key _ (fun h => hnm (by simpa using h))
  · refine ⟨_, cap, rfl, hcap, fun m hm hmc => ⟨?_, hlen⟩⟩
    have hfl : ((rows.drop l).take (h' - l)).flatten = (rows.flatten.drop (l * es)).take ((h' - l) * es) := by
      rw [flat_take (es := es) (fun r hr => hes r (List.mem_of_mem_drop hr)), flat_drop hes]
    have hflen : ((rows.drop l).take (h' - l)).flatten.length = (h' - l) * es := by
      rw [flat_length (es := es) (fun r hr => hes r (List.mem_of_mem_drop (List.mem_of_mem_take hr))), hlen]
    have hmem : ∀ (j : Nat) (d : D), ((rows.drop l).take (h' - l)).flatten[j]? = some d → rows.flatten[l * es + j]? = some d := by
      intro j d hj
      rw [hfl, List.getElem?_take] at hj
      split at hj
      · simpa using hj
      · cases hj
    have htot := flat_length hes
    have hbound : l * es + (h' - l) * es ≤ rows.length * es := by rw [← Nat.add_mul]; exact Nat.mul_le_mul_right _ (by omega)
    have base : ∀ off', off' = off + l * es ∨ h' = l → (off' = off ∨ off' = off + l * es) → RV g w (.slice (some ⟨b, off', none⟩) (h' - l) (m - l)) (.sl es ((rows.drop l).take (h' - l))) := by
      intro off' ho ho'
      have hle : ((rows.drop l).take (h' - l)).length = h' - l := hlen
      have key : RV g w (.slice (some ⟨b, off', none⟩) ((rows.drop l).take (h' - l)).length (m - l)) (.sl es ((rows.drop l).take (h' - l))) := by
        by_cases he : h' = l
        · have hnil : (rows.drop l).take (h' - l) = [] := by simp [he]
          refine .sl b off' (m - l) es n o _ f hg ?_ (by rw [hle]; omega) (by simp [hnil]) (by simp [hnil]) (by simp [hnil]) (by simp [hnil])
          rw [hnil]
          simp only [List.flatten_nil, List.length_nil, Nat.add_zero]
          rcases ho' with rfl | rfl
          · omega
          · omega
        · have hoff : off' = off + l * es := by rcases ho with h | h; exact h; exact (he h).elim
          subst hoff
          refine .sl b _ (m - l) es n o _ (fun j => f (l * es + j)) hg (by rw [hflen]; omega) (by rw [hle]; omega)
            (fun r hr => hes r (List.mem_of_mem_drop (List.mem_of_mem_take hr)))
            (fun d hd => by obtain ⟨j, hj⟩ := List.getElem?_of_mem hd; exact hcl d (List.mem_of_getElem? (hmem j d hj)))
            (fun j d hj => by rw [Nat.add_assoc]; exact hcell _ d (hmem j d hj)) (fun j d hj => hrv _ d (hmem j d hj))
      rw [hle] at key
      exact key
    unfold sliced
    have hsz' : h' ≠ l → size = es := by
      intro hne
      rcases hsz with h | h
      · exact h
      · subst h; simp at hh; omega
    by_cases hml : m = l
    · rw [if_pos hml]
      exact base off (.inr (by omega)) (.inl rfl)
    · rw [if_neg hml, Option.map_some, Addr.add_lit]
      by_cases he : h' = l
      · by_cases hs : size = es
        · rw [hs]; exact base _ (.inl rfl) (.inr rfl)
        · -- no element: any address of the row would do; the rows are none
          have hr0 : rows = [] := by rcases hsz with h | h; exact (hs h).elim; exact h
          subst hr0
          have l0 : l = 0 := by simp at hh; omega
          subst l0
          simp only [Nat.zero_mul, Nat.add_zero]
          exact base off (.inr he) (.inl rfl)
      · rw [hsz' he]
        exact base _ (.inl rfl) (.inr rfl)

theorem optInt_eq {live : List Nat} {s : Option ASlot} {x : Option Value} {n : Int} (hm : ∀ y, s = some y → ∃ v, x = some v ∧ RS g w live v y) (h : optInt s = some n) : ∃ k, x = some (.int k n) := by
  cases s with
  | none => simp [optInt] at h
  | some y =>
    cases y with
    | d q =>
      cases q with
      | int k m =>
        simp [optInt] at h; subst h
        obtain ⟨v, rfl, hr⟩ := hm _ rfl
        exact ⟨k, by rw [rv_int (rs_d hr)]⟩
      | _ => simp [optInt] at h
    | _ => simp [optInt] at h

theorem optOpd_rs (hs : SR N T g w st a) {x : Option Operand} {y : Option Opd} (h : x.mapM opdOf = some y) (hok : ∀ z ∈ y, z.ok st.fr = true) :
    (y = none → x = none) ∧ ∀ s, y.map (·.get st.fr) = some s → ∃ v, x.map a.eval = some v ∧ RS g w st.live v s := by
  cases x with
  | none => simp at h; subst h; simp
  | some o =>
    cases hz : opdOf o with
    | none => simp [hz] at h
    | some z =>
    simp [hz] at h; subst h
    refine ⟨by simp, fun s hs' => ?_⟩
    simp at hs'; subst hs'
    exact ⟨_, rfl, opd_rs hs hz (hok z (by simp))⟩

theorem bounds_ok (isS : Bool) {lo hi mx : Option Operand} {lo' hi' mx' : Option Opd} (hlo : lo.mapM opdOf = some lo') (hhi : hi.mapM opdOf = some hi') (hmx : mx.mapM opdOf = some mx') (hs : SR N T g w st a)
    (o2 : ∀ z ∈ lo', z.ok st.fr = true) (o3 : ∀ z ∈ hi', z.ok st.fr = true) (o4 : ∀ z ∈ mx', z.ok st.fr = true) {n cap : Nat} (hcap : n ≤ cap) {h b : Int} (hH : hiB n (hi'.map (·.get st.fr)) = h) (hB : loB (lo'.map (·.get st.fr)) = b)
    (k2 : 0 ≤ b) (k3 : b ≤ h) (k4 : h ≤ n) (hm : mx' = none ∨ (optInt (mx'.map (·.get st.fr)) = some h ∧ hi'.isSome = true)) :
    (Instr.sliceBounds isS n cap (lo.map a.eval) (hi.map a.eval) (mx.map a.eval)).run P w = .ok (b.toNat, h.toNat, if mx = none then cap else h.toNat) w := by
  obtain ⟨n2, r2⟩ := optOpd_rs hs hlo o2
  obtain ⟨n3, r3⟩ := optOpd_rs hs hhi o3
  obtain ⟨n4, r4⟩ := optOpd_rs hs hmx o4
  have hi2 : (hi = none ∧ h = n) ∨ ∃ k, hi.map a.eval = some (.int k h) := by
    cases hq : hi' with
    | none => rw [hq] at hH; simp [hiB] at hH; exact .inl ⟨n3 hq, hH.symm⟩
    | some z =>
      rw [hq] at hH
      simp only [Option.map_some, hiB] at hH
      cases hv : optInt (some (z.get st.fr)) with
      | none => rw [hv] at hH; simp at hH; omega
      | some n =>
        rw [hv] at hH; simp at hH; subst hH
        exact .inr (optInt_eq (x := hi.map a.eval) (fun y hy => r3 y (by rw [hq]; exact hy)) hv)
  have lo2 : (lo = none ∧ b = 0) ∨ ∃ k, lo.map a.eval = some (.int k b) := by
    cases hq : lo' with
    | none => rw [hq] at hB; simp [loB] at hB; exact .inl ⟨n2 hq, hB.symm⟩
    | some z =>
      rw [hq] at hB
      simp only [Option.map_some, loB] at hB
      cases hv : optInt (some (z.get st.fr)) with
      | none => rw [hv] at hB; simp at hB; omega
      | some n =>
        rw [hv] at hB; simp at hB; subst hB
        exact .inr (optInt_eq (x := lo.map a.eval) (fun y hy => r2 y (by rw [hq]; exact hy)) hv)
  have hk3 : (b.toNat : Int) = b := by omega
  have hk4 : (h.toNat : Int) = h := by omega
  rcases hm with hm | ⟨hz, hh'⟩
  · have hmn : mx = none := n4 hm
    subst hmn
    rcases hi2 with ⟨rfl, hh⟩ | ⟨kh, hh⟩ <;> rcases lo2 with ⟨rfl, hl⟩ | ⟨kl, hl⟩
    · simp [Instr.sliceBounds, hl, hh]
    · simp [Instr.sliceBounds, hl, run_sliceBound (P := P) w kl b n .sliceB k2 (by omega), hh]
    · cases isS <;> simp [Instr.sliceBounds, hh, hl, run_sliceBound (P := P) w kh h cap _ (by omega) (by omega)]
    · cases isS <;> simp [Instr.sliceBounds, hh, hl, run_sliceBound (P := P) w kh h cap _ (by omega) (by omega), run_sliceBound (P := P) w kl b h.toNat .sliceB k2 (by omega)]
  · obtain ⟨km, hmv⟩ := optInt_eq (x := mx.map a.eval) r4 hz
    have hmne : mx ≠ none := by rintro rfl; simp at hmv
    rcases hi2 with ⟨rfl, hh⟩ | ⟨kh, hh⟩
    · simp at hhi; subst hhi; simp at hh'
    · rcases lo2 with ⟨rfl, hl⟩ | ⟨kl, hl⟩
      · cases isS <;> simp [Instr.sliceBounds, hh, hl, hmv, hmne, run_sliceBound (P := P) w km h cap _ (by omega) (by omega), run_sliceBound (P := P) w kh h h.toNat .slice3B (by omega) (by omega)]
      · cases isS <;> simp [Instr.sliceBounds, hh, hl, hmv, hmne, run_sliceBound (P := P) w km h cap _ (by omega) (by omega), run_sliceBound (P := P) w kh h h.toNat .slice3B (by omega) (by omega), run_sliceBound (P := P) w kl b h.toNat .slice3C k2 (by omega)]

theorem gives_slice {t e : TypeId} {x : Operand} {lo hi mx : Option Operand} {x' : Opd} {lo' hi' mx' : Option Opd} {ti : TypeInfo} (ho : oper.op = .slice t x lo hi mx) (ht : P.underlying t = some (.slice e)) (hti : P.info? e = some ti)
    (hx : opdOf x = some x') (hlo : lo.mapM opdOf = some lo') (hhi : hi.mapM opdOf = some hi') (hmx : mx.mapM opdOf = some mx') (hs : SR N T g w st a)
    (hob : (sem tb (.slice ti.size x' lo' hi' mx') st).ob) : Gives P g w st a oper (sem tb (.slice ti.size x' lo' hi' mx') st).v := by
  simp only [sem] at hob ⊢
  obtain ⟨o1, o2, o3, o4, hob⟩ := hob
  have r1 := opd_rs hs hx o1
  have n4 := (optOpd_rs hs hmx o4).1
  have hP : P.elem t = e := by simp [Program.elem, ht]
  have ht' : P.underlying t = some (.slice (P.elem t)) := by rw [hP]; exact ht
  have hsz : (sizeOf (P.elem t)).run P w = .ok ti.size w := by rw [hP]; exact run_sizeOf_info hti w
  have run : ∀ (ad : Option Addr) (n cap : Nat) (l h m : Nat), a.eval x = .slice ad n cap → (Instr.sliceBounds true n cap (lo.map a.eval) (hi.map a.eval) (mx.map a.eval)).run P w = .ok (l, h, m) w →
      (execOp a.eval oper).run P w = .ok (.value (sliced ad l h m ti.size)) w := by
    intro ad n cap l h m hv hbo
    simp only [execOp, ho, hv]
    rw [Sem.run_bind, run_sliceAt_slice w t _ _ _ _ ht', run_slice_any w t ad n cap ht', hbo]
    simp [hsz]
  unfold sliceOut at hob ⊢
  cases h1 : (x'.get st.fr).rows with
  | none =>
    simp only [h1] at hob ⊢
    cases h2 : x'.get st.fr with
    | d p =>
      cases p with
      | ref id off es n =>
        simp only [h2] at hob ⊢
        obtain ⟨rfl, k2, k3, k4, hm⟩ := hob
        rw [h2] at r1
        have hrv := rs_d r1
        have hm' : mx' = none ∨ (optInt (mx'.map (·.get st.fr)) = some (hiB n (hi'.map (·.get st.fr))) ∧ hi'.isSome = true) := by
          cases hq : mx' with
          | none => exact .inl rfl
          | some z => rw [hq] at hm; simp only [Option.map_some] at hm; exact .inr ⟨hm.1, by simpa using hm.2⟩
        generalize hh : hiB n (hi'.map (·.get st.fr)) = h at *
        generalize hb : loB (lo'.map (·.get st.fr)) = b at *
        generalize hvv : a.eval x = v at hrv
        cases hrv with
        | ref bk _ _ _ _ cap hg hcap hmx2 hsz2 =>
          have hbo := bounds_ok (P := P) true hlo hhi hmx hs o2 o3 o4 hcap hh hb k2 k3 k4 hm'
          refine ⟨_, run _ _ _ _ _ _ hvv hbo, ?_⟩
          have hmle : h.toNat ≤ (if mx = none then cap else h.toNat) ∧ (if mx = none then cap else h.toNat) ≤ cap := by split <;> omega
          generalize (if mx = none then cap else h.toNat) = m at hmle
          unfold sliced
          by_cases hml : m = b.toNat
          · rw [if_pos hml]
            have e1 : h.toNat - b.toNat = 0 := by omega
            have e2 : m - b.toNat = 0 := by omega
            rw [e1, e2]
            exact .refnil _ _ _ _
          · rw [if_neg hml, Option.map_some, Addr.add_lit]
            refine .ref bk _ _ _ _ _ hg (by omega) (by omega) ?_
            have : b.toNat * ti.size + (m - b.toNat) * ti.size ≤ cap * ti.size := by rw [← Nat.add_mul]; exact Nat.mul_le_mul_right _ (by omega)
            omega
        | refnil ad =>
          have hbo := bounds_ok (P := P) true hlo hhi hmx hs o2 o3 o4 (Nat.le_refl 0) hh hb k2 k3 k4 hm'
          refine ⟨_, run _ _ _ _ _ _ hvv hbo, ?_⟩
          have b0 : b.toNat = 0 := by omega
          have h0 : h.toNat = 0 := by omega
          simp only [b0, h0, ite_self, sliced, Nat.zero_mul, Nat.add_zero, if_true, Nat.sub_self]
          exact .refnil _ _ _ _
      | _ => simp [h2, Out.bad] at hob
    | _ => simp [h2, Out.bad] at hob
  | some p =>
    obtain ⟨es, rows⟩ := p
    have rv := rs_rows r1 h1
    simp only [h1] at hob ⊢
    generalize hH : hiB rows.length (hi'.map (·.get st.fr)) = h at hob ⊢
    generalize hB : loB (lo'.map (·.get st.fr)) = b at hob ⊢
    have main : (ok : (ti.size = es ∨ rows = []) ∧ 0 ≤ b ∧ b ≤ h ∧ h ≤ rows.length) → (mx' = none ∨ (optInt (mx'.map (·.get st.fr)) = some h ∧ hi'.isSome = true)) →
        ∃ ad mm, (execOp a.eval oper).run P w = .ok (.value (.slice ad (h.toNat - b.toNat) (mm - b.toNat))) w ∧ RV g w (.slice ad (h.toNat - b.toNat) (mm - b.toNat)) (.sl es ((rows.drop b.toNat).take (h.toNat - b.toNat))) ∧
          ((rows.drop b.toNat).take (h.toNat - b.toNat)).length = h.toNat - b.toNat ∧ (mx ≠ none → mm = h.toNat) := by
      intro ok hm
      obtain ⟨k1, k2, k3, k4⟩ := ok
      obtain ⟨ad, cap, hv, hcap, hcut⟩ := rv_cut rv b.toNat h.toNat ti.size (by omega) (by omega) k1
      obtain ⟨c1, c2⟩ := hcut (if mx = none then cap else h.toNat) (by split <;> omega) (by split <;> omega)
      have hb : sliced ad b.toNat h.toNat (if mx = none then cap else h.toNat) ti.size = .slice (if (if mx = none then cap else h.toNat) = b.toNat then ad else ad.map (·.add (b.toNat * ti.size))) (h.toNat - b.toNat) ((if mx = none then cap else h.toNat) - b.toNat) := rfl
      rw [hb] at c1
      refine ⟨_, _, ?_, c1, c2, ?_⟩
      · rw [← hb]
        exact run _ _ _ _ _ _ hv (bounds_ok (P := P) true hlo hhi hmx hs o2 o3 o4 hcap hH hB k2 k3 k4 hm)
      · intro hne; simp [hne]
    cases hm : mx' with
    | none =>
      rw [hm] at hob
      simp only [Option.map_none] at hob ⊢
      obtain ⟨ad, mm, m1, m2, m3, _⟩ := main ⟨hob.1.imp Eq.symm id, hob.2⟩ (.inl hm)
      exact ⟨_, m1, m2⟩
    | some z =>
      rw [hm] at hob
      simp only [Option.map_some] at hob ⊢
      obtain ⟨ok, hz, hh⟩ := hob
      obtain ⟨ad, mm, m1, m2, m3, m4⟩ := main ⟨ok.1.imp Eq.symm id, ok.2⟩ (.inr ⟨by rw [hm]; exact hz, by simpa using hh⟩)
      refine ⟨_, m1, m2, ad, ?_⟩
      have : mx ≠ none := by rintro rfl; rw [hm] at hmx; simp at hmx
      rw [m4 this, m3]

theorem gives_sliceA {t e : TypeId} {n : Nat} {x : Operand} {lo hi mx : Option Operand} {x' : Opd} {lo' hi' mx' : Option Opd} {ti : TypeInfo} (ho : oper.op = .slice t x lo hi mx) (ht : P.underlying t = some (.array n e)) (hti : P.info? e = some ti)
    (hx : opdOf x = some x') (hlo : lo.mapM opdOf = some lo') (hhi : hi.mapM opdOf = some hi') (hmx : mx.mapM opdOf = some mx') (hs : SR N T g w st a)
    (hob : (sem tb (.sliceA n ti.size x' lo' hi' mx') st).ob) : Gives P g w st a oper (sem tb (.sliceA n ti.size x' lo' hi' mx') st).v := by
  simp only [sem] at hob ⊢
  obtain ⟨o1, o2, o3, o4, hob⟩ := hob
  have r1 := opd_rs hs hx o1
  unfold sliceAOut at hob ⊢
  cases h2 : x'.get st.fr with
  | d q =>
    cases q with
    | ptr id off =>
      simp only [h2] at hob ⊢
      obtain ⟨k2, k3, k4, k5, k6, hm⟩ := hob
      rw [h2] at r1
      have hrv := rs_d r1
      have hm' : mx' = none ∨ (optInt (mx'.map (·.get st.fr)) = some (hiB n (hi'.map (·.get st.fr))) ∧ hi'.isSome = true) := by
        cases hq : mx' with
        | none => exact .inl rfl
        | some z => rw [hq] at hm; simp only [Option.map_some] at hm; exact .inr ⟨hm.1, by simpa using hm.2⟩
      generalize hh : hiB n (hi'.map (·.get st.fr)) = h at *
      generalize hb : loB (lo'.map (·.get st.fr)) = b at *
      generalize hvv : a.eval x = v at hrv
      cases hrv with
      | ptr bk _ _ hg =>
        have hbo := bounds_ok (P := P) false hlo hhi hmx hs o2 o3 o4 (Nat.le_refl n) hh hb k2 k3 k4 hm'
        have hrun : (execOp a.eval oper).run P w = .ok (.value (sliced (some ⟨bk, off, none⟩) b.toNat h.toNat (if mx = none then n else h.toNat) ti.size)) w := by
          simp only [execOp, ho, hvv]
          simp [Instr.sliceAt, Instr.sureAddr, run_underlying ht, hbo, run_sizeOf_info hti, sliced]
          by_cases hc : (if mx = none then n else h.toNat) = b.toNat
          · rw [if_pos hc, if_pos hc]
          · rw [if_neg hc, if_neg hc]
        refine ⟨_, hrun, ?_⟩
        have hmle : h.toNat ≤ (if mx = none then n else h.toNat) ∧ (if mx = none then n else h.toNat) ≤ n := by split <;> omega
        generalize (if mx = none then n else h.toNat) = m at hmle
        unfold sliced
        by_cases hml : m = b.toNat
        · rw [if_pos hml]
          have e1 : h.toNat - b.toNat = 0 := by omega
          have e2 : m - b.toNat = 0 := by omega
          rw [e1, e2]
          exact .refnil _ _ _ _
        · rw [if_neg hml, Option.map_some, Addr.add_lit]
          have hle : b.toNat * ti.size + (m - b.toNat) * ti.size ≤ n * ti.size := by rw [← Nat.add_mul]; exact Nat.mul_le_mul_right _ (by omega)
          refine .ref bk _ _ _ _ _ hg (by omega) (by unfold maxLen; omega) ?_
          by_cases hc0 : 0 < (objCells st.os id).length
          · obtain ⟨c, ce, q1, q2, _⟩ := ro_obj hs hg hc0
            rw [bsize_cells q1]
            omega
          · omega
    | _ => simp [h2, Out.bad] at hob
  | _ => simp [h2, Out.bad] at hob

end
end Go.Abs
