/- The abstract layer, part 18: regions in the order of the text. -/
import Derived.Test.YthcpckcgjplhiaaAq
namespace Go.Abs

/-- The objects that an operation touches. -/
def Out.touch (out : Out) : List Nat := out.wrs.map (·.1) ++ out.rd.toList

def nilOut (neg b : Bool) : Out := { v := .d (.bool (if neg then !b else b)), ob := True }

/-- What is asked of a plain operation. -/
def Obl (g : Bool) (out : Out) (live : List Nat) : Prop := (g = true → out.ob ∧ ∀ t ∈ out.cons, t ∈ live) ∧ (g = true ∨ out.tame)

/-- THE RUN OF A REGION's OPERATIONS, number by number. -/
def ARun (P : Program) : List SOper → Nat → List (List Nat) → (List (List Nat) → St → Prop) → St → Prop
  | [], _, tids, K, st => K tids st
  | o :: ops, k, tids, K, st =>
    match gv st.fr o.guard with
    | none => False
    | some g =>
      match o.op with
      | .call f args => ∃ n as fa r fo fo' ι, r.toks.length ≤ 16 ∧ (g = true → CallOk P st f args n as fa r fo fo' ι) ∧ (g = true ∨ (callOut (16 * (st.nt + k)) as fa r fo' ι).tame) ∧
          ARun P ops (k + 1) (tids ++ [(callOut (16 * (st.nt + k)) as fa r fo' ι).touch]) K (st.next o g (callOut (16 * (st.nt + k)) as fa r fo' ι))
      | .eqnilS neg x => g = true ∧ x.ok st.fr = true ∧ ∃ es rows, (x.get st.fr).rows = some (es, rows) ∧
          ∀ b : Bool, (b = true → rows = []) → ARun P ops (k + 1) (tids ++ [[]]) K (st.next o g (nilOut neg b))
      | op => Obl g (sem (16 * (st.nt + k)) op st) st.live ∧ ARun P ops (k + 1) (tids ++ [(sem (16 * (st.nt + k)) op st).touch]) K (st.next o g (sem (16 * (st.nt + k)) op st))

/-- Pairs of operations that must touch different objects. -/
def pairsOk (pairs : List (Nat × Nat)) (tids : List (List Nat)) : Prop :=
  ∀ p ∈ pairs, ∀ i ∈ tids.getD p.1 [], i ∉ tids.getD p.2 []

def St.grow (st : St) (n : Nat) : St := { st with os := st.os ++ List.replicate n .none }
def St.bump (st : St) (n : Nat) : St := { st with nt := st.nt + n }

/-- A region. -/
def ARegion (P : Program) (ops : List SOper) (objs : Nat) (pairs : List (Nat × Nat)) (Q : St → Prop) (st : St) : Prop :=
  ARun P ops 0 [] (fun tids st' => pairsOk pairs tids ∧ Q (st'.bump ops.length)) (st.grow objs)

section
variable {P : Program} {mu : List Nat} {N tb : Nat} {T : Nat → Prop} {g : Ghost} {w : World} {st : St} {a : Act} {ops : Array Oper}

theorem objs_append_none (os : List AObj) (n id : Nat) (o : AObj) (ho : o ≠ .none) : (os ++ List.replicate n AObj.none)[id]? = some o ↔ os[id]? = some o := by
  by_cases h : id < os.length
  · rw [List.getElem?_append_left h]
  · rw [List.getElem?_append_right (by omega)]
    constructor
    · intro h1
      have := List.mem_of_getElem? h1
      exact (ho (List.eq_of_mem_replicate this)).elim
    · intro h1
      have := (List.getElem?_eq_some_iff.1 h1).1
      omega

theorem SR.grow (hs : SR N T g w st a) (n : Nat) : SR N T g w (st.grow n) a := by
  refine ⟨hs.dom, hs.defers, hs.size, hs.slots, fun id o ho hn => hs.objs id o ((objs_append_none _ _ _ _ hn).1 ho) hn, hs.inj, fun b id hb => ?_, ⟨hs.wf.live, hs.wf.fr, fun id o ho s hsm t ht => ?_⟩⟩
  · obtain ⟨o, ho, hn⟩ := hs.ids b id hb
    exact ⟨o, (objs_append_none _ _ _ _ hn).2 ho, hn⟩
  · by_cases hn : o = .none
    · subst hn; simp [AObj.cells] at hsm
    · exact hs.wf.os id o ((objs_append_none _ _ _ _ hn).1 ho) s hsm t ht

theorem SR.bump (hs : SR N T g w st a) (n : Nat) : SR N T g w (st.bump n) a := ⟨hs.dom, hs.defers, hs.size, hs.slots, hs.objs, hs.inj, hs.ids, ⟨hs.wf.live, hs.wf.fr, hs.wf.os⟩⟩

def below (n : Nat) : Nat → Prop := fun t => t < 16 * n

theorem fresh_below (n : Nat) : Fresh (below n) (16 * n) := fun t h h2 => by unfold below at h; omega

theorem next_below (n : Nat) : ∀ t, Next (below n) (16 * n) t → below (n + 1) t := by
  intro t h
  unfold below at *
  rcases h with h | h
  · omega
  · omega

theorem next_nt (st : St) (o : SOper) (g : Bool) (out : Out) : (st.next o g out).nt = st.nt := rfl

theorem compOp_nilS {uu : Bool} {back : Nat} {mo : Op} {neg : Bool} {x : Opd} (h : compOp P uu back mo = some (.eqnilS neg x)) :
    ∃ t x0 y0 u e, mo = .binOp (if neg then .neq else .eql) t x0 y0 u ∧ opdOf x0 = some x ∧ P.underlying t = some (.slice e) ∧ isNilConst y0 = true := by
  cases mo with
  | binOp op t x0 y0 u =>
    simp only [compOp] at h
    split at h
    · cases h
    · cases h
    · split at h <;> cases h
    · rename_i a b e h1 h2 h3
      split at h
      · rename_i hy
        split at h
        · cases h; exact ⟨t, x0, y0, u, e, rfl, h1, h3, hy⟩
        · cases h; exact ⟨t, x0, y0, u, e, rfl, h1, h3, hy⟩
        · cases h
      · cases h
    · split at h <;> cases h
    · split at h <;> cases h
    · cases h
  | call c =>
    exfalso
    obtain ⟨callee, margs, argTypes⟩ := c
    cases callee with
    | value f0 => simp only [compOp] at h; split at h <;> cases h
    | invoke _ _ => simp [compOp] at h
    | builtin b => cases b <;> simp only [compOp] at h <;> (repeat' split at h) <;> first | (cases h; done) | (simp only [Option.map_eq_some_iff] at h; obtain ⟨_, _, h⟩ := h; cases h)
  | _ =>
    exfalso
    simp only [compOp, Option.map_eq_some_iff] at h
    first
      | (obtain ⟨_, _, h⟩ := h; cases h; done)
      | ((repeat' split at h) <;> first | (cases h; done) | (simp only [Option.map_eq_some_iff] at h; obtain ⟨_, _, h⟩ := h; cases h))

theorem arun_wp {Q : Exit → Act → World → Prop} : ∀ (l : List Oper) (sops : List SOper) (k : Nat) (tids : List (List Nat)) (K : List (List Nat) → St → Prop) (st : St) (g : Ghost) (w : World) (a : Act),
    compOps P mu N ops l = some sops → ARun P sops k tids K st → SR N (below (st.nt + k)) g w st a →
    (∀ tids' st' a' w' g', K tids' st' → st'.nt = st.nt → G g w g' w' → SR N (below (st.nt + k + sops.length)) g' w' st' a' → Q .normal a' w') → wpList P ops Q l a w
  | [], sops, k, tids, K, st, g, w, a, hc, hr, hs, hQ => by
    simp [compOps] at hc; subst hc
    exact hQ tids st a w g hr rfl (G.refl g w) (by simpa using hs)
  | oper :: l, sops, k, tids, K, st, g, w, a, hc, hr, hs, hQ => by
    simp only [compOps] at hc
    split at hc
    · rename_i o rest h1 h2
      cases hc
      simp only [ARun] at hr
      cases hg : gv st.fr o.guard with
      | none => rw [hg] at hr; exact hr.elim
      | some gb =>
        rw [hg] at hr
        have fin : ∀ out : Out, AOne P (16 * (st.nt + k)) o st gb out → o.op.isNilS = false → (∃ td, ARun P rest (k + 1) (tids ++ [td]) K (st.next o gb out)) → wpList P ops Q (oper :: l) a w := by
          rintro out h3 hne ⟨td, h4⟩
          refine wpList_step (fun K' hK' => one_wp h1 hs (fresh_below _) h3 hne (fun a' w' g' hG hs' => hK' a' w' ?_))
          refine arun_wp l rest (k + 1) (tids ++ [td]) K (st.next o gb out) g' w' a' h2 h4 (by rw [next_nt, ← Nat.add_assoc]; exact hs'.weakT (next_below _)) (fun tids' st' a'' w'' g'' q1 q2 q3 q4 => hQ tids' st' a'' w'' g'' q1 q2 (hG.trans q3) ?_)
          rw [next_nt] at q4
          simp only [List.length_cons]
          rw [show st.nt + k + (rest.length + 1) = st.nt + (k + 1) + rest.length by omega]
          exact q4
        cases hop : o.op with
        | call f args =>
          rw [hop] at hr
          obtain ⟨n, as, fa, r, fo, fo', ι, r1, r2, r3, r4⟩ := hr
          exact fin _ ⟨hg, r3, by rw [hop]; exact ⟨n, as, fa, r, fo, fo', ι, rfl, r1, r2⟩⟩ (by rw [hop]; rfl) ⟨_, r4⟩
        | eqnilS neg x =>
          rw [hop] at hr
          obtain ⟨r1, r2, es, rows, r3, r4⟩ := hr
          subst r1
          obtain ⟨hco, hdst, hd, _⟩ := compOper_spec h1
          rw [hop] at hco
          obtain ⟨t, x0, y0, u, e, hmo, hx, ht, hy⟩ := compOp_nilS hco
          obtain ⟨b, hb, v, hv1, hv2⟩ := gives_eqnilS hmo ht hx hy hs r2 r3
          refine wpList_step (fun K' hK' => ?_)
          rw [wanted_gv h1 hs hg, if_pos rfl]
          unfold Oper.wp
          rw [hv1]
          refine hK' _ _ (arun_wp l rest (k + 1) _ K (st.next o true (nilOut neg b)) g w (a.put oper.dst v) h2 (r4 b hb) ?_ (fun tids' st' a'' w'' g'' q1 q2 q3 q4 => hQ tids' st' a'' w'' g'' q1 q2 q3 ?_))
          · refine done_next h1 ?_ ?_ (by simp [nilOut, ASlot.toks])
            · have : liveAfter st.live (nilOut neg b) = st.live := liveAfter_pure rfl rfl
              rw [this]
              exact (hs.weakT fun t h => by rw [next_nt]; unfold below at *; omega)
            · exact hv2
          · rw [next_nt] at q4
            simp only [List.length_cons]
            rw [show st.nt + k + (rest.length + 1) = st.nt + (k + 1) + rest.length by omega]
            exact q4
        | _ =>
          rw [hop] at hr
          exact fin _ ⟨hg, hr.1.2, by rw [hop]; exact ⟨rfl, hr.1.1⟩⟩ (by rw [hop]; rfl) ⟨_, hr.2⟩
    · cases hc

end
end Go.Abs
