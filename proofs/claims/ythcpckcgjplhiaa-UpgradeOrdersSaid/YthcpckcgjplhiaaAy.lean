/- The abstract layer, part 25: code; functions. -/
import Derived.Test.YthcpckcgjplhiaaAxb
namespace Go.Abs

def thenQ (K : St → Prop) (Q : SExit → St → Prop) : SExit → St → Prop
  | .normal, st => K st
  | .exit id, st => Q (.exit id) st
  | .ret, st => Q .ret st

def blockQ (id : Nat) (Q : SExit → St → Prop) : SExit → St → Prop
  | .normal, st => Q .normal st
  | .exit id', st => if id' = id then Q .normal st else Q (.exit id') st
  | .ret, st => Q .ret st

/-- A condition's value. -/
def condIs (c : Opd) (st : St) (t : Bool) : Prop := c.ok st.fr = true ∧ c.get st.fr = .d (.bool t)

/-- THE WEAKEST PRECONDITION OF ABSTRACT CODE. -/
def AWp (P : Program) (k0 : Nat) : SCode → (SExit → St → Prop) → St → Prop
  | .skip, Q, st => Q .normal st
  | .region ops objs pairs, Q, st => ARegion P ops objs pairs (Q .normal) st
  | .seq a b, Q, st => AWp P k0 a (thenQ (AWp P k0 b Q) Q) st
  | .cond c a b, Q, st => ∃ t, condIs c st t ∧ (t = true → AWp P k0 a Q st) ∧ (t = false → AWp P k0 b Q st)
  | .block id a, Q, st => AWp P k0 a (blockQ id Q) st
  | .loop a, Q, st => ∃ (α : Type) (S : α → St) (μ : α → Nat) (x0 : α), Turn k0 st (S x0) ∧
      ∀ x, AWp P k0 a (thenQ (fun st' => ∃ y, Turn k0 st' (S y) ∧ μ y < μ x) Q) (S x)
  | .exit id, Q, st => Q (.exit id) st
  | .ret, Q, st => Q .ret st
  | .pause a, Q, st => ∃ st', Turn k0 st st' ∧ AWp P k0 a Q st'

def SExit.real : SExit → Exit
  | .normal => .normal
  | .exit id => .exit id
  | .ret => .ret

theorem ARun.mono {P : Program} : ∀ {ops : List SOper} {k : Nat} {tids : List (List Nat)} {K K' : List (List Nat) → St → Prop} {st : St}, (∀ t s, K t s → K' t s) → ARun P ops k tids K st → ARun P ops k tids K' st
  | [], k, tids, K, K', st, h, hr => h _ _ hr
  | o :: ops, k, tids, K, K', st, h, hr => by
    simp only [ARun] at hr ⊢
    cases hg : gv st.fr o.guard with
    | none => rw [hg] at hr; exact hr.elim
    | some g =>
      rw [hg] at hr
      simp only at hr ⊢
      cases hop : o.op with
      | call f args =>
        rw [hop] at hr
        obtain ⟨n, as, fa, r, fo, fo', ι, r1, r2, r3, r4⟩ := hr
        exact ⟨n, as, fa, r, fo, fo', ι, r1, r2, r3, r4.mono h⟩
      | eqnilS neg x =>
        rw [hop] at hr
        obtain ⟨r1, r2, es, rows, r3, r4⟩ := hr
        exact ⟨r1, r2, es, rows, r3, fun b hb => (r4 b hb).mono h⟩
      | _ =>
        rw [hop] at hr
        exact ⟨hr.1, hr.2.mono h⟩

theorem thenQ_mono {K K' : St → Prop} {Q Q' : SExit → St → Prop} (hK : ∀ s, K s → K' s) (hQ : ∀ e s, Q e s → Q' e s) : ∀ e s, thenQ K Q e s → thenQ K' Q' e s
  | .normal, s, h => hK s h
  | .exit _, s, h => hQ _ s h
  | .ret, s, h => hQ _ s h

theorem AWp.mono {P : Program} {k0 : Nat} : ∀ (c : SCode) {Q Q' : SExit → St → Prop} {st : St}, (∀ e s, Q e s → Q' e s) → AWp P k0 c Q st → AWp P k0 c Q' st
  | .skip, Q, Q', st, h, hr => h _ _ hr
  | .region ops objs pairs, Q, Q', st, h, hr => ARun.mono (fun _ _ hq => ⟨hq.1, h _ _ hq.2⟩) hr
  | .seq a b, Q, Q', st, h, hr => AWp.mono a (thenQ_mono (fun s hs => AWp.mono b h hs) h) hr
  | .cond c a b, Q, Q', st, h, hr => by
    obtain ⟨t, h1, h2, h3⟩ := hr
    exact ⟨t, h1, fun ht => AWp.mono a h (h2 ht), fun ht => AWp.mono b h (h3 ht)⟩
  | .block id a, Q, Q', st, h, hr => AWp.mono a (fun e s hs => by
      cases e with
      | normal => exact h _ _ hs
      | exit id' => simp only [blockQ] at hs ⊢; split <;> rename_i hi <;> simp only [hi, if_true, if_false] at hs <;> exact h _ _ hs
      | ret => exact h _ _ hs) hr
  | .loop a, Q, Q', st, h, hr => by
    obtain ⟨α, S, μ, x0, h1, h2⟩ := hr
    exact ⟨α, S, μ, x0, h1, fun x => AWp.mono a (thenQ_mono (fun _ hs => hs) h) (h2 x)⟩
  | .exit id, Q, Q', st, h, hr => h _ _ hr
  | .ret, Q, Q', st, h, hr => h _ _ hr
  | .pause a, Q, Q', st, h, hr => by
    obtain ⟨st', h1, h2⟩ := hr
    exact ⟨st', h1, AWp.mono a h h2⟩

section
variable {P : Program} {mu : List Nat} {N k0 : Nat} {g g0 : Ghost} {w w0 : World} {st : St} {a : Act}

theorem cond_eval {c : Operand} {c' : Opd} {t : Bool} {T : Nat → Prop} (hs : SR N T g w st a) (hc : opdOf c = some c') (h : condIs c' st t) : a.eval c = .bool t := by
  have := opd_rs hs hc h.1
  rw [h.2] at this
  exact rv_bool (rs_d this)

theorem wp_loop_rel {c : Code} {Q : Exit → Act → World → Prop} (J : Nat → Act → World → Prop) {n0 : Nat} (h0 : J n0 a w)
    (round : ∀ n a w, J n a w → c.wp P (Exit.then (fun a' w' => ∃ m, m < n ∧ J m a' w') Q) a w) : (Code.loop c).wp P Q a w := by
  intro b k cs
  have key : ∀ n a w, J n a w → ∃ e a' w', Q e a' w' ∧ Arrives P (lone (b.at a (.code c :: .inLoop c :: k)) cs w) b k cs e a' w' := by
    intro n
    induction n using Nat.strongRecOn with
    | _ n ih =>
      intro a w hI
      obtain ⟨e, a₁, w₁, hq, harr⟩ := round n a w hI b (.inLoop c :: k) cs
      cases e with
      | normal =>
        obtain ⟨m, hlt, hI₁⟩ := hq
        obtain ⟨e₂, a₂, w₂, hq₂, harr₂⟩ := ih m hlt a₁ w₁ hI₁
        exact ⟨e₂, a₂, w₂, hq₂, .of_steps (Steps.trans harr (.one step_inLoop)) harr₂⟩
      | exit id => exact ⟨_, a₁, w₁, hq, .pass (x := .inLoop c) rfl (fun _ _ => .inl (by simp)) harr⟩
      | goto l => exact ⟨_, a₁, w₁, hq, .pass (x := .inLoop c) rfl (fun _ _ => .inl (by simp)) harr⟩
      | ret => exact ⟨_, a₁, w₁, hq, .pass (x := .inLoop c) rfl (fun _ _ => .inl (by simp)) harr⟩
      | panic ch => exact ⟨_, a₁, w₁, hq, .pass (x := .inLoop c) rfl (fun _ _ => .inl (by simp)) harr⟩
      | outgrown => exact ⟨_, a₁, w₁, hq, .pass (x := .inLoop c) rfl (fun _ _ => .inl (by simp)) harr⟩
  obtain ⟨e, a', w', hq, harr⟩ := key n0 a w h0
  exact ⟨e, a', w', hq, .of_steps (.one step_loop) harr⟩

def SCode.core : SCode → SCode
  | .pause a => a.core
  | c => c

theorem core_erase : ∀ c : SCode, c.core.erase = c.erase
  | .pause a => core_erase a
  | .skip => rfl
  | .region .. => rfl
  | .seq .. => rfl
  | .cond .. => rfl
  | .block .. => rfl
  | .loop .. => rfl
  | .exit .. => rfl
  | .ret => rfl

theorem core_not : ∀ (c a : SCode), c.core ≠ .pause a
  | .pause b, a => core_not b a
  | .skip, _ => by simp [SCode.core]
  | .region .., _ => by simp [SCode.core]
  | .seq .., _ => by simp [SCode.core]
  | .cond .., _ => by simp [SCode.core]
  | .block .., _ => by simp [SCode.core]
  | .loop .., _ => by simp [SCode.core]
  | .exit .., _ => by simp [SCode.core]
  | .ret, _ => by simp [SCode.core]

theorem AWp.core {P : Program} {k0 : Nat} {Q : SExit → St → Prop} : ∀ {c : SCode} {st : St}, AWp P k0 c Q st → ∃ st', Turn k0 st st' ∧ AWp P k0 c.core Q st'
  | .pause a, st, h => by
    obtain ⟨st1, h1, h2⟩ := h
    obtain ⟨st2, h3, h4⟩ := AWp.core (c := a) h2
    exact ⟨st2, h1.trans h3, h4⟩
  | .skip, st, h => ⟨st, .refl st, h⟩
  | .region .., st, h => ⟨st, .refl st, h⟩
  | .seq .., st, h => ⟨st, .refl st, h⟩
  | .cond .., st, h => ⟨st, .refl st, h⟩
  | .block .., st, h => ⟨st, .refl st, h⟩
  | .loop .., st, h => ⟨st, .refl st, h⟩
  | .exit .., st, h => ⟨st, .refl st, h⟩
  | .ret, st, h => ⟨st, .refl st, h⟩

/-- SOUND. -/
theorem awp_sound {news : List (FuncId × Nat)} (hm : P.follows .mixedOrders = true) (h0 : ∀ b id, g0 b = .obj id → id < k0) : ∀ (c : Code) (sc : SCode) (Q : SExit → St → Prop) (R : Exit → Act → World → Prop) (st : St) (g : Ghost) (w : World) (a : Act),
    compCode P mu N news c = some sc.erase → AWp P k0 sc Q st → SR N (below st.nt) g w st a → G g0 w0 g w →
    (∀ e st' g' w' a', Q e st' → SR N (below st'.nt) g' w' st' a' → G g0 w0 g' w' → R e.real a' w') → c.wp P R a w := by
  intro c
  -- the pauses ahead of it
  have pre : ∀ {sc : SCode} {Q : SExit → St → Prop} {st : St} {g : Ghost} {w : World} {a : Act}, AWp P k0 sc Q st → SR N (below st.nt) g w st a → G g0 w0 g w →
      ∃ sc' st' g', sc'.erase = sc.erase ∧ (∀ x, sc' ≠ .pause x) ∧ AWp P k0 sc' Q st' ∧ SR N (below st'.nt) g' w st' a ∧ G g0 w0 g' w := by
    intro sc Q st g w a h hs hG
    obtain ⟨st', h1, h2⟩ := h.core
    obtain ⟨g', h3, h4⟩ := h1.sr hs hG h0
    exact ⟨sc.core, st', g', core_erase sc, core_not sc, h2, h3, h4⟩
  induction c with
  | skip =>
    intro sc Q R st g w a hc h hs hG hR
    simp only [compCode, Option.some.injEq] at hc
    obtain ⟨sc', st', g', he, hnp, h, hs, hG⟩ := pre h hs hG
    rw [← hc] at he
    cases sc' <;> simp only [SCode.erase, reduceCtorEq] at he <;> first | exact wp_skip (hR .normal st' g' w a h hs hG) | exact (hnp _ rfl).elim
  | region id ops draw =>
    intro sc Q R st g w a hc h hs hG hR
    simp only [compCode, Option.map_eq_some_iff] at hc
    obtain ⟨⟨sops, objs, pairs⟩, h1, hc⟩ := hc
    obtain ⟨sc', st', g', he, hnp, h, hs, hG⟩ := pre h hs hG
    rw [← hc] at he
    cases sc' with
    | region a1 a2 a3 =>
      simp only [SCode.erase, SCode.region.injEq] at he
      obtain ⟨rfl, rfl, rfl⟩ := he
      exact region_wp hm h1 hs h (fun st' g' w' a' hK hG' hs' => hR .normal st' g' w' a' hK hs' (hG.trans hG'))
    | pause x => exact (hnp x rfl).elim
    | _ => simp [SCode.erase] at he
  | seq x y ix iy =>
    intro sc Q R st g w a hc h hs hG hR
    simp only [compCode] at hc
    split at hc
    · rename_i x' y' hx hy
      simp only [Option.some.injEq] at hc
      obtain ⟨sc', st, g, he, hnp, h, hs, hG⟩ := pre h hs hG
      rw [← hc] at he
      cases sc' <;> simp only [SCode.erase, reduceCtorEq] at he <;> first | exact (hnp _ rfl).elim | skip
      rename_i X Y
      simp only [SCode.seq.injEq] at he
      obtain ⟨rfl, rfl⟩ := he
      refine wp_seq (ix X _ _ st g w a hx h hs hG (fun e st' g' w' a' hq hs' hG' => ?_))
      cases e with
      | normal => exact iy Y Q R st' g' w' a' hy hq hs' hG' hR
      | exit id => exact hR (.exit id) st' g' w' a' hq hs' hG'
      | ret => exact hR .ret st' g' w' a' hq hs' hG'
    · cases hc
  | cond c x y ix iy =>
    intro sc Q R st g w a hc h hs hG hR
    simp only [compCode] at hc
    split at hc
    · rename_i c' x' y' hcc hx hy
      simp only [Option.some.injEq] at hc
      obtain ⟨sc', st, g, he, hnp, h, hs, hG⟩ := pre h hs hG
      rw [← hc] at he
      cases sc' <;> simp only [SCode.erase, reduceCtorEq] at he <;> first | exact (hnp _ rfl).elim | skip
      rename_i C X Y
      simp only [SCode.cond.injEq] at he
      obtain ⟨rfl, rfl, rfl⟩ := he
      obtain ⟨t, h1, h2, h3⟩ := h
      refine wp_cond_split (cond_eval hs hcc h1) (fun ht => ix X Q R st g w a hx (h2 ht) hs hG hR) (fun ht => iy Y Q R st g w a hy (h3 ht) hs hG hR)
    · cases hc
  | block id x ix =>
    intro sc Q R st g w a hc h hs hG hR
    simp only [compCode, Option.map_eq_some_iff] at hc
    obtain ⟨x', hx, hc⟩ := hc
    obtain ⟨sc', st, g, he, hnp, h, hs, hG⟩ := pre h hs hG
    rw [← hc] at he
    cases sc' <;> simp only [SCode.erase, reduceCtorEq] at he <;> first | exact (hnp _ rfl).elim | skip
    rename_i i X
    simp only [SCode.block.injEq] at he
    obtain ⟨rfl, rfl⟩ := he
    refine wp_block (ix X _ _ st g w a hx h hs hG (fun e st' g' w' a' hq hs' hG' => ?_))
    cases e with
    | normal => exact hR .normal st' g' w' a' hq hs' hG'
    | exit id' =>
      simp only [blockQ] at hq
      simp only [SExit.real, Exit.inBlock]
      split
      · rename_i hi
        rw [if_pos hi] at hq
        exact hR .normal st' g' w' a' hq hs' hG'
      · rename_i hi
        rw [if_neg hi] at hq
        exact hR (.exit id') st' g' w' a' hq hs' hG'
    | ret => exact hR .ret st' g' w' a' hq hs' hG'
  | loop x ix =>
    intro sc Q R st g w a hc h hs hG hR
    simp only [compCode, Option.map_eq_some_iff] at hc
    obtain ⟨x', hx, hc⟩ := hc
    obtain ⟨sc', st, g, he, hnp, h, hs, hG⟩ := pre h hs hG
    rw [← hc] at he
    cases sc' <;> simp only [SCode.erase, reduceCtorEq] at he <;> first | exact (hnp _ rfl).elim | skip
    rename_i X
    simp only [SCode.loop.injEq] at he
    subst he
    obtain ⟨α, S, μ, x0, h1, h2⟩ := h
    obtain ⟨g', hs', hG'⟩ := h1.sr hs hG h0
    refine wp_loop_rel (fun n a w => ∃ y g, μ y = n ∧ SR N (below (S y).nt) g w (S y) a ∧ G g0 w0 g w) (n0 := μ x0) ⟨x0, g', rfl, hs', hG'⟩ (fun n a w => ?_)
    rintro ⟨y, gy, rfl, hsy, hGy⟩
    refine ix X _ _ (S y) gy w a hx (h2 y) hsy hGy (fun e st' g' w' a' hq hs' hG' => ?_)
    cases e with
    | normal =>
      obtain ⟨z, hz, hlt⟩ := hq
      obtain ⟨g'', hs'', hG''⟩ := hz.sr hs' hG' h0
      exact ⟨μ z, hlt, z, g'', rfl, hs'', hG''⟩
    | exit id => exact hR (.exit id) st' g' w' a' hq hs' hG'
    | ret => exact hR .ret st' g' w' a' hq hs' hG'
  | exit id =>
    intro sc Q R st g w a hc h hs hG hR
    simp only [compCode, Option.some.injEq] at hc
    obtain ⟨sc', st, g, he, hnp, h, hs, hG⟩ := pre h hs hG
    rw [← hc] at he
    cases sc' <;> simp only [SCode.erase, reduceCtorEq] at he <;> first | exact (hnp _ rfl).elim | skip
    simp only [SCode.exit.injEq] at he
    subst he
    exact wp_exit (hR (.exit _) st g w a h hs hG)
  | ret =>
    intro sc Q R st g w a hc h hs hG hR
    simp only [compCode, Option.some.injEq] at hc
    obtain ⟨sc', st, g, he, hnp, h, hs, hG⟩ := pre h hs hG
    rw [← hc] at he
    cases sc' <;> simp only [SCode.erase, reduceCtorEq] at he <;> first | exact (hnp _ rfl).elim | skip
    exact wp_ret (hR .ret st g w a h hs hG)
  | _ =>
    intro sc Q R st g w a hc
    simp only [compCode] at hc
    cases hc

end
end Go.Abs
