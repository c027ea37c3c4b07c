/- Texts Axc, Ay. -/
import Derived.Test.YtkcdbcbpbolgkaaGreatDoorMqf
import Derived.RangeFuncRecord
set_option linter.unusedSimpArgs false
set_option linter.unusedVariables false
namespace Go.Abs
section
variable {P : Program} {mu : List Nat} {N k0 : Nat} {g g0 : Ghost} {w w0 : World} {st : St} {a : Act}
structure Marks (g0 : Ghost) (w0 : World) (g : Ghost) (w : World) (ds : List Deferred) : Prop where
 one : ∀ d ∈ ds, ∃ b, d.target = .collected b ∧ w0.heap.size ≤ b ∧ g b = .out ∧ w.heap[b]? = some (.deferred (some []))
 two : ds.Pairwise fun d e => d.target ≠ e.target
theorem Marks.step {ds : List Deferred} {g' : Ghost} {w' : World} (h : Marks g0 w0 g w ds) (hG : G g w g' w') : Marks g0 w0 g' w' ds := by
 refine ⟨fun d hd => ?_, h.two⟩
 obtain ⟨b, h1, h2, h3, h4⟩ := h.one d hd
 obtain ⟨q1, q2⟩ := hG.out b (Array.getElem?_eq_some_iff.1 h4).1 h3
 exact ⟨b, h1, h2, q2, by rw [q1]; exact h4⟩
theorem Marks.turn {ds : List Deferred} {g' : Ghost} (h : Marks g0 w0 g w ds) (ho : ∀ b, g b = .out → g' b = .out) : Marks g0 w0 g' w ds :=
 ⟨fun d hd => let ⟨b, h1, h2, h3, h4⟩ := h.one d hd; ⟨b, h1, h2, ho b h3, h4⟩, h.two⟩
end
def q5m (F : Fence) (m : Nat) (P : Program) (l : Nat) (args : Array Value) (W : World) (R : Ending → World → Prop) : Prop :=
 ∃ fn tmps assign body, (Instr.yield l args).run P W = .ok (.round l fn tmps assign body) W ∧ RoundIn F m P l fn tmps assign body W R
def ASeq (P : Program) (gf : FuncId) (caps : List D) (objs : List AObj) (vals : List (List D)) : Prop :=
 (P.funcs[gf]?).any (fun fn => fn.body.isSome && !(fn.name == "runtime.NumGoroutine")) = true ∧
 ∀ (g : Ghost) (w : World) (lb : List Value) (l : Nat) (J : Nat → World → Prop), Dom g w → lb.length = caps.length →
  (∀ (i : Nat) (v : Value) (d : D), lb[i]? = some v → caps[i]? = some d → RV g w v d) → ObjsOk g w [] objs →
  (∀ k W W', J k W → W'.os = W.os → W'.tape = W.tape → W'.output = W.output → W'.heap.size = W.heap.size → (∀ b, (∀ id, g b ≠ .obj id) → W'.heap[b]? = W.heap[b]?) → J k W') →
  (∀ (k : Nat) (ds : List D) (vs : List Value) (W1 : World), vals[k]? = some ds → J k W1 → vs.length = ds.length → (∀ (i : Nat) (v : Value) (d : D), vs[i]? = some v → ds[i]? = some d → RV g w v d) →
   q5m (Fw none) 0 P l vs.toArray W1 fun e W' => e = .returned (.bool true) ∧ J (k + 1) W' ∧ ∀ b id, g b = .obj id → W'.heap[b]? = W1.heap[b]?) →
  J 0 w →
  CallsIn (Fw none) 0 P gf (#[.func (.yield l) #[] #[]] ++ lb.toArray) w fun e W' => (∃ v, e = .returned v) ∧ J vals.length W'
def xgp (P : Program) (gf : FuncId) (ins : List Int) (vals : List (List D)) : Prop :=
 (P.funcs[gf]?).any (fun fn => fn.body.isSome && !(fn.name == "runtime.NumGoroutine")) = true ∧
 ∀ (w : World) (bx bb : Nat) (l : Nat) (J : Nat → World → Prop) (E : World → Prop),
  (∀ k W, J k W → (∃ (c : Array Value) (e : TypeId), W.heap[bx]? = some (.cells c e (0, 0)) ∧ c[0]? = some (.pointer (some ⟨bb, 0, none⟩))) ∧ ∃ (c : Array Value) (e : TypeId), W.heap[bb]? = some (.cells c e (0, 0)) ∧ ∀ (i : Nat) (x : Int), ins[i]? = some x → c[i]? = some (Value.int .i64 x)) →
  (∀ (k : Nat) (ds : List D) (vs : List Value) (W1 : World), vals[k]? = some ds → J k W1 → vs.length = ds.length → (∀ (i : Nat) (v : Value) (d : D), vs[i]? = some v → ds[i]? = some d → RV (fun _ => .out) W1 v d) →
   q5m (Fw none) 0 P l vs.toArray W1 fun e W' => (e = .returned (.bool true) ∧ J (k + 1) W') ∨ (e = .returned (.bool false) ∧ E W')) →
  J 0 w →
  CallsIn (Fw none) 0 P gf (#[.func (.yield l) #[] #[]] ++ #[.pointer (some ⟨bx, 0, none⟩)]) w fun e W' => (∃ v, e = .returned v) ∧ (J vals.length W' ∨ E W')
def Fr.plain : Fr → Bool
 | [] => true
 | (_, true, .d _) :: r => Fr.plain r
 | _ => false
def jk : List Nat → List D → Fr → Fr
 | p :: ps, d :: ds, fr => jk ps ds ((p, true, .d d) :: fr)
 | _, _, fr => fr
theorem Fr.plain_get : ∀ {fr : Fr}, fr.plain = true → ∀ (k : Nat) (v : Bool) (s : ASlot), fr.get k = some (v, s) → v = true ∧ ∃ d, s = .d d
 | [], _, k, v, s, h => by simp [Fr.get] at h
 | (j, v', s') :: r, hp, k, v, s, h => by
  cases v' <;> cases s' <;> simp only [Fr.plain, Bool.false_eq_true] at hp
  simp only [Fr.get] at h
  split at h
  ·cases h; exact ⟨rfl, _, rfl⟩
  ·exact Fr.plain_get hp k v s h
theorem qen : ∀ (ps : List Nat) (ds : List D) (fr : Fr), fr.plain = true → (jk ps ds fr).plain = true
 | [], _, _, h => by simpa [jk] using h
 | _ :: _, [], _, h => by simpa [jk] using h
 | p :: ps, d :: ds, fr, h => by simp only [jk]; exact qen ps ds _ (by simpa [Fr.plain] using h)
section
variable {P : Program} {mu : List Nat} {N k0 : Nat} {g g' g0 : Ghost} {w w' w0 : World} {st : St} {a : Act} {T : Nat → Prop}
def FrRV (g : Ghost) (w : World) (fr : Fr) (tmps : Array Value) : Prop := ∀ (k : Nat) (d : D), fr.get k = some (true, .d d) → RV g w (tmps.getD k undef) d
theorem FrRV.mono {fr : Fr} {tmps : Array Value} (h : FrRV g w fr tmps) (hd : Dom g w) (hG : G g w g' w') : FrRV g' w' fr tmps :=
 fun k d hk => (h k d hk).mono (hG.rowsKept hd) (fun b id hb => hG.obj b id (hd.lt_obj hb) hb)
theorem SR.plain (hs : SR N T g w st a) {fr : Fr} (hp : fr.plain = true) {a' : Act} (hN : a'.tmps.size = N) (h : FrRV g w fr a'.tmps) : SR N T g w { st with fr := fr } a' := by
 refine ⟨hs.dom, trivial, hN, fun k v s hk => ?_, hs.objs, hs.inj, hs.ids, ⟨hs.wf.live, fun k s hk t ht => ?_, hs.wf.os⟩⟩
 ·obtain ⟨rfl, d, rfl⟩ := Fr.plain_get hp k v s hk
  exact ⟨fun _ => h k d hk, fun h => by cases h⟩
 ·obtain ⟨_, d, rfl⟩ := Fr.plain_get hp k _ s hk
  simp [ASlot.toks] at ht
theorem xbk (hs : SR N T g w st a) : FrRV g w st.fr a.tmps := fun k _ hk => (hs.slots k true _ hk).1 rfl
theorem qvr : ∀ (ps : List Nat) (ds : List D) (vs : List Value) (fr : Fr) (tmps : Array Value), ds.length = ps.length → vs.length = ps.length → (∀ p ∈ ps, p < tmps.size) → FrRV g w fr tmps →
  (∀ (i : Nat) (v : Value) (d : D), vs[i]? = some v → ds[i]? = some d → RV g w v d) → FrRV g w (jk ps ds fr) ((ps.zip vs).foldl (fun t (p, v) => t.setIfInBounds p v) tmps)
 | [], [], [], fr, tmps, _, _, _, h, _ => by simpa [jk] using h
 | p :: ps, d :: ds, v :: vs, fr, tmps, h1, h2, h3, h, hr => by
  simp only [jk, List.zip_cons_cons, List.foldl_cons]
  refine qvr ps ds vs _ _ (by simpa using h1) (by simpa using h2) (fun q hq => by simpa using h3 q (List.mem_cons_of_mem _ hq)) ?_ (fun i v d hv hd => hr (i + 1) v d (by simpa using hv) (by simpa using hd))
  intro k x hk
  simp only [Fr.get] at hk
  split at hk
  ·rename_i he
   subst he
   cases hk
   have hp := h3 p List.mem_cons_self
   rw [Array.getD_eq_getD_getElem?, Array.getElem?_setIfInBounds_self_of_lt hp]
   exact hr 0 v d rfl rfl
  ·rename_i he
   rw [Array.getD_eq_getD_getElem?, Array.getElem?_setIfInBounds_ne he, ← Array.getD_eq_getD_getElem?]
   exact h k x hk
 | [], _ :: _, _, _, _, h, _, _, _, _ => by simp at h
 | _ :: _, [], _, _, _, h, _, _, _, _ => by simp at h
 | [], [], _ :: _, _, _, _, h, _, _, _ => by simp at h
 | _ :: _, _ :: _, [], _, _, _, h, _, _, _ => by simp at h
theorem ql1 : ∀ (l : List (Nat × Value)) (tmps : Array Value), (l.foldl (fun t (p, v) => t.setIfInBounds p v) tmps).size = tmps.size
 | [], _ => rfl
 | x :: l, tmps => by rw [List.foldl_cons, ql1 l]; simp
theorem G.beyond (hG : G g0 w0 g w) (hos : w'.os = w.os) (ht : w'.tape = w.tape) (ho : w'.output = w.output) (hsz : w.heap.size ≤ w'.heap.size)
  (hw : ∀ b r, b < w0.heap.size → g0 b = r → (∀ t, r ≠ .uni t) → w'.heap[b]? = w.heap[b]?) : G g0 w0 g w' := by
 refine ⟨hos.trans hG.os, ht.trans hG.tape, ho.trans hG.output, Nat.le_trans hG.size hsz, fun b hb hg => ?_, fun b n hb hg => ?_, fun b n t hb hg => ?_, fun b id hb hg => ?_⟩
 ·rw [hw b _ hb hg (by simp)]; exact hG.out b hb hg
 ·rw [hw b _ hb hg (by simp)]; exact hG.rowN b n hb hg
 ·obtain ⟨n', o', q1, q2, q3⟩ := hG.rowS b n t hb hg
  exact ⟨n', o', q1, q2, fun i u hi hu => by rw [ky (hw b _ hb hg (by simp))]; exact q3 i u hi hu⟩
 ·rw [ji (hw b _ hb hg (by simp))]; exact hG.obj b id hb hg
theorem xbl (hs : SR N T g w st a) {ι : List Nat} {fo : List AObj} (hnd : ι.Nodup) (hlen : ι.length = fo.length) (hob : qdq ι st.os ι fo) (hik : fo.all (AObj.inK fo.length) = true) : ObjsOk (xm [] ι g) w [] fo := by
 have hrk := qek [] ι g w
 have hpos : ∀ (b id j : Nat), g b = .obj id → ι[j]? = some id → xm [] ι g b = .obj j := by
  intro b id j hb hj
  unfold xm
  rw [hb]
  simp only [qc3 hnd hj]
 have hposr : ∀ (b j : Nat), xm [] ι g b = .obj j → ∃ id, g b = .obj id ∧ ι[j]? = some id := by
  intro b j h
  unfold xm at h
  cases hb : g b with
  | out => rw [hb] at h; cases h
  | row n o => rw [hb] at h; cases o <;> cases h
  | uni t => rw [hb] at h; simp only at h; split at h <;> cases h
  | obj id =>
   rw [hb] at h
   simp only at h
   split at h
   ·rename_i j' hp
    cases h
    exact ⟨id, rfl, qfw hp⟩
   ·cases h
 refine ⟨fun j o hj hne => ?_, fun b b' j h h' => ?_, fun b j h => ?_⟩
 ·obtain ⟨id, c, hid, hcs, hm⟩ := qd8 hob j o hj
  cases o with
  | none => exact (hne rfl).elim
  | map es' c' =>
   cases c with
   | map es c0 =>
    obtain ⟨rfl, rfl⟩ : es = es' ∧ c0 = c' := hm
    rcases hs.objs id _ hcs (by simp) with ⟨b, hb, hr⟩ | ⟨hv, _⟩
    ·exact .inl ⟨b, hpos b id j hb hid, MapIs.mono hr hrk rfl⟩
    ·cases hv
   | _ => exact hm.elim
  | iter m since seen last => cases c <;> exact hm.elim
  | row fs =>
   cases c with
   | none => exact hm.elim
   | map _ _ => exact hm.elim
   | iter _ _ _ _ => exact hm.elim
   | row cs =>
    rcases hs.objs id _ hcs (by simp) with ⟨b, hb, ca, e, hh, hl, hcc⟩ | ⟨hv, hno⟩
    case inr =>
     have hc0 : cs = [] := by simpa using hv
     subst hc0
     have hf0 : fs = [] := by
      cases fs with
      | nil => rfl
      | cons f fs => exact (show qfn [] ((f :: fs).map (ASlot.ren1 ι)) from hm).elim
     subst hf0
     refine .inr ⟨rfl, fun b hb => ?_⟩
     obtain ⟨id', h1, h2⟩ := hposr b j hb
     rw [hid] at h2; cases h2
     exact hno b h1
    have hkeep := List.all_eq_true.1 hik _ (List.mem_of_getElem? hj)
    simp only [AObj.inK, List.all_eq_true] at hkeep
    have key : ∀ (cs fs : List ASlot), qfn cs (fs.map (ASlot.ren1 ι)) → fs.length ≤ cs.length ∧ ∀ (i : Nat) (f : ASlot), fs[i]? = some f → ∃ s, cs[i]? = some s ∧ qyn s (f.ren1 ι) := by
     intro cs fs
     induction fs generalizing cs with
     | nil => intro _; exact ⟨Nat.zero_le _, by simp⟩
     | cons f fs ih =>
      intro h
      cases cs with
      | nil => exact h.elim
      | cons s cs =>
       obtain ⟨h1, h2⟩ := h
       obtain ⟨k1, k2⟩ := ih cs h2
       refine ⟨by simp; omega, fun i f' hf => ?_⟩
       cases i with
       | zero => simp at hf; subst hf; exact ⟨s, rfl, h1⟩
       | succ i => simpa using k2 i f' (by simpa using hf)
    obtain ⟨k1, k2⟩ := key cs fs hm
    refine .inl ⟨b, hpos b id j hb hid, ca, e, hh, by omega, fun i f hf => ?_⟩
    obtain ⟨s, hsi, hms⟩ := k2 i f hf
    obtain ⟨v, v1, v2, v3⟩ := hcc i s hsi
    refine ⟨v, v1, v2, ?_⟩
    cases f with
    | d x =>
     have hk := hkeep _ (List.mem_of_getElem? hf)
     have := (qvi (je v3) hms).down (hs := []) hnd (k := fo.length) (by omega) rfl hk
     rwa [← hlen, List.take_length] at this
    | bad => trivial
    | own t' es' rows' =>
     cases s with
     | own t es rows =>
      obtain ⟨rfl, he⟩ := hms
      have hk := hkeep _ (List.mem_of_getElem? hf)
      have h1 : RV g w v (.sl es (D.renR ι rows')) := qbq v3.1 ⟨.inl rfl, he⟩
      have h2 := h1.down (hs := []) (y := .sl es rows') hnd (k := fo.length) (by omega) rfl (by simp only [D.inK]; exact hk)
      rw [← hlen, List.take_length] at h2
      exact ⟨h2, fun h => by cases h⟩
     | _ => exact hms.elim
    | _ => cases s <;> exact hms.elim
 ·obtain ⟨id, h1, h2⟩ := hposr b j h
  obtain ⟨id', h3, h4⟩ := hposr b' j h'
  rw [h2] at h4; cases h4
  exact hs.inj b b' id h1 h3
 ·obtain ⟨id, h1, h2⟩ := hposr b j h
  have hjl : j < fo.length := by rw [← hlen]; exact (List.getElem?_eq_some_iff.1 h2).1
  refine ⟨fo[j], List.getElem?_eq_getElem hjl, fun hn => ?_⟩
  obtain ⟨id', c, hid, hcs, hm⟩ := qd8 hob j _ (List.getElem?_eq_getElem hjl)
  rw [hn] at hm
  cases c <;> exact hm.elim
theorem RowsKept.trans {g'' : Ghost} {w'' : World} (h : RowsKept g w g' w') (k : RowsKept g' w' g'' w'') : RowsKept g w g'' w'' := by
 intro b n o hg
 obtain ⟨n', o', h1, h2, h3⟩ := h b n o hg
 obtain ⟨n'', o'', k1, k2, k3⟩ := k b n' o' h1
 exact ⟨n'', o'', k1, by omega, fun i u hi hu => k3 i u (by omega) (h3 i u hi hu)⟩
theorem RowsKept.still (hw : ∀ k, g k ≠ .out → w'.heap[k]? = w.heap[k]?) : RowsKept g w g w' :=
 fun b n o hg => ⟨n, o, hg, Nat.le_refl _, fun i u _ hu => by rw [ky (hw b (by rw [hg]; simp))]; exact hu⟩
theorem FrRV.still {fr : Fr} {tmps : Array Value} (h : FrRV g w fr tmps) (hw : ∀ k, g k ≠ .out → w'.heap[k]? = w.heap[k]?) : FrRV g w' fr tmps :=
 fun k d hk => (h k d hk).mono (RowsKept.still hw) (fun b id hb => ⟨hb, Nat.le_of_eq (ji (hw b (by rw [hb]; simp))).symm⟩)
theorem Marks.world {ds : List Deferred} (h : Marks g0 w0 g w ds) (hw : ∀ d ∈ ds, ∀ b, d.target = .collected b → w'.heap[b]? = w.heap[b]?) : Marks g0 w0 g w' ds :=
 ⟨fun d hd => let ⟨b, h1, h2, h3, h4⟩ := h.one d hd; ⟨b, h1, h2, h3, by rw [hw d hd b h1]; exact h4⟩, h.two⟩
theorem Turn.rows {st' : St} (h : Turn k0 st st') (hs : SR N (Go.Abs.below st.nt) g w st a) (hG : G g0 w0 g w) (h0 : ∀ b id, g0 b = .obj id → id < k0) :
  ∃ g', SR N (Go.Abs.below st'.nt) g' w st' a ∧ G g0 w0 g' w ∧ (∀ b, g b = .out → g' b = .out) ∧ RowsKept g w g' w ∧ ∀ b id, id < k0 → g b = .obj id → g' b = .obj id := by
 let gx : Ghost := fun b => match g b with | .row n o => .row n o | .obj id => if id < k0 then .obj id else .uni 0 | .out => .out | .uni _ => .uni 0
 have x1 : ∀ b, g b = .out → gx b = .out := fun b hb => by simp only [gx, hb]
 have x2 : ∀ b n o, g b = .row n o → gx b = .row n o := fun b n o hb => by simp only [gx, hb]
 have x3 : ∀ b id, g b = .obj id → id < k0 → gx b = .obj id := fun b id hb hk => by simp only [gx, hb, if_pos hk]
 have y1 : ∀ b, gx b = .out → g b = .out := fun b hb => by
  simp only [gx] at hb
  cases hg : g b with
  | out => rfl
  | row n o => rw [hg] at hb; cases hb
  | uni t => rw [hg] at hb; cases hb
  | obj id => rw [hg] at hb; simp only at hb; split at hb <;> cases hb
 have y2 : ∀ b n o, gx b = .row n o → g b = .row n o := fun b n o hb => by
  simp only [gx] at hb
  cases hg : g b with
  | out => rw [hg] at hb; cases hb
  | row n' o' => rw [hg] at hb; exact hb
  | uni t => rw [hg] at hb; cases hb
  | obj id => rw [hg] at hb; simp only at hb; split at hb <;> cases hb
 have y3 : ∀ b id, gx b = .obj id → g b = .obj id ∧ id < k0 := fun b id hb => by
  simp only [gx] at hb
  cases hg : g b with
  | out => rw [hg] at hb; cases hb
  | row n' o' => rw [hg] at hb; cases hb
  | uni t => rw [hg] at hb; cases hb
  | obj id' =>
   rw [hg] at hb
   simp only at hb
   split at hb
   ·rename_i hk
    cases hb
    exact ⟨rfl, hk⟩
   ·cases hb
 have hX : G gx w g w := ⟨rfl, rfl, rfl, Nat.le_refl _, fun b _ hb => ⟨rfl, y1 b hb⟩, fun b n _ hb => ⟨rfl, y2 b n _ hb⟩, fun b n t _ hb => ⟨n, _, y2 b n _ hb, Nat.le_refl _, fun _ _ _ h => h⟩, fun b id _ hb => ⟨(y3 b id hb).1, Nat.le_refl _⟩⟩
 obtain ⟨g', k1, k2, k3⟩ := h.sr hs hX (fun b id hb => (y3 b id hb).2)
 refine ⟨g', k1, ⟨hG.os, hG.tape, hG.output, hG.size, fun b hb hg => ?_, fun b n hb hg => ?_, fun b n t hb hg => ?_, fun b id hb hg => ?_⟩, k3, fun b n o hg => k2.row (hs.dom.lt_row hg) (x2 b n o hg), fun b id hk hb => (k2.obj b id (hs.dom.lt_obj hb) (x3 b id hb hk)).1⟩
 ·obtain ⟨q1, q2⟩ := hG.out b hb hg
  exact ⟨q1, k3 b q2⟩
 ·obtain ⟨q1, q2⟩ := hG.rowN b n hb hg
  exact ⟨q1, (k2.rowN b n (Nat.lt_of_lt_of_le hb hG.size) (x2 b n _ q2)).2⟩
 ·obtain ⟨n', o', q1, q2, q3⟩ := hG.rowS b n t hb hg
  obtain ⟨n'', o'', r1, r2, r3⟩ := k2.row (Nat.lt_of_lt_of_le hb hG.size) (x2 b n' o' q1)
  exact ⟨n'', o'', r1, by omega, fun i u hi hu => r3 i u (by omega) (q3 i u hi hu)⟩
 ·obtain ⟨q1, q2⟩ := hG.obj b id hb hg
  obtain ⟨r1, r2⟩ := k2.obj b id (Nat.lt_of_lt_of_le hb hG.size) (x3 b id q1 (h0 b id hg))
  exact ⟨r1, by omega⟩
theorem qaw (w : World) (o : Obj) (k : Nat) (h : k < w.heap.size) : (w.alloc o).heap[k]? = w.heap[k]? := by
 show (w.heap.push o)[k]? = _
 rw [Array.getElem?_push, if_neg (by omega)]
theorem qb9 (W : World) (l : Nat) (o : Obj) : W.heap.size ≤ (W.putObj l o).heap.size := Nat.le_of_eq World.putObj_size.symm
theorem qng {F : Fence} {P : Program} {f : FuncId} {args : Array Value} {w : World} {R : Ending → World → Prop} (h : CallsIn F 0 P f args w R) : CallsIn F (0 - 1) P f args w R := h
theorem qy0 {f : Operand} {f' : Opd} {ps : Array Tmp} {ac bc : Code} {R : Exit → Act → World → Prop} {gf : FuncId} {caps : List D} {ι : List Nat} {fo : List AObj} {vals : List (List D)} {S : Nat → St} {fr0 : Fr}
  (hs : SR N T g w st a) (hG : G g0 w0 g w) (hM : Marks g0 w0 g w a.defers) (h0 : ∀ b id, g0 b = .obj id → id < k0)
  (hf : qp f = some f') (h1 : f'.ok st.fr = true) (h2 : f'.get st.fr = .d (.func (.func gf) [] (caps.map (D.ren ι)))) (hseq : ASeq P gf caps fo vals)
  (hin : ∀ d ∈ caps, d.inK fo.length = true) (hnd : ι.Nodup) (hlen : ι.length = fo.length) (hob : qdq ι st.os ι fo) (hik : fo.all (AObj.inK fo.length) = true) (hge : ∀ id ∈ ι, k0 ≤ id)
  (hvl : ∀ vs ∈ vals, vs.length = ps.size ∧ D.noPtrL vs = true) (hps : ∀ p ∈ ps.toList, p < N) (hfr : fr0.plain = true) (hSf : ∀ k, (S k).fr = fr0) (hSn : ∀ k id, id ∈ ι → wx (S k).os id = false)
  (hwk : Weak k0 st (S 0))
  (hround : ∀ k vs, vals[k]? = some vs → ∀ l gk W1 a1, SR N (below (S k).nt) gk W1 { S k with fr := jk ps.toList vs fr0 } a1 → a1.defers = [] →
   ac.wpIn (Fw (some l)) 0 P (Exit.then (fun a2 W2 => ∃ ga st2, SR N (below st2.nt) ga W2 st2 a2 ∧ G gk W1 ga W2 ∧
    ∀ W2', SR N (below st2.nt) ga W2' st2 a2 → bc.wpIn (Fw (some l)) 0 P (fun e a3 W3 => e = .normal ∧ ∃ gb st3, SR N (below st3.nt) gb W3 st3 a3 ∧ G ga W2' gb W3 ∧ Turn k0 { st3 with fr := fr0 } (S (k + 1))) a2 W2') (fun _ _ _ => False)) a1 W1)
  (hR : ∀ g' w' a', SR N (below (S vals.length).nt) g' w' (S vals.length) a' → G g0 w0 g' w' → Marks g0 w0 g' w' a'.defers → R .normal a' w') :
  (Code.rangeFunc f ps ac bc).wpIn (Fw none) 0 P R a w := by
 have hrf := xc hs hf h1
 rw [h2] at hrf
 have hrv := wj hrf
 generalize hfv : a.eval f = fv at hrv
 cases hrv with
 | func _ vf vc _ _ l1 l2 r1 r2 =>
 have hvf : vf = [] := List.eq_nil_of_length_eq_zero (by simpa using l1)
 subst hvf
 obtain ⟨hb, hsq⟩ := hseq
 refine wpIn_rangeFunc fun fn _ => ?_
 let mkL : LoopState → Option Code → Loop := fun st pe => { state := st, pending := pe, fn, tmps := a.tmps, params := ps, assign := ac, body := bc, defers := w.heap.size }
 let W1 := (w.alloc (.deferred (some []))).alloc (.loop (mkL .ready none))
 let l := w.heap.size + 1
 have hL1 : W1.heap[l]? = some (.loop (mkL .ready none)) := by
  have := World.alloc_heap_new (w.alloc (.deferred (some []))) (.loop (mkL .ready none)); rwa [World.size_alloc] at this
 have hK1 : W1.heap[w.heap.size]? = some (.deferred (some [])) := by
  exact (qaw _ _ _ (by simp)).trans (World.alloc_heap_new w _)
 have hold : ∀ b, b < w.heap.size → W1.heap[b]? = w.heap[b]? := fun b hb => by
  exact (qaw _ _ _ (by simp; omega)).trans (qaw _ _ _ hb)
 have hsz1 : W1.heap.size = w.heap.size + 2 := by simp [W1]
 have hst0 : ∀ k, g k ≠ .out → W1.heap[k]? = w.heap[k]? := fun k hk => hold k (by
  rcases Nat.lt_or_ge k w.heap.size with h | h
  ·exact h
  ·exact (hk (hs.dom.1 k h)).elim)
 have hs1 : SR N T g W1 st a := hs.still hst0 (by omega)
 have hdomC : Dom (xm [] ι g) W1 := ⟨fun b hb => by unfold xm; rw [hs1.dom.1 b hb], hs1.dom.2.ghost fun b n h => by unfold xm; rw [h]⟩
 have hlb : ∀ (i : Nat) (v : Value) (d : D), vc[i]? = some v → caps[i]? = some d → RV (xm [] ι g) W1 v d := by
  intro i v d hv hd
  have h := r2 i v (d.ren ι) hv (by rw [List.getElem?_map, hd]; rfl)
  have := (h.mono (RowsKept.still hst0) (fun k id hk => ⟨hk, Nat.le_of_eq (ji (hst0 k (by rw [hk]; simp))).symm⟩)).down (hs := []) hnd (k := fo.length) (by omega) rfl (hin d (List.mem_of_getElem? hd))
  rwa [← hlen, List.take_length] at this
 have hobjs := xbl hs1 hnd hlen hob hik
 have hobjC : ∀ b j, xm [] ι g b = .obj j → ∃ id, id ∈ ι ∧ g b = .obj id := by
  intro b j h
  unfold xm at h
  cases hb : g b with
  | out => rw [hb] at h; cases h
  | row n o => rw [hb] at h; cases o <;> cases h
  | uni t => rw [hb] at h; simp only at h; split at h <;> cases h
  | obj id =>
   rw [hb] at h
   simp only at h
   split at h
   ·rename_i j' hp
    cases h
    exact ⟨id, List.mem_of_getElem? (qfw hp), rfl⟩
   ·cases h
 have hrowC : ∀ b n o, xm [] ι g b = .row n o → ∃ o', g b = .row n o' := by
  intro b n o h
  unfold xm at h
  cases hb : g b with
  | out => rw [hb] at h; cases h
  | row n' o' => rw [hb] at h; cases o' <;> cases h <;> exact ⟨_, rfl⟩
  | uni t => rw [hb] at h; simp only at h; split at h <;> cases h
  | obj id => rw [hb] at h; simp only at h; split at h <;> cases h
 have hgl : ∀ b, w.heap.size ≤ b → g b = .out := hs.dom.1
 have htk : ∀ b id, id ∈ ι → g b = .obj id → b < w.heap.size := fun b id _ hb => hs.dom.lt_obj hb
 let J : Nat → World → Prop := fun k W => ∃ gk, SR N (below (S k).nt) gk W (S k) a ∧ G g0 w0 gk W ∧ Marks g0 w0 gk W a.defers ∧ RowsKept g W1 gk W ∧ W.heap[l]? = some (.loop (mkL .ready none)) ∧
  W.heap[w.heap.size]? = some (.deferred (some [])) ∧ gk l = .out ∧ gk w.heap.size = .out ∧ ∀ b id, id ∈ ι → g b = .obj id → gk b = .out
 have hnt : ∀ b r, b < w0.heap.size → g0 b = r → (∀ t, r ≠ .uni t) → ∀ j, xm [] ι g b ≠ .obj j := by
  intro b r hb hr hu j hj
  obtain ⟨id, hid, hgb⟩ := hobjC b j hj
  cases r with
  | out => have := (hG.out b hb hr).2; rw [hgb] at this; cases this
  | row n o => obtain ⟨n', o', q, _⟩ := hG.row hb hr; rw [hgb] at q; cases q
  | uni t => exact hu t rfl
  | obj id' =>
   have := (hG.obj b id' hb hr).1
   rw [hgb] at this; cases this
   have := h0 b id hr
   have := hge id hid
   omega
 have hmk : ∀ d ∈ a.defers, ∀ b, d.target = .collected b → b < w.heap.size ∧ g b = .out ∧ ∀ j, xm [] ι g b ≠ .obj j := by
  intro d hd b hb
  obtain ⟨b', q1, q2, q3, q4⟩ := hM.one d hd
  rw [hb] at q1; cases q1
  refine ⟨(Array.getElem?_eq_some_iff.1 q4).1, q3, fun j hj => ?_⟩
  obtain ⟨id, _, hgb⟩ := hobjC b j hj
  rw [q3] at hgb; cases hgb
 have hlC : ∀ b, w.heap.size ≤ b → ∀ j, xm [] ι g b ≠ .obj j := by
  intro b hb j hj
  obtain ⟨id, _, hgb⟩ := hobjC b j hj
  rw [hgl b hb] at hgb; cases hgb
 have hw0l : w0.heap.size ≤ w.heap.size := hG.size
 have hJ0 : J 0 W1 := by
  obtain ⟨g1, k1, k2, k3, k4, k5, _⟩ := hwk.srD hs hG h0
  have hst : ∀ b, g1 b ≠ .out → W1.heap[b]? = w.heap[b]? := fun b hb => hold b (by
   rcases Nat.lt_or_ge b w.heap.size with h | h
   ·exact h
   ·exact (hb (k1.dom.1 b h)).elim)
  refine ⟨g1, k1.still hst (by omega), k2.beyond rfl rfl rfl (by omega) (fun b r hb _ _ => hold b (by omega)), (hM.turn k3).world (fun d hd b hb => hold b (hmk d hd b hb).1), ((RowsKept.still (w := W1) (w' := w) fun k hk => (hst0 k hk).symm).trans k5).trans (RowsKept.still hst), hL1, hK1, k1.dom.1 l (by simp [l]), k1.dom.1 _ (Nat.le_refl _), fun b id hid hb => ?_⟩
  rcases k4 b id hb with h | h
  ·obtain ⟨o, q1, q2⟩ := k1.ids b id h
   have := hSn 0 id hid
   unfold wx at this
   rw [q1] at this
   cases o with
   | none => exact (q2 rfl).elim
   | _ => simp at this
  ·exact h
 have hab : ∀ k W W', J k W → W'.os = W.os → W'.tape = W.tape → W'.output = W.output → W'.heap.size = W.heap.size → (∀ b, (∀ id, xm [] ι g b ≠ .obj id) → W'.heap[b]? = W.heap[b]?) → J k W' := by
  rintro k W W' ⟨gk, j1, j2, j3, j4, j5, j6, j7, j8, j9⟩ q1 q2 q3 q4 q5
  have hst : ∀ b, gk b ≠ .out → W'.heap[b]? = W.heap[b]? := fun b hb => q5 b (fun j hj => by
   obtain ⟨id, hid, hgb⟩ := hobjC b j hj
   exact hb (j9 b id hid hgb))
  exact ⟨gk, j1.still hst (by omega), j2.beyond q1 q2 q3 (by omega) (fun b r hb hr hu => q5 b (hnt b r hb hr hu)), j3.world (fun d hd b hb => q5 b (hmk d hd b hb).2.2), j4.trans (RowsKept.still hst),
   by rw [q5 l (hlC l (by simp [l]))]; exact j5, by rw [q5 _ (hlC _ (Nat.le_refl _))]; exact j6, j7, j8, j9⟩
 have hrd : ∀ (k : Nat) (ds : List D) (vs : List Value) (W : World), vals[k]? = some ds → J k W → vs.length = ds.length → (∀ (i : Nat) (v : Value) (d : D), vs[i]? = some v → ds[i]? = some d → RV (xm [] ι g) W1 v d) →
   q5m (Fw none) 0 P l vs.toArray W fun e W' => e = .returned (.bool true) ∧ J (k + 1) W' ∧ ∀ b id, xm [] ι g b = .obj id → W'.heap[b]? = W.heap[b]? := by
  rintro k ds vs W hk ⟨gk, j1, j2, j3, j4, j5, j6, j7, j8, j9⟩ hvs hrv
  obtain ⟨hdl, hdn⟩ := hvl ds (List.mem_of_getElem? hk)
  have hy := run_yield (P := P) (args := vs.toArray) j5 (by simp [mkL]; omega)
  refine ⟨fn, _, ac, bc, hy, roundIn_of_wpIn (F := Fw none) trivial ?_⟩
  have hfold : (ps.zip vs.toArray).foldl (fun t (x : Nat × Value) => t.setIfInBounds x.1 x.2) a.tmps = (ps.toList.zip vs).foldl (fun t (x : Nat × Value) => t.setIfInBounds x.1 x.2) a.tmps := by
   rw [← Array.foldl_toList, Array.toList_zip]
  have hrc : RowsKept (xm [] ι g) W1 gk W := by
   intro b n o hb
   obtain ⟨o', hgb⟩ := hrowC b n o hb
   exact j4 b n o' hgb
  have hf0 : FrRV gk W fr0 a.tmps := by
   have := xbk j1
   rwa [hSf k] at this
  have hpl := qen ps.toList ds fr0 hfr
  have hsz : ((ps.toList.zip vs).foldl (fun t (x : Nat × Value) => t.setIfInBounds x.1 x.2) a.tmps).size = N := by rw [ql1]; exact j1.size
  have hs1 : SR N (below (S k).nt) gk W { S k with fr := jk ps.toList ds fr0 } { tmps := (ps.toList.zip vs).foldl (fun t (x : Nat × Value) => t.setIfInBounds x.1 x.2) a.tmps, defers := [] } :=
   j1.plain hpl hsz (qvr ps.toList ds vs fr0 a.tmps (by simpa using hdl) (by simp; omega) (fun p hp => by rw [j1.size]; exact hps p hp) hf0
    (fun i v d hv hd => (hrv i v d hv hd).mono_noPtr hrc ((D.noPtrL_iff ds).1 hdn d (List.mem_of_getElem? hd))))
  have hwp := hround k ds hk l gk W _ hs1 rfl
  simp only [mkL]
  rw [hfold]
  refine wpIn_mono hwp ?_
  intro e a2 W2 hq
  cases e with
  | normal =>
   obtain ⟨ga, st2, q1, q2, q3⟩ := hq
   have hlt : l < W.heap.size := (Array.getElem?_eq_some_iff.1 j5).1
   obtain ⟨e1, e2⟩ := q2.out l hlt j7
   have hl2 : W2.heap[l]? = some (.loop (mkL .ready none)) := by rw [e1]; exact j5
   refine ⟨_, run_beginRound hl2 rfl, ?_⟩
   have hst2 : ∀ b, ga b ≠ .out → (W2.putObj l (.loop { mkL .ready none with state := .busy })).heap[b]? = W2.heap[b]? := fun b hb => World.putObj_heap_other (fun h => hb (h ▸ e2))
   refine wpIn_mono (q3 _ (q1.still hst2 (qb9 _ _ _))) ?_
   rintro e a3 W3 ⟨rfl, gb, st3, r1, r2, r3⟩
   have hl2' : (W2.putObj l (.loop { mkL .ready none with state := .busy })).heap[l]? = some (.loop { mkL .ready none with state := .busy }) := World.putObj_heap_same (Array.getElem?_eq_some_iff.1 hl2).1
   obtain ⟨f1, f2⟩ := r2.out l (Array.getElem?_eq_some_iff.1 hl2').1 e2
   have hl3 : W3.heap[l]? = some (.loop { mkL .ready none with state := .busy }) := by rw [f1]; exact hl2'
   refine ⟨_, _, run_endRound none hl3, rfl, ?_, fun b id hb => ?_⟩
   ·
    have hG2 : G g0 w0 ga W2 := j2.trans q2
    have hG2' : G g0 w0 ga (W2.putObj l (.loop { mkL .ready none with state := .busy })) := hG2.beyond rfl rfl rfl (qb9 _ _ _) (fun b r hb _ _ => World.putObj_heap_other (by simp only [l]; omega))
    have hG3 : G g0 w0 gb W3 := hG2'.trans r2
    have hfr3 : FrRV gb W3 fr0 a.tmps := (((hf0.mono j1.dom q2).still hst2).mono (q1.still hst2 (qb9 _ _ _)).dom r2)
    have hs3 : SR N (below st3.nt) gb W3 { st3 with fr := fr0 } a := r1.plain hfr j1.size hfr3
    obtain ⟨gz, z1, z2, z3, z4, _⟩ := r3.rows hs3 hG3 h0
    have hlz : gz l = .out := z3 l f2
    have hst4 : ∀ b, gz b ≠ .out → (W3.putObj l (.loop (mkL .ready none))).heap[b]? = W3.heap[b]? := fun b hb => World.putObj_heap_other (fun h => hb (h ▸ hlz))
    have hM2 : Marks g0 w0 ga W2 a.defers := j3.step q2
    have hM2' : Marks g0 w0 ga (W2.putObj l (.loop { mkL .ready none with state := .busy })) a.defers := hM2.world (fun d hd b hb => World.putObj_heap_other (by have := (hmk d hd b hb).1; simp only [l]; omega))
    have hM3 : Marks g0 w0 gz W3 a.defers := (hM2'.step r2).turn z3
    obtain ⟨d1, d2⟩ := q2.out w.heap.size (Array.getElem?_eq_some_iff.1 j6).1 j8
    have hD2 : (W2.putObj l (.loop { mkL .ready none with state := .busy })).heap[w.heap.size]? = some (.deferred (some [])) := by rw [World.putObj_heap_other (by simp only [l]; omega), d1]; exact j6
    obtain ⟨d3, d4⟩ := r2.out w.heap.size (Array.getElem?_eq_some_iff.1 hD2).1 d2
    refine ⟨gz, z1.still hst4 (qb9 _ _ _), z2.beyond rfl rfl rfl (qb9 _ _ _) (fun b r hb _ _ => World.putObj_heap_other (by simp only [l]; omega)), hM3.world (fun d hd b hb => World.putObj_heap_other (by have := (hmk d hd b hb).1; simp only [l]; omega)),
     ((((j4.trans (q2.rowsKept j1.dom)).trans (RowsKept.still hst2)).trans (r2.rowsKept (q1.still hst2 (qb9 _ _ _)).dom)).trans z4).trans (RowsKept.still hst4), World.putObj_heap_same (Array.getElem?_eq_some_iff.1 hl3).1, ?_, hlz, z3 _ d4, fun b id hid hb => ?_⟩
    ·rw [World.putObj_heap_other (by simp only [l]; omega), d3]; exact hD2
    ·have hbl := htk b id hid hb
     have hb1 := j9 b id hid hb
     have hlt1 : b < W.heap.size := by omega
     obtain ⟨c1, c2⟩ := q2.out b hlt1 hb1
     exact z3 b (r2.out b (Nat.lt_of_lt_of_le (Nat.lt_of_lt_of_le hlt1 q2.size) (qb9 _ _ _)) c2).2
   ·obtain ⟨id', hid, hgb⟩ := hobjC b id hb
    have hbl := htk b id' hid hgb
    have hlt1 : b < W.heap.size := by omega
    obtain ⟨c1, c2⟩ := q2.out b hlt1 (j9 b id' hid hgb)
    obtain ⟨c3, c4⟩ := r2.out b (Nat.lt_of_lt_of_le (Nat.lt_of_lt_of_le hlt1 q2.size) (qb9 _ _ _)) c2
    rw [World.putObj_heap_other (by simp only [l]; omega), c3, World.putObj_heap_other (by simp only [l]; omega), c1]
  | _ => exact hq.elim
 have hrun := hsq (xm [] ι g) W1 vc l J hdomC (by simpa using l2) hlb hobjs hab hrd hJ0
 refine ⟨l, [{ target := .collected w.heap.size, args := #[] }], W1, { target := .fn (.func gf) vc.toArray, args := #[.func (.yield l) #[] #[]] }, W1, gf, #[.func (.yield l) #[] #[]] ++ vc.toArray, W1, run_enterLoop_outer _ _ _ _ _, ?_, fun _ _ => trivial, ?_, ⟨fun h => Bool.noConfusion h, ?_⟩⟩
 ·simp [resolve, hfv, Deferred.ofValue]
  rfl
 ·cases hfn : P.funcs[gf]? with
  | none => rw [hfn] at hb; simp at hb
  | some fx =>
   rw [hfn] at hb
   simp only [Option.any_some, Bool.and_eq_true] at hb
   obtain ⟨hb1, hb2⟩ := hb
   have hname : fx.body.isNone = false := by cases hbb : fx.body <;> simp [hbb] at hb1 ⊢
   have hng : (fx.name == "runtime.NumGoroutine") = false := by simpa using hb2
   simp only [invoke, callFunc, Sem.run_bind, Sem.run_pure, Result.andThen_ok, run_program, hfn, hname, hng, Bool.false_eq_true, if_false]
 ·refine qng ?_
  refine CallsIn.mono hrun ?_
  rintro e W' ⟨⟨v, rfl⟩, gk, j1, j2, j3, j4, j5, j6, j7, j8, j9⟩
  refine ⟨none, _, run_endLoop j5 (by simp [mkL]), ?_⟩
  generalize ({ mkL .ready none with state := .exhausted } : Loop) = lx
  show R .normal _ (W'.putObj l (.loop lx))
  have hlo : ∀ b, b < w.heap.size + 1 → (W'.putObj l (.loop lx)).heap[b]? = W'.heap[b]? := fun b hb => World.putObj_heap_other (by simp only [l]; omega)
  have hst : ∀ b, gk b ≠ .out → (W'.putObj l (.loop lx)).heap[b]? = W'.heap[b]? := fun b hb => World.putObj_heap_other (fun h => hb (h ▸ j7))
  have j1' := j1.still hst (qb9 _ _ _)
  refine hR gk _ _ ⟨j1'.dom, trivial, j1'.size, j1'.slots, j1'.objs, j1'.inj, j1'.ids, j1'.wf⟩ (j2.beyond rfl rfl rfl (qb9 _ _ _) (fun b r hb _ _ => hlo b (by omega))) ⟨fun d hd => ?_, ?_⟩
  ·rcases List.mem_cons.1 hd with rfl | hd
   ·exact ⟨w.heap.size, rfl, hw0l, j8, (hlo _ (by omega)).trans j6⟩
   ·obtain ⟨b, q1, q2, q3, q4⟩ := j3.one d hd
    exact ⟨b, q1, q2, q3, (hlo b (by have := (hmk d hd b q1).1; omega)).trans q4⟩
  ·refine List.pairwise_cons.2 ⟨fun d hd h => ?_, j3.two⟩
   obtain ⟨b, q1, _⟩ := j3.one d hd
   have := (hmk d hd b q1).1
   rw [q1] at h
   simp at h
   omega
theorem qvs {f : Operand} {f' : Opd} {ps : Array Tmp} {ac bc : Code} {R : Exit → Act → World → Prop} {gf : FuncId} {ibx ib K : Nat} {ins : List Int} {vals : List (List D)} {S : Nat → St} {fr0 : Fr} {QE : St → Prop}
  (hs : SR N T g w st a) (hG : G g0 w0 g w) (hM : Marks g0 w0 g w a.defers) (h0 : ∀ b id, g0 b = .obj id → id < k0)
  (hf : qp f = some f') (h1 : f'.ok st.fr = true) (h2 : f'.get st.fr = .d (.func (.func gf) [] [.ptr ibx 0])) (hseq : xgp P gf ins vals)
  (hK : k0 ≤ K) (hix : ibx < K) (hib : ib < K) (hSx : ∀ k, (S k).os[ibx]? = some (.row [.d (.ptr ib 0)])) (hSb : ∀ k, ∃ rest, (S k).os[ib]? = some (.row (ins.map (fun x => .d (.int .i64 x)) ++ rest)))
  (hne : ins ≠ [])
  (hvl : ∀ vs ∈ vals, vs.length = ps.size ∧ D.noPtrL vs = true) (hps : ∀ p ∈ ps.toList, p < N) (hfr : fr0.plain = true) (hSf : ∀ k, (S k).fr = fr0)
  (hwk : Weak K st (S 0))
  (hround : ∀ k vs, vals[k]? = some vs → ∀ l gk W1 a1, SR N (below (S k).nt) gk W1 { S k with fr := jk ps.toList vs fr0 } a1 → a1.defers = [] →
   ac.wpIn (Fw (some l)) 0 P (Exit.then (fun a2 W2 => ∃ ga st2, SR N (below st2.nt) ga W2 st2 a2 ∧ G gk W1 ga W2 ∧
    ∀ W2', SR N (below st2.nt) ga W2' st2 a2 → bc.wpIn (Fw (some l)) 0 P (fun e a3 W3 => ∃ gb st3, SR N (below st3.nt) gb W3 st3 a3 ∧ G ga W2' gb W3 ∧
     ((e = .normal ∧ Turn K { st3 with fr := fr0 } (S (k + 1))) ∨ (e = .ret ∧ ∃ stE, Turn K { st3 with fr := fr0 } stE ∧ stE.fr = fr0 ∧ QE stE))) a2 W2') (fun _ _ _ => False)) a1 W1)
  (hR : ∀ g' w' a', SR N (below (S vals.length).nt) g' w' (S vals.length) a' → G g0 w0 g' w' → Marks g0 w0 g' w' a'.defers → R .normal a' w')
  (hE : ∀ stE g' w' a', QE stE → SR N (below stE.nt) g' w' stE a' → G g0 w0 g' w' → Marks g0 w0 g' w' a'.defers → R .ret a' w') :
  (Code.rangeFunc f ps ac bc).wpIn (Fw none) 0 P R a w := by
 have h0' : ∀ b id, g0 b = .obj id → id < K := fun b id h => Nat.lt_of_lt_of_le (h0 b id h) hK
 have hrf := xc hs hf h1
 rw [h2] at hrf
 have hrv := wj hrf
 generalize hfv : a.eval f = fv at hrv
 cases hrv with
 | func _ vf vc _ _ l1 l2 r1 r2 =>
 have hvf : vf = [] := List.eq_nil_of_length_eq_zero (by simpa using l1)
 subst hvf
 obtain ⟨vb, rfl⟩ : ∃ vb, vc = [vb] := by
  match vc, l2 with
  | [v], _ => exact ⟨v, rfl⟩
 have hvb := r2 0 vb _ rfl rfl
 cases hvb with
 | ptr bx _ _ hbx =>
 obtain ⟨hb, hsq⟩ := hseq
 have hkx : ∀ k, wx (S k).os ibx = true := fun k => by unfold wx; rw [hSx k]
 have hkb : ∀ k, wx (S k).os ib = true := fun k => by obtain ⟨r, h⟩ := hSb k; unfold wx; rw [h]
 obtain ⟨gA, kA1, kA2, kA3, kA4, kA5, kA6⟩ := hwk.srD hs hG h0'
 have hgx : gA bx = .obj ibx := kA6 bx ibx (hkx 0) hbx
 obtain ⟨bb, hgb⟩ : ∃ bb, gA bb = .obj ib := by
  obtain ⟨rest, h⟩ := hSb 0
  obtain ⟨bb, h, _⟩ := (kA1.objs ib _ h (by simp)).block (by
   cases ins with
   | nil => exact (hne rfl).elim
   | cons x l => simp [AObj.cells])
  exact ⟨bb, h⟩
 refine wpIn_rangeFunc fun fn _ => ?_
 let mkL : LoopState → Option Code → Loop := fun st pe => { state := st, pending := pe, fn, tmps := a.tmps, params := ps, assign := ac, body := bc, defers := w.heap.size }
 let W1 := (w.alloc (.deferred (some []))).alloc (.loop (mkL .ready none))
 let l := w.heap.size + 1
 have hL1 : W1.heap[l]? = some (.loop (mkL .ready none)) := by
  have := World.alloc_heap_new (w.alloc (.deferred (some []))) (.loop (mkL .ready none)); rwa [World.size_alloc] at this
 have hK1 : W1.heap[w.heap.size]? = some (.deferred (some [])) := by
  exact (qaw _ _ _ (by simp)).trans (World.alloc_heap_new w _)
 have hold : ∀ b, b < w.heap.size → W1.heap[b]? = w.heap[b]? := fun b hb => by
  exact (qaw _ _ _ (by simp; omega)).trans (qaw _ _ _ hb)
 have hsz1 : W1.heap.size = w.heap.size + 2 := by simp [W1]
 have hmk : ∀ d ∈ a.defers, ∀ b, d.target = .collected b → b < w.heap.size := by
  intro d hd b hb
  obtain ⟨b', q1, q2, q3, q4⟩ := hM.one d hd
  rw [hb] at q1; cases q1
  exact (Array.getElem?_eq_some_iff.1 q4).1
 have hw0l : w0.heap.size ≤ w.heap.size := hG.size
 let J0 : St → Option Code → LoopState → World → Prop := fun st' pe ls W => ∃ gk, SR N (below st'.nt) gk W st' a ∧ G g0 w0 gk W ∧ Marks g0 w0 gk W a.defers ∧ W.heap[l]? = some (.loop (mkL ls pe)) ∧
  W.heap[w.heap.size]? = some (.deferred (some [])) ∧ gk l = .out ∧ gk w.heap.size = .out ∧ gk bx = .obj ibx ∧ gk bb = .obj ib
 let J : Nat → World → Prop := fun k W => J0 (S k) none .ready W
 let E : World → Prop := fun W => ∃ stE, QE stE ∧ J0 stE (some .ret) .done W
 have hJ0 : J 0 W1 := by
  have hst : ∀ b, gA b ≠ .out → W1.heap[b]? = w.heap[b]? := fun b hb => hold b (by
   rcases Nat.lt_or_ge b w.heap.size with h | h
   ·exact h
   ·exact (hb (kA1.dom.1 b h)).elim)
  exact ⟨gA, kA1.still hst (by omega), kA2.beyond rfl rfl rfl (by omega) (fun b r hb _ _ => hold b (by omega)), (hM.turn kA3).world (fun d hd b hb => hold b (hmk d hd b hb)), hL1, hK1, kA1.dom.1 l (by simp [l]), kA1.dom.1 _ (Nat.le_refl _), hgx, hgb⟩
 have hsee : ∀ k W, J k W → (∃ (c : Array Value) (e : TypeId), W.heap[bx]? = some (.cells c e (0, 0)) ∧ c[0]? = some (.pointer (some ⟨bb, 0, none⟩))) ∧ ∃ (c : Array Value) (e : TypeId), W.heap[bb]? = some (.cells c e (0, 0)) ∧ ∀ (i : Nat) (x : Int), ins[i]? = some x → c[i]? = some (Value.int .i64 x) := by
  rintro k W ⟨gk, j1, j2, j3, j4, j5, j6, j7, j8, j9⟩
  constructor
  ·obtain ⟨b, hb1, c, e, q1, q2, q3⟩ := (j1.objs ibx _ (hSx k) (by simp)).block (by simp [AObj.cells])
   obtain rfl := j1.inj b bx ibx hb1 j8
   obtain ⟨v, v1, _, v3⟩ := q3 0 _ rfl
   have v3 : RV gk W v (.ptr ib 0) := v3
   cases v3 with
   | ptr b2 _ _ hb2 =>
    obtain rfl := j1.inj b2 bb ib hb2 j9
    exact ⟨c, e, q1, v1⟩
  ·obtain ⟨rest, hS⟩ := hSb k
   obtain ⟨b, hb1, c, e, q1, q2, q3⟩ := (j1.objs ib _ hS (by simp)).block (by
    cases ins with
    | nil => exact (hne rfl).elim
    | cons x l => simp [AObj.cells])
   obtain rfl := j1.inj b bb ib hb1 j9
   refine ⟨c, e, q1, fun i x hx => ?_⟩
   have hil : i < ins.length := (List.getElem?_eq_some_iff.1 hx).1
   obtain ⟨v, v1, _, v3⟩ := q3 i (.d (.int .i64 x)) (by rw [List.getElem?_append_left (by simpa using hil), List.getElem?_map, hx]; rfl)
   have v3 : RV gk W v (.int .i64 x) := v3
   rw [vg v3] at v1
   exact v1
 have hrd : ∀ (k : Nat) (ds : List D) (vs : List Value) (W : World), vals[k]? = some ds → J k W → vs.length = ds.length → (∀ (i : Nat) (v : Value) (d : D), vs[i]? = some v → ds[i]? = some d → RV (fun _ => .out) W v d) →
   q5m (Fw none) 0 P l vs.toArray W fun e W' => (e = .returned (.bool true) ∧ J (k + 1) W') ∨ (e = .returned (.bool false) ∧ E W') := by
  rintro k ds vs W hk ⟨gk, j1, j2, j3, j5, j6, j7, j8, j9, j10⟩ hvs hrv
  obtain ⟨hdl, hdn⟩ := hvl ds (List.mem_of_getElem? hk)
  have hy := run_yield (P := P) (args := vs.toArray) j5 (by simp [mkL]; omega)
  refine ⟨fn, _, ac, bc, hy, roundIn_of_wpIn (F := Fw none) trivial ?_⟩
  have hfold : (ps.zip vs.toArray).foldl (fun t (x : Nat × Value) => t.setIfInBounds x.1 x.2) a.tmps = (ps.toList.zip vs).foldl (fun t (x : Nat × Value) => t.setIfInBounds x.1 x.2) a.tmps := by
   rw [← Array.foldl_toList, Array.toList_zip]
  have hrc : RowsKept (fun _ => .out) W gk W := by
   intro b n o hb
   cases hb
  have hf0 : FrRV gk W fr0 a.tmps := by
   have := xbk j1
   rwa [hSf k] at this
  have hpl := qen ps.toList ds fr0 hfr
  have hsz : ((ps.toList.zip vs).foldl (fun t (x : Nat × Value) => t.setIfInBounds x.1 x.2) a.tmps).size = N := by rw [ql1]; exact j1.size
  have hs1 : SR N (below (S k).nt) gk W { S k with fr := jk ps.toList ds fr0 } { tmps := (ps.toList.zip vs).foldl (fun t (x : Nat × Value) => t.setIfInBounds x.1 x.2) a.tmps, defers := [] } :=
   j1.plain hpl hsz (qvr ps.toList ds vs fr0 a.tmps (by simpa using hdl) (by simp; omega) (fun p hp => by rw [j1.size]; exact hps p hp) hf0
    (fun i v d hv hd => (hrv i v d hv hd).mono_noPtr hrc ((D.noPtrL_iff ds).1 hdn d (List.mem_of_getElem? hd))))
  have hwp := hround k ds hk l gk W _ hs1 rfl
  simp only [mkL]
  rw [hfold]
  refine wpIn_mono hwp ?_
  intro e a2 W2 hq
  cases e with
  | normal =>
   obtain ⟨ga, st2, q1, q2, q3⟩ := hq
   have hlt : l < W.heap.size := (Array.getElem?_eq_some_iff.1 j5).1
   obtain ⟨e1, e2⟩ := q2.out l hlt j7
   have hl2 : W2.heap[l]? = some (.loop (mkL .ready none)) := by rw [e1]; exact j5
   refine ⟨_, run_beginRound hl2 rfl, ?_⟩
   have hst2 : ∀ b, ga b ≠ .out → (W2.putObj l (.loop { mkL .ready none with state := .busy })).heap[b]? = W2.heap[b]? := fun b hb => World.putObj_heap_other (fun h => hb (h ▸ e2))
   refine wpIn_mono (q3 _ (q1.still hst2 (qb9 _ _ _))) ?_
   rintro e a3 W3 ⟨gb, st3, r1, r2, r3⟩
   have hl2' : (W2.putObj l (.loop { mkL .ready none with state := .busy })).heap[l]? = some (.loop { mkL .ready none with state := .busy }) := World.putObj_heap_same (Array.getElem?_eq_some_iff.1 hl2).1
   obtain ⟨f1, f2⟩ := r2.out l (Array.getElem?_eq_some_iff.1 hl2').1 e2
   have hl3 : W3.heap[l]? = some (.loop { mkL .ready none with state := .busy }) := by rw [f1]; exact hl2'
   have hG2 : G g0 w0 ga W2 := j2.trans q2
   have hG2' : G g0 w0 ga (W2.putObj l (.loop { mkL .ready none with state := .busy })) := hG2.beyond rfl rfl rfl (qb9 _ _ _) (fun b r hb _ _ => World.putObj_heap_other (by simp only [l]; omega))
   have hG3 : G g0 w0 gb W3 := hG2'.trans r2
   have hfr3 : FrRV gb W3 fr0 a.tmps := (((hf0.mono j1.dom q2).still hst2).mono (q1.still hst2 (qb9 _ _ _)).dom r2)
   have hs3 : SR N (below st3.nt) gb W3 { st3 with fr := fr0 } a := r1.plain hfr j1.size hfr3
   have hM2 : Marks g0 w0 ga W2 a.defers := j3.step q2
   have hM2' : Marks g0 w0 ga (W2.putObj l (.loop { mkL .ready none with state := .busy })) a.defers := hM2.world (fun d hd b hb => World.putObj_heap_other (by have := hmk d hd b hb; simp only [l]; omega))
   obtain ⟨d1, d2⟩ := q2.out w.heap.size (Array.getElem?_eq_some_iff.1 j6).1 j8
   have hD2 : (W2.putObj l (.loop { mkL .ready none with state := .busy })).heap[w.heap.size]? = some (.deferred (some [])) := by rw [World.putObj_heap_other (by simp only [l]; omega), d1]; exact j6
   obtain ⟨d3, d4⟩ := r2.out w.heap.size (Array.getElem?_eq_some_iff.1 hD2).1 d2
   have hx2 := (q2.obj bx ibx (j1.dom.lt_obj j9) j9).1
   have hb2 := (q2.obj bb ib (j1.dom.lt_obj j10) j10).1
   have hx3 := (r2.obj bx ibx (Nat.lt_of_lt_of_le (q1.dom.lt_obj hx2) (qb9 _ _ _)) hx2).1
   have hb3 := (r2.obj bb ib (Nat.lt_of_lt_of_le (q1.dom.lt_obj hb2) (qb9 _ _ _)) hb2).1
   have next : ∀ (stE : St) (pe : Option Code) (ls : LoopState), Turn K { st3 with fr := fr0 } stE → J0 stE pe ls (W3.putObj l (.loop (mkL ls pe))) := by
    intro stE pe ls ht
    obtain ⟨gz, z1, z2, z3, z4, z5⟩ := ht.rows hs3 hG3 h0'
    have hlz : gz l = .out := z3 l f2
    have hst4 : ∀ b, gz b ≠ .out → (W3.putObj l (.loop (mkL ls pe))).heap[b]? = W3.heap[b]? := fun b hb => World.putObj_heap_other (fun h => hb (h ▸ hlz))
    have hM3 : Marks g0 w0 gz W3 a.defers := (hM2'.step r2).turn z3
    refine ⟨gz, z1.still hst4 (qb9 _ _ _), z2.beyond rfl rfl rfl (qb9 _ _ _) (fun b r hb _ _ => World.putObj_heap_other (by simp only [l]; omega)), hM3.world (fun d hd b hb => World.putObj_heap_other (by have := hmk d hd b hb; simp only [l]; omega)),
     World.putObj_heap_same (Array.getElem?_eq_some_iff.1 hl3).1, ?_, hlz, z3 _ d4, z5 bx ibx hix hx3, z5 bb ib hib hb3⟩
    rw [World.putObj_heap_other (by simp only [l]; omega), d3]; exact hD2
   rcases r3 with ⟨rfl, ht⟩ | ⟨rfl, stE, ht, hfE, hQ⟩
   ·exact ⟨_, _, run_endRound none hl3, .inl ⟨rfl, next _ none .ready ht⟩⟩
   ·exact ⟨_, _, run_endRound (some .ret) hl3, .inr ⟨rfl, stE, hQ, next _ (some .ret) .done ht⟩⟩
  | _ => exact hq.elim
 have hrun := hsq W1 bx bb l J E hsee hrd hJ0
 refine ⟨l, [{ target := .collected w.heap.size, args := #[] }], W1, { target := .fn (.func gf) #[.pointer (some ⟨bx, 0, none⟩)], args := #[.func (.yield l) #[] #[]] }, W1, gf, #[.func (.yield l) #[] #[]] ++ #[.pointer (some ⟨bx, 0, none⟩)], W1, run_enterLoop_outer _ _ _ _ _, ?_, fun _ _ => trivial, ?_, ⟨fun h => Bool.noConfusion h, ?_⟩⟩
 ·simp [resolve, hfv, Deferred.ofValue]
  rfl
 ·cases hfn : P.funcs[gf]? with
  | none => rw [hfn] at hb; simp at hb
  | some fx =>
   rw [hfn] at hb
   simp only [Option.any_some, Bool.and_eq_true] at hb
   obtain ⟨hb1, hb2⟩ := hb
   have hname : fx.body.isNone = false := by cases hbb : fx.body <;> simp [hbb] at hb1 ⊢
   have hng : (fx.name == "runtime.NumGoroutine") = false := by simpa using hb2
   simp only [invoke, callFunc, Sem.run_bind, Sem.run_pure, Result.andThen_ok, run_program, hfn, hname, hng, Bool.false_eq_true, if_false]
 ·refine qng ?_
  refine CallsIn.mono hrun ?_
  have out : ∀ {st' : St} {pe : Option Code} {ls : LoopState} {W' : World}, J0 st' pe ls W' → (mkL ls pe).state ≠ .busy → ∃ w4, (Instr.endLoop l).run P W' = .ok pe w4 ∧
    ∃ gk, SR N (below st'.nt) gk w4 st' { a with defers := [{ target := .collected w.heap.size, args := #[] }] ++ a.defers } ∧ G g0 w0 gk w4 ∧ Marks g0 w0 gk w4 ([{ target := .collected w.heap.size, args := #[] }] ++ a.defers) := by
   rintro st' pe ls W' ⟨gk, j1, j2, j3, j5, j6, j7, j8, j9, j10⟩ hbz
   refine ⟨_, run_endLoop j5 hbz, ?_⟩
   generalize ({ mkL ls pe with state := .exhausted } : Loop) = lx
   have hlo : ∀ b, b < w.heap.size + 1 → (W'.putObj l (.loop lx)).heap[b]? = W'.heap[b]? := fun b hb => World.putObj_heap_other (by simp only [l]; omega)
   have hst : ∀ b, gk b ≠ .out → (W'.putObj l (.loop lx)).heap[b]? = W'.heap[b]? := fun b hb => World.putObj_heap_other (fun h => hb (h ▸ j7))
   have j1' := j1.still hst (qb9 _ _ _)
   refine ⟨gk, ⟨j1'.dom, trivial, j1'.size, j1'.slots, j1'.objs, j1'.inj, j1'.ids, j1'.wf⟩, j2.beyond rfl rfl rfl (qb9 _ _ _) (fun b r hb _ _ => hlo b (by omega)), ⟨fun d hd => ?_, ?_⟩⟩
   ·rcases List.mem_cons.1 hd with rfl | hd
    ·exact ⟨w.heap.size, rfl, hw0l, j8, (hlo _ (by omega)).trans j6⟩
    ·obtain ⟨b, q1, q2, q3, q4⟩ := j3.one d hd
     exact ⟨b, q1, q2, q3, (hlo b (by have := hmk d hd b q1; omega)).trans q4⟩
   ·refine List.pairwise_cons.2 ⟨fun d hd h => ?_, j3.two⟩
    obtain ⟨b, q1, _⟩ := j3.one d hd
    have := hmk d hd b q1
    rw [q1] at h
    simp at h
    omega
  rintro e W' ⟨⟨v, rfl⟩, hj | ⟨stE, hQ, hj⟩⟩
  ·obtain ⟨w4, e1, gk, e2, e3, e4⟩ := out hj (by simp [mkL])
   exact ⟨none, w4, e1, hR gk w4 _ e2 e3 e4⟩
  ·obtain ⟨w4, e1, gk, e2, e3, e4⟩ := out hj (by simp [mkL])
   exact ⟨some .ret, w4, e1, wpIn_ret (hE stE gk w4 _ hQ e2 e3 e4)⟩
end
end Go.Abs
namespace Go.Abs
def qit (K : St → Prop) (Q : SExit → St → Prop) : SExit → St → Prop
 | .normal, st => K st
 | .exit id, st => Q (.exit id) st
 | .ret, st => Q .ret st
def qy1 (id : Nat) (Q : SExit → St → Prop) : SExit → St → Prop
 | .normal, st => Q .normal st
 | .exit id', st => if id' = id then Q .normal st else Q (.exit id') st
 | .ret, st => Q .ret st
def rndQ (K : Nat) (fr0 : Fr) (nx : St) (Q : SExit → St → Prop) : SExit → St → Prop
 | .normal, st => Turn K { st with fr := fr0 } nx
 | .exit _, _ => False
 | .ret, st => ∃ stE, Turn K { st with fr := fr0 } stE ∧ stE.fr = fr0 ∧ Q .ret stE
def xla (c : Opd) (st : St) (t : Bool) : Prop := c.ok st.fr = true ∧ c.get st.fr = .d (.bool t)
def AWp (P : Program) : Nat → SCode → (SExit → St → Prop) → St → Prop
 | _, .skip, Q, st => Q .normal st
 | _, .region ops objs pairs, Q, st => xbc P ops objs pairs (Q .normal) st
 | k0, .seq a b, Q, st => AWp P k0 a (qit (AWp P k0 b Q) Q) st
 | k0, .cond c a b, Q, st => ∃ t, xla c st t ∧ (t = true → AWp P k0 a Q st) ∧ (t = false → AWp P k0 b Q st)
 | k0, .block id a, Q, st => AWp P k0 a (qy1 id Q) st
 | k0, .loop a, Q, st => ∃ (α : Type) (S : α → St) (μ : α → Nat) (x0 : α), Turn k0 st (S x0) ∧
   ∀ x, AWp P k0 a (qit (fun st' => ∃ y, Turn k0 st' (S y) ∧ μ y < μ x) Q) (S x)
 | _, .exit id, Q, st => Q (.exit id) st
 | _, .ret, Q, st => Q .ret st
 | k0, .pause a, Q, st => ∃ st', Turn k0 st st' ∧ AWp P k0 a Q st'
 | k0, .rangeFunc f ps a b, Q, st => (∃ (gf : FuncId) (caps : List D) (ι : List Nat) (fo : List AObj) (vals : List (List D)) (S : Nat → St) (fr0 : Fr),
   (f.ok st.fr = true ∧ f.get st.fr = .d (.func (.func gf) [] (caps.map (D.ren ι))) ∧ ASeq P gf caps fo vals ∧ (∀ d ∈ caps, d.inK fo.length = true) ∧ ι.Nodup ∧ ι.length = fo.length ∧ qdq ι st.os ι fo ∧ fo.all (AObj.inK fo.length) = true ∧
    (∀ id ∈ ι, k0 ≤ id) ∧ (∀ vs ∈ vals, vs.length = ps.length ∧ D.noPtrL vs = true) ∧ fr0.plain = true ∧ (∀ k, (S k).fr = fr0) ∧ (∀ k id, id ∈ ι → wx (S k).os id = false) ∧ Weak k0 st (S 0)) ∧
   (∀ k vs, vals[k]? = some vs → AWp P (S k).os.length a (qit (fun st2 => AWp P st2.os.length b (qit (fun st3 => Turn k0 { st3 with fr := fr0 } (S (k + 1))) (fun _ _ => False)) st2) (fun _ _ => False)) { S k with fr := jk ps vs fr0 }) ∧
   Q .normal (S vals.length)) ∨
  ∃ (gf : FuncId) (ibx ib K : Nat) (ins : List Int) (vals : List (List D)) (S : Nat → St) (fr0 : Fr),
   (f.ok st.fr = true ∧ f.get st.fr = .d (.func (.func gf) [] [.ptr ibx 0]) ∧ xgp P gf ins vals ∧ k0 ≤ K ∧ ibx < K ∧ ib < K ∧ (∀ k, (S k).os[ibx]? = some (.row [.d (.ptr ib 0)])) ∧
    (∀ k, ∃ rest, (S k).os[ib]? = some (.row (ins.map (fun x => .d (.int .i64 x)) ++ rest))) ∧ ins ≠ [] ∧ (∀ vs ∈ vals, vs.length = ps.length ∧ D.noPtrL vs = true) ∧ fr0.plain = true ∧ (∀ k, (S k).fr = fr0) ∧ Weak K st (S 0)) ∧
   (∀ k vs, vals[k]? = some vs → AWp P (S k).os.length a (qit (fun st2 => AWp P st2.os.length b (rndQ K fr0 (S (k + 1)) Q) st2) (fun _ _ => False)) { S k with fr := jk ps vs fr0 }) ∧
   Q .normal (S vals.length)
def SExit.real : SExit → Exit
 | .normal => .normal
 | .exit id => .exit id
 | .ret => .ret
theorem ARun.mono {P : Program} : ∀ {ops : List SOper} {k : Nat} {tids : List (List Nat)} {K K' : List (List Nat) → St → Prop} {st : St}, (∀ t s, K t s → K' t s) → ARun P ops k tids K st → ARun P ops k tids K' st
 | [], k, tids, K, K', st, h, hr => h _ _ hr
 | o :: ops, k, tids, K, K', st, h, hr => by
  simp only [ARun] at hr ⊢
  cases hg : gv st.fr o.guard with
  | none => rw [hg] at hr; exact hr.elim
  | some g =>
   rw [hg] at hr
   simp only at hr ⊢
   cases hop : o.op with
   | call f args =>
    rw [hop] at hr
    obtain ⟨n, as, fa, r, fo, fo', ι, qb, r1, r2, r3, r4⟩ := hr
    exact ⟨n, as, fa, r, fo, fo', ι, qb, r1, r2, r3, r4.mono h⟩
   | eqnilS neg x =>
    rw [hop] at hr
    obtain ⟨r1, r2, es, rows, r3, r4⟩ := hr
    exact ⟨r1, r2, es, rows, r3, fun b hb => (r4 b hb).mono h⟩
   | nextM x =>
    rw [hop] at hr
    obtain ⟨r1, r2, iid, r3, r4⟩ := hr
    refine ⟨r1, r2, iid, r3, ?_⟩
    rcases r4 with ⟨since, seen, last, r5, r6⟩ | ⟨mid, since, seen, last, es, clock, r5, r6, r7⟩
    ·exact .inl ⟨since, seen, last, r5, r6.mono h⟩
    ·exact .inr ⟨mid, since, seen, last, es, clock, r5, fun hl => (r6 hl).mono h, fun e he => (r7 e he).mono h⟩
   | appendR back es bytes s x =>
    rw [hop] at hr
    obtain ⟨r1, r2⟩ := hr
    refine ⟨r1, ?_⟩
    rcases r2 with ⟨r3, r4⟩ | ⟨o1, o2, id, n, r, k1, k2, k3, k4, k5⟩
    ·exact .inl ⟨r3, r4.mono h⟩
    ·exact .inr ⟨o1, o2, id, n, r, k1, k2, k3, k4.mono h, k5.mono h⟩
   | callT f args =>
    rw [hop] at hr
    obtain ⟨r1, n, as, fa, r, fo, fo', ι, H, R, r2, r3⟩ := hr
    exact ⟨r1, n, as, fa, r, fo, fo', ι, H, R, r2, r3.mono h⟩
   | entryM x =>
    rw [hop] at hr
    obtain ⟨r1, r2, iid, mid, since, seen, clock, es, e, r3, r4, r5⟩ := hr
    exact ⟨r1, r2, iid, mid, since, seen, clock, es, e, r3, r4, r5.mono h⟩
   | _ =>
    rw [hop] at hr
    exact ⟨hr.1, hr.2.mono h⟩
theorem qfy {K K' : St → Prop} {Q Q' : SExit → St → Prop} (hK : ∀ s, K s → K' s) (hQ : ∀ e s, Q e s → Q' e s) : ∀ e s, qit K Q e s → qit K' Q' e s
 | .normal, s, h => hK s h
 | .exit _, s, h => hQ _ s h
 | .ret, s, h => hQ _ s h
theorem AWp.mono {P : Program} : ∀ {k0 : Nat} (c : SCode) {Q Q' : SExit → St → Prop} {st : St}, (∀ e s, Q e s → Q' e s) → AWp P k0 c Q st → AWp P k0 c Q' st
 | _, .skip, Q, Q', st, h, hr => h _ _ hr
 | _, .region ops objs pairs, Q, Q', st, h, hr => ARun.mono (fun _ _ hq => ⟨hq.1, h _ _ hq.2⟩) hr
 | _, .seq a b, Q, Q', st, h, hr => AWp.mono a (qfy (fun s hs => AWp.mono b h hs) h) hr
 | _, .cond c a b, Q, Q', st, h, hr => by
  obtain ⟨t, h1, h2, h3⟩ := hr
  exact ⟨t, h1, fun ht => AWp.mono a h (h2 ht), fun ht => AWp.mono b h (h3 ht)⟩
 | _, .block id a, Q, Q', st, h, hr => AWp.mono a (fun e s hs => by
   cases e with
   | normal => exact h _ _ hs
   | exit id' => simp only [qy1] at hs ⊢; grind
   | ret => exact h _ _ hs) hr
 | _, .loop a, Q, Q', st, h, hr => by
  obtain ⟨α, S, μ, x0, h1, h2⟩ := hr
  exact ⟨α, S, μ, x0, h1, fun x => AWp.mono a (qfy (fun _ hs => hs) h) (h2 x)⟩
 | _, .exit id, Q, Q', st, h, hr => h _ _ hr
 | _, .ret, Q, Q', st, h, hr => h _ _ hr
 | _, .pause a, Q, Q', st, h, hr => by
  obtain ⟨st', h1, h2⟩ := hr
  exact ⟨st', h1, AWp.mono a h h2⟩
 | _, .rangeFunc f ps a b, Q, Q', st, h, hr => by
  rcases hr with ⟨gf, caps, ι, fo, vals, S, fr0, h1, h2, h3⟩ | ⟨gf, ibx, ib, K, ins, vals, S, fr0, h1, h2, h3⟩
  ·exact .inl ⟨gf, caps, ι, fo, vals, S, fr0, h1, h2, h _ _ h3⟩
  ·refine .inr ⟨gf, ibx, ib, K, ins, vals, S, fr0, h1, fun k vs hk => AWp.mono a (qfy (fun s hs => AWp.mono b (fun e s' hs' => ?_) hs) (fun _ _ h => h)) (h2 k vs hk), h _ _ h3⟩
   cases e with
   | normal => exact hs'
   | exit id => exact hs'
   | ret =>
    obtain ⟨stE, q1, q2, q3⟩ := hs'
    exact ⟨stE, q1, q2, h _ _ q3⟩
section
variable {P : Program} {mu : List Nat} {N k0 : Nat} {g g0 : Ghost} {w w0 : World} {st : St} {a : Act}
theorem xbm {c : Operand} {c' : Opd} {t : Bool} {T : Nat → Prop} (hs : SR N T g w st a) (hc : qp c = some c') (h : xla c' st t) : a.eval c = .bool t := by
 have := xc hs hc h.1
 rw [h.2] at this
 exact y9 (wj this)
theorem qcr {F : Fence} {nn : Nat} {c : Code} {Q : Exit → Act → World → Prop} (J : Nat → Act → World → Prop) {n0 : Nat} (h0 : J n0 a w)
  (round : ∀ n a w, J n a w → c.wpIn F nn P (Exit.then (fun a' w' => ∃ m, m < n ∧ J m a' w') Q) a w) : (Code.loop c).wpIn F nn P Q a w := by
 intro b k cs hbr hb hr
 have key : ∀ n a w, J n a w → ∃ e a' w', Q e a' w' ∧ ArrivesIn (Machine.fenced P F) P (lone (b.atR a (.code c :: .inLoop c :: k)) cs w) b k cs e a' w' := by
  intro n
  induction n using Nat.strongRecOn with
  | _ n ih =>
   intro a w hI
   obtain ⟨e, a₁, w₁, hq, harr⟩ := round n a w hI b (.inLoop c :: k) cs hbr hb hr
   cases e with
   | normal =>
    obtain ⟨m, hlt, hI₁⟩ := hq
    obtain ⟨e₂, a₂, w₂, hq₂, harr₂⟩ := ih m hlt a₁ w₁ hI₁
    exact ⟨e₂, a₂, w₂, hq₂, .of_steps (StepsIn.trans harr (.one (fenced_calm hb hr rfl) stepR_inLoop)) harr₂⟩
   | exit id => exact ⟨_, a₁, w₁, hq, .pass (x := .inLoop c) rfl (fun _ _ => .inl (by simp)) harr⟩
   | goto l => exact ⟨_, a₁, w₁, hq, .pass (x := .inLoop c) rfl (fun _ _ => .inl (by simp)) harr⟩
   | ret => exact ⟨_, a₁, w₁, hq, .pass (x := .inLoop c) rfl (fun _ _ => .inl (by simp)) harr⟩
   | panic ch => exact ⟨_, a₁, w₁, hq, .pass (x := .inLoop c) rfl (fun _ _ => .inl (by simp)) harr⟩
   | outgrown => exact ⟨_, a₁, w₁, hq, .pass (x := .inLoop c) rfl (fun _ _ => .inl (by simp)) harr⟩
 obtain ⟨e, a', w', hq, harr⟩ := key n0 a w h0
 exact ⟨e, a', w', hq, .of_steps (.one (fenced_calm hb hr rfl) stepR_loop) harr⟩
def SCode.core : SCode → SCode
 | .pause a => a.core
 | c => c
theorem qtk : ∀ c : SCode, c.core.erase = c.erase
 | .pause a => qtk a
 | .skip => rfl
 | .region .. => rfl
 | .seq .. => rfl
 | .cond .. => rfl
 | .block .. => rfl
 | .loop .. => rfl
 | .exit .. => rfl
 | .ret => rfl
 | .rangeFunc .. => rfl
theorem q5n : ∀ (c a : SCode), c.core ≠ .pause a
 | .pause b, a => q5n b a
 | .skip, _ => by simp [SCode.core]
 | .region .., _ => by simp [SCode.core]
 | .seq .., _ => by simp [SCode.core]
 | .cond .., _ => by simp [SCode.core]
 | .block .., _ => by simp [SCode.core]
 | .loop .., _ => by simp [SCode.core]
 | .exit .., _ => by simp [SCode.core]
 | .ret, _ => by simp [SCode.core]
 | .rangeFunc .., _ => by simp [SCode.core]
theorem AWp.core {P : Program} {k0 : Nat} {Q : SExit → St → Prop} : ∀ {c : SCode} {st : St}, AWp P k0 c Q st → ∃ st', Turn k0 st st' ∧ AWp P k0 c.core Q st'
 | .pause a, st, h => by
  obtain ⟨st1, h1, h2⟩ := h
  obtain ⟨st2, h3, h4⟩ := AWp.core (c := a) h2
  exact ⟨st2, h1.trans h3, h4⟩
 | .skip, st, h => ⟨st, .refl st, h⟩
 | .region .., st, h => ⟨st, .refl st, h⟩
 | .seq .., st, h => ⟨st, .refl st, h⟩
 | .cond .., st, h => ⟨st, .refl st, h⟩
 | .block .., st, h => ⟨st, .refl st, h⟩
 | .loop .., st, h => ⟨st, .refl st, h⟩
 | .exit .., st, h => ⟨st, .refl st, h⟩
 | .ret, st, h => ⟨st, .refl st, h⟩
 | .rangeFunc .., st, h => ⟨st, .refl st, h⟩
def MarksR : Option Nat → Ghost → World → Ghost → World → List Deferred → Prop
 | none, g0, w0, g, w, ds => Marks g0 w0 g w ds
 | some _, _, _, _, _, ds => ds = []
theorem MarksR.step {ro : Option Nat} {g g' g0 : Ghost} {w w' w0 : World} {ds : List Deferred} (h : MarksR ro g0 w0 g w ds) (hG : G g w g' w') : MarksR ro g0 w0 g' w' ds := by
 cases ro with
 | none => exact Marks.step h hG
 | some l => exact h
theorem MarksR.turn {ro : Option Nat} {g g' g0 : Ghost} {w w0 : World} {ds : List Deferred} (h : MarksR ro g0 w0 g w ds) (ho : ∀ b, g b = .out → g' b = .out) : MarksR ro g0 w0 g' w ds := by
 cases ro with
 | none => exact Marks.turn h ho
 | some l => exact h
theorem q79 {news : List (FuncId × Nat)} (hm : P.follows .mixedOrders = true) : ∀ (c : Code) (ro : Option Nat) (k0 : Nat) (g0 : Ghost) (w0 : World) (sc : SCode) (Q : SExit → St → Prop) (R : Exit → Act → World → Prop) (st : St) (g : Ghost) (w : World) (a : Act),
  (ro = none ∨ wp c = true) → (∀ b id, g0 b = .obj id → id < k0) → zm P mu N news c = some sc.erase → AWp P k0 sc Q st → SR N (below st.nt) g w st a → G g0 w0 g w → MarksR ro g0 w0 g w a.defers →
  (∀ e st' g' w' a', Q e st' → SR N (below st'.nt) g' w' st' a' → G g0 w0 g' w' → MarksR ro g0 w0 g' w' a'.defers → R e.real a' w') → c.wpIn (Fw ro) 0 P R a w := by
 intro c
 have pre : ∀ {ro : Option Nat} {k0 : Nat} {g0 : Ghost} {w0 : World}, (∀ b id, g0 b = .obj id → id < k0) → ∀ {sc : SCode} {Q : SExit → St → Prop} {st : St} {g : Ghost} {w : World} {a : Act}, AWp P k0 sc Q st → SR N (below st.nt) g w st a → G g0 w0 g w → MarksR ro g0 w0 g w a.defers →
   ∃ sc' st' g', sc'.erase = sc.erase ∧ (∀ x, sc' ≠ .pause x) ∧ AWp P k0 sc' Q st' ∧ SR N (below st'.nt) g' w st' a ∧ G g0 w0 g' w ∧ MarksR ro g0 w0 g' w a.defers := by
  intro ro k0 g0 w0 h0 sc Q st g w a h hs hG hM
  obtain ⟨st', h1, h2⟩ := h.core
  obtain ⟨g', h3, h4, h5⟩ := h1.sr hs hG h0
  exact ⟨sc.core, st', g', qtk sc, q5n sc, h2, h3, h4, hM.turn h5⟩
 induction c with
 | skip =>
  intro ro k0 g0 w0 sc Q R st g w a hfl h0 hc h hs hG hM hR
  simp only [zm, Option.some.injEq] at hc
  obtain ⟨sc', st', g', he, hnp, h, hs, hG, hM⟩ := pre h0 h hs hG hM
  rw [← hc] at he
  cases sc' <;> simp only [SCode.erase, reduceCtorEq] at he <;> first | exact wpIn_skip (hR .normal st' g' w a h hs hG hM) | grind
 | region id ops draw =>
  intro ro k0 g0 w0 sc Q R st g w a hfl h0 hc h hs hG hM hR
  simp only [zm, Option.map_eq_some_iff] at hc
  obtain ⟨⟨sops, objs, pairs⟩, h1, hc⟩ := hc
  obtain ⟨sc', st', g', he, hnp, h, hs, hG, hM⟩ := pre h0 h hs hG hM
  rw [← hc] at he
  cases sc' with
  | region a1 a2 a3 =>
   simp only [SCode.erase, SCode.region.injEq] at he
   obtain ⟨rfl, rfl, rfl⟩ := he
   exact xbg hm h1 hs h (fun st' g' w' a' hdf hK hG' hs' => hR .normal st' g' w' a' hK hs' (hG.trans hG') (by rw [hdf]; exact hM.step hG'))
  | pause x => grind
  | _ => grind [SCode.erase]
 | seq x y ix iy =>
  intro ro k0 g0 w0 sc Q R st g w a hfl h0 hc h hs hG hM hR
  simp only [zm] at hc
  split at hc
  ·rename_i x' y' hx hy
   simp only [Option.some.injEq] at hc
   obtain ⟨sc', st, g, he, hnp, h, hs, hG, hM⟩ := pre h0 h hs hG hM
   rw [← hc] at he
   cases sc' <;> simp only [SCode.erase, reduceCtorEq] at he <;> first | exact (hnp _ rfl).elim | skip
   rename_i X Y
   simp only [SCode.seq.injEq] at he
   obtain ⟨rfl, rfl⟩ := he
   have hfx : (ro = none ∨ wp x = true) ∧ (ro = none ∨ wp y = true) := by
    rcases hfl with h | h
    ·grind
    ·simp only [wp, Bool.and_eq_true] at h; grind
   refine wpIn_seq (ix ro k0 g0 w0 X _ _ st g w a hfx.1 h0 hx h hs hG hM (fun e st' g' w' a' hq hs' hG' hM' => ?_))
   cases e with
   | normal => exact iy ro k0 g0 w0 Y Q R st' g' w' a' hfx.2 h0 hy hq hs' hG' hM' hR
   | exit id => exact hR (.exit id) st' g' w' a' hq hs' hG' hM'
   | ret => exact hR .ret st' g' w' a' hq hs' hG' hM'
  grind
 | cond c x y ix iy =>
  intro ro k0 g0 w0 sc Q R st g w a hfl h0 hc h hs hG hM hR
  simp only [zm] at hc
  split at hc
  ·rename_i c' x' y' hcc hx hy
   simp only [Option.some.injEq] at hc
   obtain ⟨sc', st, g, he, hnp, h, hs, hG, hM⟩ := pre h0 h hs hG hM
   rw [← hc] at he
   cases sc' <;> simp only [SCode.erase, reduceCtorEq] at he <;> first | exact (hnp _ rfl).elim | skip
   rename_i C X Y
   simp only [SCode.cond.injEq] at he
   obtain ⟨rfl, rfl, rfl⟩ := he
   obtain ⟨t, h1, h2, h3⟩ := h
   have hfx : (ro = none ∨ wp x = true) ∧ (ro = none ∨ wp y = true) := by
    rcases hfl with h | h
    ·grind
    ·simp only [wp, Bool.and_eq_true] at h; grind
   refine wpIn_cond_split (xbm hs hcc h1) (fun ht => ix ro k0 g0 w0 X Q R st g w a hfx.1 h0 hx (h2 ht) hs hG hM hR) (fun ht => iy ro k0 g0 w0 Y Q R st g w a hfx.2 h0 hy (h3 ht) hs hG hM hR)
  grind
 | block id x ix =>
  intro ro k0 g0 w0 sc Q R st g w a hfl h0 hc h hs hG hM hR
  simp only [zm, Option.map_eq_some_iff] at hc
  obtain ⟨x', hx, hc⟩ := hc
  obtain ⟨sc', st, g, he, hnp, h, hs, hG, hM⟩ := pre h0 h hs hG hM
  rw [← hc] at he
  cases sc' <;> simp only [SCode.erase, reduceCtorEq] at he <;> first | exact (hnp _ rfl).elim | skip
  rename_i i X
  simp only [SCode.block.injEq] at he
  obtain ⟨rfl, rfl⟩ := he
  refine wpIn_block (ix ro k0 g0 w0 X _ _ st g w a hfl h0 hx h hs hG hM (fun e st' g' w' a' hq hs' hG' hM' => ?_))
  cases e with
  | normal => exact hR .normal st' g' w' a' hq hs' hG' hM'
  | exit id' =>
   simp only [qy1] at hq
   simp only [SExit.real, Exit.inBlock]
   split
   ·rename_i hi
    rw [if_pos hi] at hq
    exact hR .normal st' g' w' a' hq hs' hG' hM'
   ·rename_i hi
    rw [if_neg hi] at hq
    exact hR (.exit id') st' g' w' a' hq hs' hG' hM'
  | ret => exact hR .ret st' g' w' a' hq hs' hG' hM'
 | loop x ix =>
  intro ro k0 g0 w0 sc Q R st g w a hfl h0 hc h hs hG hM hR
  simp only [zm, Option.map_eq_some_iff] at hc
  obtain ⟨x', hx, hc⟩ := hc
  obtain ⟨sc', st, g, he, hnp, h, hs, hG, hM⟩ := pre h0 h hs hG hM
  rw [← hc] at he
  cases sc' <;> simp only [SCode.erase, reduceCtorEq] at he <;> first | exact (hnp _ rfl).elim | skip
  rename_i X
  simp only [SCode.loop.injEq] at he
  subst he
  obtain ⟨α, S, μ, x0, h1, h2⟩ := h
  obtain ⟨g', hs', hG', ho'⟩ := h1.sr hs hG h0
  refine qcr (fun n a w => ∃ y g, μ y = n ∧ SR N (below (S y).nt) g w (S y) a ∧ G g0 w0 g w ∧ MarksR ro g0 w0 g w a.defers) (n0 := μ x0) ⟨x0, g', rfl, hs', hG', hM.turn ho'⟩ (fun n a w => ?_)
  rintro ⟨y, gy, rfl, hsy, hGy, hMy⟩
  refine ix ro k0 g0 w0 X _ _ (S y) gy w a hfl h0 hx (h2 y) hsy hGy hMy (fun e st' g' w' a' hq hs' hG' hM' => ?_)
  cases e with
  | normal =>
   obtain ⟨z, hz, hlt⟩ := hq
   obtain ⟨g'', hs'', hG'', ho''⟩ := hz.sr hs' hG' h0
   exact ⟨μ z, hlt, z, g'', rfl, hs'', hG'', hM'.turn ho''⟩
  | exit id => exact hR (.exit id) st' g' w' a' hq hs' hG' hM'
  | ret => exact hR .ret st' g' w' a' hq hs' hG' hM'
 | exit id =>
  intro ro k0 g0 w0 sc Q R st g w a hfl h0 hc h hs hG hM hR
  simp only [zm, Option.some.injEq] at hc
  obtain ⟨sc', st, g, he, hnp, h, hs, hG, hM⟩ := pre h0 h hs hG hM
  rw [← hc] at he
  cases sc' <;> simp only [SCode.erase, reduceCtorEq] at he <;> first | exact (hnp _ rfl).elim | skip
  simp only [SCode.exit.injEq] at he
  subst he
  exact wpIn_exit (hR (.exit _) st g w a h hs hG hM)
 | ret =>
  intro ro k0 g0 w0 sc Q R st g w a hfl h0 hc h hs hG hM hR
  simp only [zm, Option.some.injEq] at hc
  obtain ⟨sc', st, g, he, hnp, h, hs, hG, hM⟩ := pre h0 h hs hG hM
  rw [← hc] at he
  cases sc' <;> simp only [SCode.erase, reduceCtorEq] at he <;> first | exact (hnp _ rfl).elim | skip
  exact wpIn_ret (hR .ret st g w a h hs hG hM)
 | rangeFunc f ps x y ix iy =>
  intro ro k0 g0 w0 sc Q R st g w a hfl h0 hc h hs hG hM hR
  have hro : ro = none := hfl.resolve_right (by simp [wp])
  subst hro
  simp only [zm] at hc
  split at hc
  ·rename_i f' x' y' hff hx hy
   split at hc
   ·rename_i hcond
    simp only [Bool.and_eq_true, List.all_eq_true, decide_eq_true_eq] at hcond
    obtain ⟨⟨hflx, hfly⟩, hps⟩ := hcond
    simp only [Option.some.injEq] at hc
    obtain ⟨sc', st, g, he, hnp, h, hs, hG, hM⟩ := pre h0 h hs hG hM
    rw [← hc] at he
    cases sc' <;> simp only [SCode.erase, reduceCtorEq] at he <;> first | grind | skip
    rename_i F' ps' X Y
    simp only [SCode.rangeFunc.injEq] at he
    obtain ⟨rfl, rfl, rfl, rfl⟩ := he
    have hids : ∀ {st : St} {g : Ghost} {w : World} {a : Act} {T : Nat → Prop}, SR N T g w st a → ∀ b id, g b = .obj id → id < st.os.length := fun hs b id hb => by
     obtain ⟨o, ho, _⟩ := hs.ids b id hb
     grind
    rcases h with h | ⟨gf, ibx, ib, K, ins, vals, S, fr0, ⟨h1, h2, h3, h4, h5, h6, h7, h8, h9, h10, h11, h12, h13⟩, h15, h16⟩
    rotate_left
    ·refine qvs (QE := fun s => Q .ret s) hs hG hM h0 hff h1 h2 h3 h4 h5 h6 h7 h8 h9 (fun vs hv => by grind) hps h11 h12 h13 ?_ (fun g' w' a' hs' hG' hM' => hR .normal _ g' w' a' h16 hs' hG' hM') (fun stE g' w' a' hq hs' hG' hM' => hR .ret _ g' w' a' hq hs' hG' hM')
     intro k vs hk l gk W1 a1 hs1 hd1
     refine ix (some l) (S k).os.length gk W1 X _ _ _ gk W1 a1 (.inr hflx) (hids (st := { S k with fr := jk ps.toList vs fr0 }) hs1) hx (h15 k vs hk) hs1 (.refl gk W1) hd1 (fun e st2 ga W2 a2 hq hs2 hG2 hM2 => ?_)
     cases e with
     | normal =>
      refine ⟨ga, st2, hs2, hG2, fun W2' hs2' => ?_⟩
      refine iy (some l) st2.os.length ga W2' Y _ _ _ ga W2' a2 (.inr hfly) (hids hs2') hy hq hs2' (.refl ga W2') hM2 (fun e st3 gb W3 a3 hq3 hs3 hG3 hM3 => ?_)
      cases e with
      | normal => exact ⟨gb, st3, hs3, hG3, .inl ⟨rfl, hq3⟩⟩
      | exit id => exact hq3.elim
      | ret => exact ⟨gb, st3, hs3, hG3, .inr ⟨rfl, hq3⟩⟩
     | exit id => exact hq.elim
     | ret => exact hq.elim
    obtain ⟨gf, caps, ι, fo, vals, S, fr0, ⟨h1, h2, h3, h4, h5, h6, h7, h8, h9, h10, h11, h12, h13, h14⟩, h15, h16⟩ := h
    refine qy0 hs hG hM h0 hff h1 h2 h3 h4 h5 h6 h7 h8 h9 (fun vs hv => by grind) hps h11 h12 h13 h14 ?_ (fun g' w' a' hs' hG' hM' => hR .normal _ g' w' a' h16 hs' hG' hM')
    intro k vs hk l gk W1 a1 hs1 hd1
    refine ix (some l) (S k).os.length gk W1 X _ _ _ gk W1 a1 (.inr hflx) (hids (st := { S k with fr := jk ps.toList vs fr0 }) hs1) hx (h15 k vs hk) hs1 (.refl gk W1) hd1 (fun e st2 ga W2 a2 hq hs2 hG2 hM2 => ?_)
    cases e with
    | normal =>
     refine ⟨ga, st2, hs2, hG2, fun W2' hs2' => ?_⟩
     refine iy (some l) st2.os.length ga W2' Y _ _ _ ga W2' a2 (.inr hfly) (hids hs2') hy hq hs2' (.refl ga W2') hM2 (fun e st3 gb W3 a3 hq3 hs3 hG3 hM3 => ?_)
     cases e with
     | normal => exact ⟨rfl, gb, st3, hs3, hG3, hq3⟩
     | exit id => exact hq3.elim
     | ret => exact hq3.elim
    | exit id => exact hq.elim
    | ret => exact hq.elim
   grind
  grind
 | _ =>
  grind [zm]
theorem qy2 {ro : Option Nat} {news : List (FuncId × Nat)} (hm : P.follows .mixedOrders = true) (h0 : ∀ b id, g0 b = .obj id → id < k0) (hro : ro = none) (c : Code) (sc : SCode) (Q : SExit → St → Prop) (R : Exit → Act → World → Prop) (st : St) (g : Ghost) (w : World) (a : Act)
  (h1 : zm P mu N news c = some sc.erase) (h2 : AWp P k0 sc Q st) (h3 : SR N (below st.nt) g w st a) (h4 : G g0 w0 g w) (h5 : Marks g0 w0 g w a.defers)
  (h6 : ∀ e st' g' w' a', Q e st' → SR N (below st'.nt) g' w' st' a' → G g0 w0 g' w' → Marks g0 w0 g' w' a'.defers → R e.real a' w') : c.wpIn (Fw ro) 0 P R a w := by
 subst hro
 exact q79 hm c none k0 g0 w0 sc Q R st g w a (.inl rfl) h0 h1 h2 h3 h4 h5 h6
end
end Go.Abs
