/- The abstract layer, part 1: abstract values, slots, objects, ghost roles, the relation between abstract states and the model's worlds. -/
import Derived.Calls
import Derived.Orders
import Derived.Tactics
import Derived.Laws.AppendOwn
namespace Go.Abs

inductive D where
  | int (k : IntKind) (n : Int)
  | bool (b : Bool)
  | str (s : List UInt8)
  | sl (es : Nat) (rows : List (List D))
  | agg (cells : List D)
  | ptr (id off : Nat)
  | ref (id off es len : Nat)
  | nilptr
  | func (fn : Fn) (first captured : List D)
  | nilfunc
  | iface (t : TypeId) (d : D)
  | niliface
  | map (id : Nat)
  | nilmap
  | nilsl
  deriving Inhabited

def D.isCell : D → Bool
  | .agg _ => false
  | _ => true

mutual
def D.noPtr : D → Bool
  | .sl _ rows => D.noPtrR rows
  | .agg cs => D.noPtrL cs
  | .ptr .. => false
  | .ref .. => false
  | .map _ => false
  | .func _ a b => D.noPtrL a && D.noPtrL b
  | .iface _ d => D.noPtr d
  | _ => true
def D.noPtrL : List D → Bool
  | [] => true
  | d :: l => D.noPtr d && D.noPtrL l
def D.noPtrR : List (List D) → Bool
  | [] => true
  | r :: l => D.noPtrL r && D.noPtrR l
end

theorem D.noPtrL_iff : ∀ (l : List D), D.noPtrL l = true ↔ ∀ d ∈ l, d.noPtr = true
  | [] => by simp [D.noPtrL]
  | d :: l => by simp [D.noPtrL, D.noPtrL_iff l]

theorem D.noPtrR_iff : ∀ (l : List (List D)), D.noPtrR l = true ↔ ∀ d ∈ l.flatten, d.noPtr = true
  | [] => by simp [D.noPtrR]
  | r :: l => by
    simp only [D.noPtrR, Bool.and_eq_true, D.noPtrL_iff, D.noPtrR_iff l, List.flatten_cons, List.mem_append]
    constructor
    · rintro ⟨h1, h2⟩ d (h | h)
      · exact h1 d h
      · exact h2 d h
    · exact fun h => ⟨fun d hd => h d (.inl hd), fun d hd => h d (.inr hd)⟩

/-- What a real block is to us: not ours to touch; a row whose first n cells stand for good (and whose rest belongs to the holder of a token); the memory of an object. -/
inductive Role where
  | out
  | row (n : Nat) (o : Option Nat)
  | uni (t : Nat)
  | obj (id : Nat)

abbrev Ghost := Nat → Role

/-- How many cells a block has. -/
def bsize (w : World) (b : Nat) : Nat := match w.heap[b]? with | some (.cells c _ _) => c.size | _ => 0

theorem bsize_same {w w' : World} {b : Nat} (h : w'.heap[b]? = w.heap[b]?) : bsize w' b = bsize w b := by unfold bsize; rw [h]
theorem bsize_cells {w : World} {b : Nat} {c : Array Value} {e : TypeId} {z : Nat × Nat} (h : w.heap[b]? = some (.cells c e z)) : bsize w b = c.size := by unfold bsize; rw [h]

/-- 'v' reads as 'd'. -/
inductive RV (g : Ghost) (w : World) : Value → D → Prop
  | int (k : IntKind) (n : Int) : RV g w (.int k n) (.int k n)
  | bool (b : Bool) : RV g w (.bool b) (.bool b)
  | str (s : List UInt8) : RV g w (.string ⟨s.toArray⟩) (.str s)
  | nilsl (a : Option Addr) (c es : Nat) (hn : a = none → c = 0) : RV g w (.slice a 0 c) (.sl es [])
  | sl (b off cap es n : Nat) (o : Option Nat) (rows : List (List D)) (f : Nat → Value)
      (hg : g b = .row n o) (hn : off + rows.flatten.length ≤ n) (hcap : rows.length ≤ cap)
      (hes : ∀ r ∈ rows, r.length = es) (hcl : ∀ d ∈ rows.flatten, d.isCell = true)
      (hcell : ∀ (j : Nat) (d : D), rows.flatten[j]? = some d → w.cell? ⟨b, off + j, none⟩ = some (f j))
      (hrv : ∀ (j : Nat) (d : D), rows.flatten[j]? = some d → RV g w (f j) d) :
      RV g w (.slice (some ⟨b, off, none⟩) rows.length cap) (.sl es rows)
  | agg (vs : List Value) (ds : List D) (hl : vs.length = ds.length) (hcl : ∀ d ∈ ds, d.isCell = true)
      (h : ∀ (j : Nat) (v : Value) (d : D), vs[j]? = some v → ds[j]? = some d → RV g w v d) : RV g w (.agg vs.toArray) (.agg ds)
  | ptr (b off id : Nat) (hg : g b = .obj id) : RV g w (.pointer (some ⟨b, off, none⟩)) (.ptr id off)
  | ref (b off id es len cap : Nat) (hg : g b = .obj id) (hcap : len ≤ cap) (hm : cap ≤ maxLen) (hsz : off + cap * es ≤ bsize w b) : RV g w (.slice (some ⟨b, off, none⟩) len cap) (.ref id off es len)
  | refnil (a : Option Addr) (id off es : Nat) : RV g w (.slice a 0 0) (.ref id off es 0)
  | nilptr : RV g w (.pointer none) .nilptr
  | func (fn : Fn) (vf vc : List Value) (df dc : List D) (hf : vf.length = df.length) (hc : vc.length = dc.length)
      (h1 : ∀ (j : Nat) (v : Value) (d : D), vf[j]? = some v → df[j]? = some d → RV g w v d)
      (h2 : ∀ (j : Nat) (v : Value) (d : D), vc[j]? = some v → dc[j]? = some d → RV g w v d) :
      RV g w (.func fn vf.toArray vc.toArray) (.func fn df dc)
  | nilfunc : RV g w .nilFunc .nilfunc
  | iface (t : TypeId) (v : Value) (d : D) (h : RV g w v d) : RV g w (.iface t v) (.iface t d)
  | niliface : RV g w .nilIface .niliface
  | map (b id : Nat) (hg : g b = .obj id) : RV g w (.map (some b)) (.map id)
  | nilmap : RV g w (.map none) .nilmap
  | nils : RV g w (.slice none 0 0) .nilsl

/-- Rows stay readable. -/
def RowsKept (g : Ghost) (w : World) (g' : Ghost) (w' : World) : Prop :=
  ∀ (b n : Nat) (o : Option Nat), g b = .row n o → ∃ (n' : Nat) (o' : Option Nat), g' b = .row n' o' ∧ n ≤ n' ∧
    ∀ (i : Nat) (u : Value), i < n → w.cell? ⟨b, i, none⟩ = some u → w'.cell? ⟨b, i, none⟩ = some u

theorem RV.mono {g g' : Ghost} {w w' : World} {v : Value} {d : D} (h : RV g w v d) (hr : RowsKept g w g' w')
    (ho : ∀ (b id : Nat), g b = .obj id → g' b = .obj id ∧ bsize w b ≤ bsize w' b) : RV g' w' v d := by
  induction h with
  | int k n => exact .int k n
  | bool b => exact .bool b
  | str s => exact .str s
  | nilsl a c es hn => exact .nilsl a c es hn
  | sl b off cap es n o rows f hg hn hcap hes hcl hcell _ ih =>
    obtain ⟨n', o', hg', hnn, hc⟩ := hr b n o hg
    refine .sl b off cap es n' o' rows f hg' (by omega) hcap hes hcl (fun j d hj => hc _ _ ?_ (hcell j d hj)) ih
    have := (List.getElem?_eq_some_iff.1 hj).1
    omega
  | agg vs ds hl hcl _ ih => exact .agg vs ds hl hcl ih
  | ptr b off id hg => exact .ptr b off id (ho _ _ hg).1
  | ref b off id es len cap hg hcap hm hsz => exact .ref b off id es len cap (ho _ _ hg).1 hcap hm (Nat.le_trans hsz (ho _ _ hg).2)
  | refnil a id off es => exact .refnil a id off es
  | nilptr => exact .nilptr
  | func fn vf vc df dc hf hc _ _ i1 i2 => exact .func fn vf vc df dc hf hc i1 i2
  | nilfunc => exact .nilfunc
  | iface t v d _ ih => exact .iface t v d ih
  | niliface => exact .niliface
  | map b id hg => exact .map b id (ho _ _ hg).1
  | nilmap => exact .nilmap
  | nils => exact .nils

theorem RV.mono_noPtr {g g' : Ghost} {w w' : World} {v : Value} {d : D} (h : RV g w v d) (hr : RowsKept g w g' w') (hp : d.noPtr = true) : RV g' w' v d := by
  induction h with
  | int k n => exact .int k n
  | bool b => exact .bool b
  | str s => exact .str s
  | nilsl a c es hn => exact .nilsl a c es hn
  | sl b off cap es n o rows f hg hn hcap hes hcl hcell _ ih =>
    obtain ⟨n', o', hg', hnn, hc⟩ := hr b n o hg
    rw [D.noPtr, D.noPtrR_iff] at hp
    refine .sl b off cap es n' o' rows f hg' (by omega) hcap hes hcl (fun j d hj => hc _ _ ?_ (hcell j d hj)) (fun j d hj => ih j d hj (hp d (List.mem_of_getElem? hj)))
    have := (List.getElem?_eq_some_iff.1 hj).1
    omega
  | agg vs ds hl hcl _ ih =>
    rw [D.noPtr, D.noPtrL_iff] at hp
    exact .agg vs ds hl hcl (fun j v d hv hd => ih j v d hv hd (hp d (List.mem_of_getElem? hd)))
  | ptr b off id hg => simp [D.noPtr] at hp
  | ref b off id es len cap hg hcap hm hsz => simp [D.noPtr] at hp
  | refnil a id off es => exact .refnil a id off es
  | nilptr => exact .nilptr
  | func fn vf vc df dc hf hc _ _ i1 i2 =>
    rw [D.noPtr, Bool.and_eq_true, D.noPtrL_iff, D.noPtrL_iff] at hp
    exact .func fn vf vc df dc hf hc (fun j v d hv hd => i1 j v d hv hd (hp.1 d (List.mem_of_getElem? hd))) (fun j v d hv hd => i2 j v d hv hd (hp.2 d (List.mem_of_getElem? hd)))
  | nilfunc => exact .nilfunc
  | iface t v d _ ih => exact .iface t v d (ih (by simpa [D.noPtr] using hp))
  | niliface => exact .niliface
  | map b id hg => simp [D.noPtr] at hp
  | nilmap => exact .nilmap
  | nils => exact .nils

/-- Where the ghost has no objects, what is read has no pointers into any. -/
theorem RV.mono_noObj {g g' : Ghost} {w w' : World} {v : Value} {d : D} (h : RV g w v d) (hr : RowsKept g w g' w') (hp : ∀ (b id : Nat), g b ≠ .obj id) : RV g' w' v d :=
  h.mono hr fun b id hb => (hp b id hb).elim

theorem RV.oneCell {g : Ghost} {w : World} {v : Value} {d : D} (h : RV g w v d) (hd : d.isCell = true) : v.oneCell' = true := by
  cases h <;> first | rfl | (simp [D.isCell] at hd)

/-- Abstract slots: a value; an owned slice (token, cells of an element, elements); a slice whose capacity is its length; a pointer to cells that stand for good; a tuple. -/
inductive ASlot where
  | d (x : D)
  | own (t es : Nat) (rows : List (List D))
  | uni (t es : Nat) (rows : List (List D))
  | full (es : Nat) (rows : List (List D))
  | rd (cells : List D)
  | tup (l : List ASlot)
  | bad
  deriving Inhabited

/-- The block behind an owned slice is ours alone behind its length. -/
def OwnOk (g : Ghost) (w : World) (t es : Nat) (rows : List (List D)) (v : Value) : Prop :=
  (∃ a, v = .slice a rows.length rows.length) ∨
  ∃ (b cap : Nat) (cur : Array Value) (e : TypeId), v = .slice (some ⟨b, 0, none⟩) rows.length cap ∧ g b = .row (rows.length * es) (some t) ∧
    w.heap[b]? = some (.cells cur e (0, 0)) ∧ rows.length ≤ cap ∧ cap ≤ maxLen ∧ cap * es ≤ cur.size

/-- A slice that is ours alone, its elements too. -/
def UniOk (g : Ghost) (w : World) (t es : Nat) (rows : List (List D)) (v : Value) : Prop :=
  (∃ a, v = .slice a 0 0 ∧ rows = []) ∨
  ∃ (b cap : Nat) (cur : Array Value) (e : TypeId), v = .slice (some ⟨b, 0, none⟩) rows.length cap ∧ g b = .uni t ∧
    w.heap[b]? = some (.cells cur e (0, 0)) ∧ rows.length ≤ cap ∧ cap ≤ maxLen ∧ cap * es ≤ cur.size ∧ (∀ r ∈ rows, r.length = es) ∧
    ∀ (j : Nat) (d : D), rows.flatten[j]? = some d → d.isCell = true ∧ ∃ u, cur[j]? = some u ∧ RV g w u d

theorem UniOk.mono {g g' : Ghost} {w w' : World} {t es : Nat} {rows : List (List D)} {v : Value} (h : UniOk g w t es rows v) (hrow : ∀ b, g b = .uni t → g' b = .uni t ∧ w'.heap[b]? = w.heap[b]?)
    (hrv : ∀ (u : Value) (d : D), RV g w u d → RV g' w' u d) : UniOk g' w' t es rows v := by
  rcases h with h | ⟨b, cap, cur, e, h1, h2, h3, h4, h5, h6, h7, h8⟩
  · exact .inl h
  · obtain ⟨k1, k2⟩ := hrow b h2
    refine .inr ⟨b, cap, cur, e, h1, k1, by rw [k2]; exact h3, h4, h5, h6, h7, fun j d hj => ?_⟩
    obtain ⟨c1, u, c2, c3⟩ := h8 j d hj
    exact ⟨c1, u, c2, hrv u d c3⟩

def RC (g : Ghost) (w : World) (live : List Nat) (v : Value) : ASlot → Prop
  | .d x => RV g w v x
  | .own t es rows => RV g w v (.sl es rows) ∧ (t ∈ live → OwnOk g w t es rows v)
  | .uni t es rows => (∃ a c, v = .slice a rows.length c) ∧ (t ∈ live → UniOk g w t es rows v)
  | .full es rows => RV g w v (.sl es rows) ∧ ∃ a, v = .slice a rows.length rows.length
  | .rd cells => ∃ (b off n : Nat) (o : Option Nat) (f : Nat → Value), v = .pointer (some ⟨b, off, none⟩) ∧ g b = .row n o ∧ off + cells.length ≤ n ∧
      ∀ (j : Nat) (d : D), cells[j]? = some d → d.isCell = true ∧ w.cell? ⟨b, off + j, none⟩ = some (f j) ∧ RV g w (f j) d
  | .tup _ => False
  | .bad => True

def RS (g : Ghost) (w : World) (live : List Nat) (v : Value) : ASlot → Prop
  | .tup l => ∃ vs : List Value, v = .tuple vs.toArray ∧ vs.length = l.length ∧ ∀ (i : Nat) (u : Value) (s : ASlot), vs[i]? = some u → l[i]? = some s → RC g w live u s
  | s => RC g w live v s

inductive AObj where
  | none
  | row (cells : List ASlot)
  deriving Inhabited

def RO (g : Ghost) (w : World) (live : List Nat) (b : Nat) : AObj → Prop
  | .none => False
  | .row cells => ∃ (c : Array Value) (e : TypeId), w.heap[b]? = some (.cells c e (0, 0)) ∧ cells.length ≤ c.size ∧
      ∀ (i : Nat) (s : ASlot), cells[i]? = some s → ∃ v, c[i]? = some v ∧ v.oneCell' = true ∧ RC g w live v s

/-- What a stretch of the run leaves of what it found. -/
structure G (g : Ghost) (w : World) (g' : Ghost) (w' : World) : Prop where
  os : w'.os = w.os
  tape : w'.tape = w.tape
  output : w'.output = w.output
  size : w.heap.size ≤ w'.heap.size
  out : ∀ b, b < w.heap.size → g b = .out → w'.heap[b]? = w.heap[b]? ∧ g' b = .out
  rowN : ∀ b n, b < w.heap.size → g b = .row n none → w'.heap[b]? = w.heap[b]? ∧ g' b = .row n none
  rowS : ∀ b n t, b < w.heap.size → g b = .row n (some t) → ∃ n' o', g' b = .row n' o' ∧ n ≤ n' ∧
    ∀ (i : Nat) (u : Value), i < n → w.cell? ⟨b, i, none⟩ = some u → w'.cell? ⟨b, i, none⟩ = some u
  obj : ∀ b id, b < w.heap.size → g b = .obj id → g' b = .obj id ∧ bsize w b ≤ bsize w' b

theorem G.refl (g : Ghost) (w : World) : G g w g w :=
  ⟨rfl, rfl, rfl, Nat.le_refl _, fun _ _ h => ⟨rfl, h⟩, fun _ _ _ h => ⟨rfl, h⟩, fun _ n t _ h => ⟨n, some t, h, Nat.le_refl _, fun _ _ _ h => h⟩, fun _ _ _ h => ⟨h, Nat.le_refl _⟩⟩

theorem cell_same {w w' : World} {b i : Nat} (h : w'.heap[b]? = w.heap[b]?) : w'.cell? ⟨b, i, none⟩ = w.cell? ⟨b, i, none⟩ :=
  World.cell?_of_block (a := ⟨b, i, none⟩) h

theorem G.row {g g' : Ghost} {w w' : World} (h : G g w g' w') {b n : Nat} {o : Option Nat} (hb : b < w.heap.size) (hg : g b = .row n o) :
    ∃ n' o', g' b = .row n' o' ∧ n ≤ n' ∧ ∀ (i : Nat) (u : Value), i < n → w.cell? ⟨b, i, none⟩ = some u → w'.cell? ⟨b, i, none⟩ = some u := by
  cases o with
  | none =>
    obtain ⟨h1, h2⟩ := h.rowN b n hb hg
    exact ⟨n, none, h2, Nat.le_refl _, fun i u _ hu => by rw [cell_same h1]; exact hu⟩
  | some t => exact h.rowS b n t hb hg

theorem G.trans {g g' g'' : Ghost} {w w' w'' : World} (h : G g w g' w') (k : G g' w' g'' w'') : G g w g'' w'' := by
  refine ⟨k.os.trans h.os, k.tape.trans h.tape, k.output.trans h.output, Nat.le_trans h.size k.size, ?_, ?_, ?_, ?_⟩
  · intro b hb hg
    obtain ⟨h1, h2⟩ := h.out b hb hg
    obtain ⟨k1, k2⟩ := k.out b (Nat.lt_of_lt_of_le hb h.size) h2
    exact ⟨k1.trans h1, k2⟩
  · intro b n hb hg
    obtain ⟨h1, h2⟩ := h.rowN b n hb hg
    obtain ⟨k1, k2⟩ := k.rowN b n (Nat.lt_of_lt_of_le hb h.size) h2
    exact ⟨k1.trans h1, k2⟩
  · intro b n t hb hg
    obtain ⟨n', o', h1, h2, h3⟩ := h.rowS b n t hb hg
    obtain ⟨n'', o'', k1, k2, k3⟩ := k.row (Nat.lt_of_lt_of_le hb h.size) h1
    exact ⟨n'', o'', k1, Nat.le_trans h2 k2, fun i u hi hu => k3 i u (Nat.lt_of_lt_of_le hi h2) (h3 i u hi hu)⟩
  · intro b id hb hg
    obtain ⟨h1, h2⟩ := h.obj b id hb hg
    obtain ⟨k1, k2⟩ := k.obj b id (Nat.lt_of_lt_of_le hb h.size) h1
    exact ⟨k1, Nat.le_trans h2 k2⟩

/-- The ghost says nothing of blocks that are not there. -/
def Dom (g : Ghost) (w : World) : Prop := ∀ b, w.heap.size ≤ b → g b = .out

theorem Dom.lt_row {g : Ghost} {w : World} (h : Dom g w) {b n : Nat} {o : Option Nat} (hg : g b = .row n o) : b < w.heap.size := by
  rcases Nat.lt_or_ge b w.heap.size with hb | hb
  · exact hb
  · rw [h b hb] at hg; cases hg

theorem Dom.lt_uni {g : Ghost} {w : World} (h : Dom g w) {b t : Nat} (hg : g b = .uni t) : b < w.heap.size := by
  rcases Nat.lt_or_ge b w.heap.size with hb | hb
  · exact hb
  · rw [h b hb] at hg; cases hg

theorem Dom.lt_obj {g : Ghost} {w : World} (h : Dom g w) {b id : Nat} (hg : g b = .obj id) : b < w.heap.size := by
  rcases Nat.lt_or_ge b w.heap.size with hb | hb
  · exact hb
  · rw [h b hb] at hg; cases hg

theorem G.rowsKept {g g' : Ghost} {w w' : World} (h : G g w g' w') (hd : Dom g w) : RowsKept g w g' w' :=
  fun _ _ _ hg => h.row (hd.lt_row hg) hg

theorem G.rv {g g' : Ghost} {w w' : World} (h : G g w g' w') (hd : Dom g w) {v : Value} {d : D} (hv : RV g w v d) : RV g' w' v d :=
  hv.mono (h.rowsKept hd) fun b id hb => h.obj b id (hd.lt_obj hb) hb

/- Equality up to the element size of empty slices. -/
mutual
def D.eqv : D → D → Prop
  | .sl es rows, .sl es' rows' => (es = es' ∨ rows = []) ∧ D.eqvR rows rows'
  | .agg cs, .agg cs' => D.eqvL cs cs'
  | .func f a b, .func f' a' b' => f = f' ∧ D.eqvL a a' ∧ D.eqvL b b'
  | .iface t d, .iface t' d' => t = t' ∧ D.eqv d d'
  | .nilsl, .sl _ rows' => rows' = []
  | a, b => a = b
def D.eqvL : List D → List D → Prop
  | [], [] => True
  | d :: l, d' :: l' => D.eqv d d' ∧ D.eqvL l l'
  | _, _ => False
def D.eqvR : List (List D) → List (List D) → Prop
  | [], [] => True
  | r :: l, r' :: l' => D.eqvL r r' ∧ D.eqvR l l'
  | _, _ => False
end

mutual
theorem D.eqv_refl : ∀ d : D, D.eqv d d
  | .int .. => by simp [D.eqv]
  | .bool .. => by simp [D.eqv]
  | .str .. => by simp [D.eqv]
  | .sl _ rows => by simp only [D.eqv, true_or, true_and]; exact D.eqvR_refl rows
  | .agg cs => by simp only [D.eqv]; exact D.eqvL_refl cs
  | .ptr .. => by simp [D.eqv]
  | .ref .. => by simp [D.eqv]
  | .nilptr => by simp [D.eqv]
  | .func _ a b => by simp only [D.eqv, true_and]; exact ⟨D.eqvL_refl a, D.eqvL_refl b⟩
  | .nilfunc => by simp [D.eqv]
  | .iface _ d => by simp only [D.eqv, true_and]; exact D.eqv_refl d
  | .niliface => by simp [D.eqv]
  | .map _ => by simp [D.eqv]
  | .nilmap => by simp [D.eqv]
  | .nilsl => by simp [D.eqv]
theorem D.eqvL_refl : ∀ l : List D, D.eqvL l l
  | [] => by simp [D.eqvL]
  | d :: l => by simp only [D.eqvL]; exact ⟨D.eqv_refl d, D.eqvL_refl l⟩
theorem D.eqvR_refl : ∀ l : List (List D), D.eqvR l l
  | [] => by simp [D.eqvR]
  | r :: l => by simp only [D.eqvR]; exact ⟨D.eqvL_refl r, D.eqvR_refl l⟩
end

theorem D.eqvL_length : ∀ {l l' : List D}, D.eqvL l l' → l.length = l'.length
  | [], [], _ => rfl
  | [], _ :: _, h => by simp [D.eqvL] at h
  | _ :: _, [], h => by simp [D.eqvL] at h
  | d :: l, d' :: l', h => by
    simp only [D.eqvL] at h
    simp [D.eqvL_length h.2]

theorem D.eqvL_get : ∀ {l l' : List D}, D.eqvL l l' → ∀ (j : Nat) (d' : D), l'[j]? = some d' → ∃ d, l[j]? = some d ∧ D.eqv d d'
  | [], [], _, j, d', hj => by simp at hj
  | [], _ :: _, h, _, _, _ => by simp [D.eqvL] at h
  | _ :: _, [], h, _, _, _ => by simp [D.eqvL] at h
  | d :: l, e :: l', h, j, d', hj => by
    simp only [D.eqvL] at h
    cases j with
    | zero => simp at hj; subst hj; exact ⟨d, rfl, h.1⟩
    | succ j =>
      obtain ⟨x, h1, h2⟩ := D.eqvL_get h.2 j d' (by simpa using hj)
      exact ⟨x, by simpa using h1, h2⟩

theorem D.eqvL_append : ∀ {a a' b b' : List D}, D.eqvL a a' → D.eqvL b b' → D.eqvL (a ++ b) (a' ++ b')
  | [], [], _, _, _, h => h
  | [], _ :: _, _, _, h, _ => by simp [D.eqvL] at h
  | _ :: _, [], _, _, h, _ => by simp [D.eqvL] at h
  | d :: l, d' :: l', _, _, h, k => by
    simp only [D.eqvL] at h
    simp only [List.cons_append, D.eqvL]
    exact ⟨h.1, D.eqvL_append h.2 k⟩

theorem D.eqvR_flat : ∀ {l l' : List (List D)}, D.eqvR l l' → D.eqvL l.flatten l'.flatten ∧ l.length = l'.length ∧ ∀ r' ∈ l', ∃ r ∈ l, r.length = r'.length
  | [], [], _ => by simp [D.eqvL]
  | [], _ :: _, h => by simp [D.eqvR] at h
  | _ :: _, [], h => by simp [D.eqvR] at h
  | r :: l, r' :: l', h => by
    simp only [D.eqvR] at h
    obtain ⟨h1, h2, h3⟩ := D.eqvR_flat h.2
    refine ⟨?_, by simp [h2], fun x hx => ?_⟩
    · simp only [List.flatten_cons]
      exact D.eqvL_append h.1 h1
    · rcases List.mem_cons.1 hx with rfl | hx
      · exact ⟨r, by simp, D.eqvL_length h.1⟩
      · obtain ⟨y, hy, hl⟩ := h3 x hx
        exact ⟨y, by simp [hy], hl⟩

theorem D.eqvR_append : ∀ {a a' b b' : List (List D)}, D.eqvR a a' → D.eqvR b b' → D.eqvR (a ++ b) (a' ++ b')
  | [], [], _, _, _, h => h
  | [], _ :: _, _, _, h, _ => by simp [D.eqvR] at h
  | _ :: _, [], _, _, h, _ => by simp [D.eqvR] at h
  | d :: l, d' :: l', _, _, h, k => by
    simp only [D.eqvR] at h
    simp only [List.cons_append, D.eqvR]
    exact ⟨h.1, D.eqvR_append h.2 k⟩

theorem D.eqv_isCell : ∀ {d d' : D}, D.eqv d d' → d'.isCell = d.isCell := by
  intro d d' h
  cases d <;> cases d' <;> first | rfl | (simp [D.eqv] at h)

theorem rv_nil_es {g : Ghost} {w : World} {v : Value} {es es' : Nat} (h : RV g w v (.sl es [])) : RV g w v (.sl es' []) := by
  cases h with
  | nilsl a c _ hn => exact .nilsl a c _ hn
  | sl b off cap _ n o _ f hg hn hcap hes hcl hcell hrv => exact .sl b off cap es' n o [] f hg hn hcap (by simp) hcl hcell hrv

/-- What is read is read up to the element size of empty slices. -/
theorem RV.eqv {g : Ghost} {w : World} {v : Value} {d d' : D} (h : RV g w v d) (he : D.eqv d d') : RV g w v d' := by
  induction h generalizing d' with
  | int k n => cases d' <;> simp [D.eqv] at he; obtain ⟨rfl, rfl⟩ := he; exact .int _ _
  | bool b => cases d' <;> simp [D.eqv] at he; subst he; exact .bool _
  | str s => cases d' <;> simp [D.eqv] at he; subst he; exact .str _
  | nilsl a c es hn =>
    cases d' <;> simp only [D.eqv, reduceCtorEq] at he
    rename_i es' rows'
    cases rows' with
    | nil => exact .nilsl a c es' hn
    | cons r l => simp [D.eqvR] at he
  | sl b off cap es n o rows f hg hn hcap hes hcl hcell hrv ih =>
    cases d' <;> simp only [D.eqv, reduceCtorEq] at he
    rename_i es' rows'
    obtain ⟨h1, h2⟩ := he
    obtain ⟨h3, h4, h5⟩ := D.eqvR_flat h2
    have hlen := D.eqvL_length h3
    rw [h4]
    refine .sl b off cap es' n o rows' f hg (by omega) (by omega) (fun r' hr' => ?_) (fun d' hd' => ?_) (fun j d' hj => ?_) (fun j d' hj => ?_)
    · obtain ⟨r, hr, hl⟩ := h5 r' hr'
      rcases h1 with rfl | rfl
      · rw [← hl]; exact hes r hr
      · simp at hr
    · obtain ⟨j, hj⟩ := List.mem_iff_getElem?.1 hd'
      obtain ⟨d, hd, hdd⟩ := D.eqvL_get h3 j d' hj
      rw [D.eqv_isCell hdd]
      exact hcl d (List.mem_of_getElem? hd)
    · obtain ⟨d, hd, hdd⟩ := D.eqvL_get h3 j d' hj
      exact hcell j d hd
    · obtain ⟨d, hd, hdd⟩ := D.eqvL_get h3 j d' hj
      exact ih j d hd hdd
  | agg vs ds hl hcl hrv ih =>
    cases d' <;> simp only [D.eqv, reduceCtorEq] at he
    rename_i ds'
    refine .agg vs ds' (by rw [hl, D.eqvL_length he]) (fun d' hd' => ?_) (fun j v d' hv hj => ?_)
    · obtain ⟨j, hj⟩ := List.mem_iff_getElem?.1 hd'
      obtain ⟨d, hd, hdd⟩ := D.eqvL_get he j d' hj
      rw [D.eqv_isCell hdd]
      exact hcl d (List.mem_of_getElem? hd)
    · obtain ⟨d, hd, hdd⟩ := D.eqvL_get he j d' hj
      exact ih j v d hv hd hdd
  | ptr b off id hg => cases d' <;> simp [D.eqv] at he; obtain ⟨rfl, rfl⟩ := he; exact .ptr b _ _ hg
  | refnil a id off es => cases d' <;> (try simp [D.eqv] at he); obtain ⟨rfl, rfl, rfl, rfl⟩ := he; exact .refnil a _ _ _
  | ref b off id es len cap hg hcap hm hsz => cases d' <;> simp [D.eqv] at he; obtain ⟨rfl, rfl, rfl, rfl⟩ := he; exact .ref b _ _ _ _ cap hg hcap hm hsz
  | nilptr => cases d' <;> simp [D.eqv] at he; exact .nilptr
  | func fn vf vc df dc hf hc h1 h2 i1 i2 =>
    cases d' <;> simp only [D.eqv, reduceCtorEq] at he
    obtain ⟨rfl, e1, e2⟩ := he
    refine .func fn vf vc _ _ (by rw [hf, D.eqvL_length e1]) (by rw [hc, D.eqvL_length e2]) (fun j v d' hv hj => ?_) (fun j v d' hv hj => ?_)
    · obtain ⟨d, hd, hdd⟩ := D.eqvL_get e1 j d' hj
      exact i1 j v d hv hd hdd
    · obtain ⟨d, hd, hdd⟩ := D.eqvL_get e2 j d' hj
      exact i2 j v d hv hd hdd
  | nilfunc => cases d' <;> simp [D.eqv] at he; exact .nilfunc
  | iface t v d hv ih =>
    cases d' <;> simp only [D.eqv, reduceCtorEq] at he
    obtain ⟨rfl, he⟩ := he
    exact .iface _ _ _ (ih he)
  | niliface => cases d' <;> simp [D.eqv] at he; exact .niliface
  | map b id hg => cases d' <;> simp [D.eqv] at he; subst he; exact .map b _ hg
  | nilmap => cases d' <;> simp [D.eqv] at he; exact .nilmap
  | nils =>
    cases d' <;> simp only [D.eqv, reduceCtorEq] at he
    · subst he; exact .nilsl none 0 _ (fun _ => rfl)
    · exact .nils

/-- Rows up to the element size of empty slices. -/
def rowsEqv (es : Nat) (rows : List (List D)) (es' : Nat) (rows' : List (List D)) : Prop := (es = es' ∨ rows = []) ∧ D.eqvR rows rows'

end Go.Abs
