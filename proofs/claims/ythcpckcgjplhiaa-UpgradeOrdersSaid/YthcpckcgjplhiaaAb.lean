/- The abstract layer, part 2: abstract operations and code, what they do to an abstract state, the translation from the model's code. -/
import Derived.Test.YthcpckcgjplhiaaAa
namespace Go.Abs

abbrev Fr := List (Nat × Bool × ASlot)

def Fr.get : Fr → Nat → Option (Bool × ASlot)
  | [], _ => none
  | (j, s) :: r, k => if j = k then some s else Fr.get r k

structure St where
  fr : Fr
  os : List AObj
  live : List Nat
  nt : Nat

inductive Opd where
  | t (n : Nat)
  | k (s : ASlot)

/-- An operand's slot (bad where there is none). -/
def Opd.get (fr : Fr) : Opd → ASlot
  | .t n => match fr.get n with | some (_, s) => s | none => .bad
  | .k s => s

/-- An operand is known and valid. -/
def Opd.ok (fr : Fr) : Opd → Bool
  | .t n => match fr.get n with | some (v, _) => v | none => false
  | .k _ => true

/-- The kind of a plain field. -/
inductive CK where
  | int | bool | str
  deriving DecidableEq

/-- Whose nil. -/
inductive NK where
  | ptr | func | iface | map
  deriving DecidableEq

inductive SOp where
  | mov (x : Opd)
  | pick (c a b : Opd)
  | box (back : Nat) (x : Opd)
  | alloc (back : Nat) (zero : List ASlot)
  | build (zero : List D) (parts : List (Nat × Nat × Opd))
  | buildSlice (u : Bool) (es len : Nat) (zero : List D) (parts : List (Nat × Nat × Opd))
  | load (n : Option Nat) (x : Opd)
  | store (n : Option Nat) (x v : Opd)
  | nilCheck (x : Opd)
  | bin (op : BinOp) (x y : Opd)
  | eqb (neg : Bool) (x y : Opd)
  | eqnil (neg : Bool) (k : NK) (x : Opd)
  | eqnilS (neg : Bool) (x : Opd)
  | eqAgg (neg : Bool) (ks : List CK) (x y : Opd)
  | not (x : Opd)
  | neg (x : Opd)
  | conv (k : IntKind) (x : Opd)
  | i2s (x : Opd)
  | b2s (x : Opd)
  | s2b (x : Opd)
  | mkFunc (fn : Fn) (first captured : List Opd)
  | makeSlice (u : Bool) (es bytes : Nat) (zero : List D) (l c : Opd)
  | slice (es : Nat) (x : Opd) (lo hi mx : Option Opd)
  | sliceS (x : Opd) (lo hi : Option Opd)
  | sliceA (len es : Nat) (x : Opd) (lo hi mx : Option Opd)
  | faddr (off : Nat) (x : Opd)
  | field (n : Option Nat) (off : Nat) (x : Opd)
  | iaddr (es : Nat) (x i : Opd)
  | iaddrA (len es : Nat) (x i : Opd)
  | indexS (x i : Opd)
  | indexA (len es : Nat) (n : Option Nat) (x i : Opd)
  | extract (i : Nat) (x : Opd)
  | len (x : Opd)
  | lenS (x : Opd)
  | asStr (x : Opd)
  | append (u : Bool) (es bytes : Nat) (s x : Opd)
  | copy (es : Nat) (s x : Opd)
  | minmax (mx : Bool) (x y : Opd)
  | call (f : Opd) (args : List Opd)

structure SOper where
  dst : Option Nat
  op : SOp
  guard : Option (Nat × Bool) := none

inductive SCode where
  | skip
  | region (ops : List SOper) (objs : Nat) (pairs : List (Nat × Nat))
  | seq (a b : SCode)
  | cond (c : Opd) (a b : SCode)
  | block (id : Nat) (a : SCode)
  | loop (a : SCode)
  | exit (id : Nat)
  | ret
  | pause (a : SCode)

inductive SExit where
  | normal
  | exit (id : Nat)
  | ret

/-! ### What an operation does -/

structure Out where
  v : ASlot
  ob : Prop
  rd : Option Nat := none
  wr : Option (Nat × AObj) := none
  cons : List Nat := []
  iss : List Nat := []
  mv : List (Nat × AObj) := []

/-- All objects that an operation leaves anew. -/
def Out.wrs (out : Out) : List (Nat × AObj) := out.wr.toList ++ out.mv

def setAll : List AObj → List (Nat × AObj) → List AObj
  | os, [] => os
  | os, (id, o) :: r => setAll (os.set id o) r

def Out.bad : Out := { v := .bad, ob := False }

def ASlot.asD : ASlot → Option D
  | .d x => some x
  | .own _ es rows => some (.sl es rows)
  | .full es rows => some (.sl es rows)
  | _ => none

/-- A slot that reads as this value, up to the element size of empty slices. -/
def ASlot.eqvD : ASlot → D → Prop
  | .d y, x => D.eqv y x
  | .own _ es rows, x => D.eqv (.sl es rows) x
  | .full es rows, x => D.eqv (.sl es rows) x
  | _, _ => False

def ASlot.cellD : ASlot → D
  | .d x => x
  | .own _ es rows => .sl es rows
  | .full es rows => .sl es rows
  | _ => default

/-- A slot that can be read as the value of one cell. -/
def ASlot.isCellD : ASlot → Bool
  | .d x => x.isCell
  | .own .. => true
  | .full .. => true
  | _ => false

/-- A slot that can lie in a cell. -/
def ASlot.isOne : ASlot → Bool
  | .d x => x.isCell
  | .own .. => true
  | .uni .. => true
  | .full .. => true
  | .rd _ => true
  | _ => false

/-- The cells of a value, as slots; 'n': how many, of an aggregate. -/
def ASlot.toCells : ASlot → List ASlot
  | .d (.agg cs) => cs.map .d
  | s => [s]

def ASlot.dCells : ASlot → List D
  | .d (.agg cs) => cs
  | s => [s.cellD]

def ASlot.dCellsOk : ASlot → Bool
  | .d _ => true
  | .own .. => true
  | .full .. => true
  | _ => false

def AObj.cells : AObj → List ASlot
  | .row cs => cs
  | .none => []

/-- The rows of a slice that is read. -/
def ASlot.rows : ASlot → Option (Nat × List (List D))
  | .d (.sl es rows) => some (es, rows)
  | .d .nilsl => some (0, [])
  | .own _ es rows => some (es, rows)
  | .full es rows => some (es, rows)
  | _ => none

/-- How many elements a slice has. -/
def ASlot.len? : ASlot → Option Nat
  | .d (.sl _ rows) => some rows.length
  | .d .nilsl => some 0
  | .d (.ref _ _ _ n) => some n
  | .own _ _ rows => some rows.length
  | .uni _ _ rows => some rows.length
  | .full _ rows => some rows.length
  | _ => none

def byteRows (s : List UInt8) : List (List D) := s.map fun c => [.int .u8 c.toNat]

/-- The bytes behind rows of bytes. -/
def rowsBytes : List (List D) → List UInt8
  | [.int _ n] :: r => UInt8.ofNat n.toNat :: rowsBytes r
  | _ :: r => 0 :: rowsBytes r
  | [] => []

def binInt (op : BinOp) (k : IntKind) (a b : Int) : ASlot × Prop :=
  match op with
  | .add => (.d (.int k (k.wrap (a + b))), True)
  | .sub => (.d (.int k (k.wrap (a - b))), True)
  | .mul => (.d (.int k (k.wrap (a * b))), True)
  | .quo => (.d (.int k (k.wrap (a.tdiv b))), b ≠ 0)
  | .rem => (.d (.int k (a.tmod b)), b ≠ 0)
  | .and => (.d (.int k (k.wrap ((BitVec.ofInt k.bits a) &&& (BitVec.ofInt k.bits b)).toNat)), True)
  | .or => (.d (.int k (k.wrap ((BitVec.ofInt k.bits a) ||| (BitVec.ofInt k.bits b)).toNat)), True)
  | .xor => (.d (.int k (k.wrap ((BitVec.ofInt k.bits a) ^^^ (BitVec.ofInt k.bits b)).toNat)), True)
  | .andNot => (.d (.int k (k.wrap ((BitVec.ofInt k.bits a) &&& ~~~(BitVec.ofInt k.bits b)).toNat)), True)
  | .eql => (.d (.bool (a == b)), True)
  | .neq => (.d (.bool (a != b)), True)
  | .lss => (.d (.bool (decide (a < b))), True)
  | .leq => (.d (.bool (decide (a ≤ b))), True)
  | .gtr => (.d (.bool (decide (a > b))), True)
  | .geq => (.d (.bool (decide (a ≥ b))), True)
  | _ => (.bad, False)

def binStr (op : BinOp) (a b : List UInt8) : ASlot × Prop :=
  match op with
  | .add => (.d (.str (a ++ b)), ((a.length + b.length : Nat) : Int) ≤ 9223372036854775807)
  | .eql => (.d (.bool (a == b)), True)
  | .neq => (.d (.bool (!(a == b))), True)
  | .lss => (.d (.bool (Op.bytesLess a b)), True)
  | .leq => (.d (.bool (Op.bytesLess a b || a == b)), True)
  | .gtr => (.d (.bool (!(Op.bytesLess a b || a == b))), True)
  | .geq => (.d (.bool (!(Op.bytesLess a b))), True)
  | _ => (.bad, False)

def binS (op : BinOp) : ASlot → ASlot → Out
  | .d (.int k a), .d (.int k' b) =>
    match op with
    | .shl => { v := .d (.int k (k.wrap (a * 2 ^ (min b.toNat k.bits)))), ob := 0 ≤ b }
    | .shr => { v := .d (.int k (a.fdiv (2 ^ (min b.toNat k.bits)))), ob := 0 ≤ b }
    | _ => { v := (binInt op k a b).1, ob := k = k' ∧ (binInt op k a b).2 }
  | .d (.str a), .d (.str b) => { v := (binStr op a b).1, ob := (binStr op a b).2 }
  | _, _ => .bad

def isNil : NK → ASlot → Option Bool
  | .ptr, .d .nilptr => some true
  | .ptr, .d (.ptr ..) => some false
  | .ptr, .rd _ => some false
  | .func, .d .nilfunc => some true
  | .func, .d (.func ..) => some false
  | .iface, .d .niliface => some true
  | .iface, .d (.iface ..) => some false
  | .map, .d .nilmap => some true
  | .map, .d (.map _) => some false
  | _, _ => none

def optInt : Option ASlot → Option Int
  | some (.d (.int _ n)) => some n
  | _ => none

/-- The parts of a literal over its zero. -/
def fillD : List D → List (Nat × List D) → List D
  | z, [] => z
  | z, (off, cs) :: r => fillD (z.take off ++ cs ++ z.drop (off + cs.length)) r

def chunks (es : Nat) : Nat → List D → List (List D)
  | 0, _ => []
  | n + 1, l => l.take es :: chunks es n (l.drop es)

/-- What stands at an object's cells. -/
def objCells (os : List AObj) (id : Nat) : List ASlot := match os[id]? with | some o => o.cells | none => []

def setCells : List ASlot → Nat → List ASlot → List ASlot
  | cs, _, [] => cs
  | cs, off, s :: r => setCells (cs.set off s) (off + 1) r

def storeAt (os : List AObj) (id off : Nat) (new : List ASlot) : Nat × AObj := (id, .row (setCells (objCells os id) off new))

/-- Equality of cells that hold ints, bools or strings. -/
def eqCell : D → D → Bool
  | .int _ a, .int _ b => a == b
  | .bool a, .bool b => a == b
  | .str a, .str b => a == b
  | _, _ => false

def eqOk : List CK → List D → List D → Bool
  | [], [], [] => true
  | .int :: ks, .int k _ :: l, .int k' _ :: r => (k == k') && eqOk ks l r
  | .bool :: ks, .bool _ :: l, .bool _ :: r => eqOk ks l r
  | .str :: ks, .str _ :: l, .str _ :: r => eqOk ks l r
  | _, _, _ => false

def eqCells : List D → List D → Bool
  | [], [] => true
  | a :: l, b :: r => eqCell a b && eqCells l r
  | _, _ => false

def loadOut (n : Option Nat) (os : List AObj) : ASlot → Out
  | .d (.ptr id off) =>
    match n with
    | none => { v := (objCells os id).getD off .bad, rd := some id, ob := off < (objCells os id).length }
    | some k => { v := .d (.agg ((((objCells os id).drop off).take k).map ASlot.cellD)), rd := some id, ob := 0 < (objCells os id).length ∧ off + k ≤ (objCells os id).length ∧ (((objCells os id).drop off).take k).all ASlot.isCellD = true }
  | .rd cs =>
    match n with
    | none => { v := .d (cs.getD 0 default), ob := 0 < cs.length }
    | some k => { v := .d (.agg (cs.take k)), ob := k ≤ cs.length }
  | _ => .bad

def storeOut (n : Option Nat) (os : List AObj) (p v : ASlot) : Out :=
  match p with
  | .d (.ptr id off) =>
    match n with
    | none => { v := .bad, ob := off < (objCells os id).length ∧ v.isOne = true, wr := some (storeAt os id off [v]) }
    | some k => match v with
      | .d (.agg cs) => { v := .bad, ob := cs.length = k ∧ 0 < (objCells os id).length ∧ off + k ≤ (objCells os id).length ∧ cs.all D.isCell = true, wr := some (storeAt os id off (cs.map .d)) }
      | _ => .bad
  | _ => .bad

def tokOf : ASlot → List Nat
  | .own t _ _ => [t]
  | .uni t _ _ => [t]
  | _ => []

/-- The elements that lie at an object. -/
def refRows (os : List AObj) (id off es n : Nat) : List (List D) := chunks es n (((objCells os id).drop off).map ASlot.cellD)
def refOk (os : List AObj) (id off es n : Nat) : Prop := off + n * es ≤ (objCells os id).length ∧ (((objCells os id).drop off).take (n * es)).all ASlot.isCellD = true

/-- The source of an append or a copy: the elements, the object that is read, what must be so. -/
structure Src where
  rows : List (List D)
  rd : Option Nat := none
  ok : Prop := True

def refSrc (es : Nat) (os : List AObj) : ASlot → Option Src
  | .d (.ref id off e n) => if e = es then some ⟨refRows os id off es n, some id, refOk os id off es n⟩ else none
  | _ => none

def srcOf (es : Nat) (os : List AObj) : ASlot → Option Src
  | .d (.str l) => if es = 1 then some ⟨byteRows l, none, True⟩ else none
  | x => match x.rows with
    | some (e, r) => if e = es ∨ r = [] then some ⟨r, none, True⟩ else none
    | none => refSrc es os x

def fits (bytes n : Nat) : Prop := n * bytes ≤ 140737488355328 ∧ n ≤ 9223372036854775807

/-- Appending to a slice that is ours alone. -/
def appendU (es bytes tk : Nat) (r : Src) : ASlot → Out
  | .uni t e l => { v := .uni tk es (l ++ r.rows), ob := r.ok ∧ e = es ∧ fits bytes (l.length + r.rows.length), rd := r.rd, cons := [t], iss := [tk] }
  | .d .nilsl => { v := .uni tk es r.rows, ob := r.ok ∧ fits bytes r.rows.length, rd := r.rd, cons := [], iss := [tk] }
  | .full _ l => { v := .uni tk es r.rows, ob := r.ok ∧ l = [] ∧ fits bytes r.rows.length, rd := r.rd, cons := [], iss := [tk] }
  | _ => .bad

def appendOut (u : Bool) (es bytes : Nat) (tk : Nat) (os : List AObj) (s x : ASlot) : Out :=
  match srcOf es os x with
  | some r =>
    match u with
    | true => appendU es bytes tk r s
    | false =>
      match s.rows with
      | some (e, l) =>
        { v := .own tk es (l ++ r.rows),
          ob := r.ok ∧ (e = es ∨ l = []) ∧ (match s with | .own _ _ _ => e = es | .full .. => True | .d .nilsl => True | _ => False) ∧ (l.length + r.rows.length) * bytes ≤ 140737488355328 ∧ l.length + r.rows.length ≤ 9223372036854775807,
          rd := r.rd, cons := tokOf s, iss := [tk] }
      | none => .bad
  | none => .bad

/-- Copying into an object. -/
def copyOut (es : Nat) (os : List AObj) (s x : ASlot) : Out :=
  match srcOf es os x, s with
  | some r, .d (.ref id off e n) =>
    { v := .d (.int .i64 (Nat.min r.rows.length n)), ob := r.ok ∧ e = es ∧ (n = 0 ∨ off + n * es ≤ (objCells os id).length), rd := r.rd, wr := some (storeAt os id off (((r.rows.take n).flatten).map .d)) }
  | _, _ => .bad

def hiB (n : Nat) : Option ASlot → Int
  | some s => (optInt (some s)).getD (-1)
  | none => n

def loB : Option ASlot → Int
  | some s => (optInt (some s)).getD (-1)
  | none => 0

def sliceOut (es : Nat) (x : ASlot) (lo hi mx : Option ASlot) : Out :=
  match x.rows with
  | some (e, l) =>
    let h : Int := hiB l.length hi
    let b : Int := loB lo
    let r := (l.drop b.toNat).take (h.toNat - b.toNat)
    let ok := (e = es ∨ l = []) ∧ 0 ≤ b ∧ b ≤ h ∧ h ≤ l.length
    match mx with
    | none => { v := .d (.sl e r), ob := ok }
    | some m => { v := .full e r, ob := ok ∧ optInt (some m) = some h ∧ hi.isSome = true }
  | none => match x with
    | .d (.ref id off e n) =>
      let h : Int := hiB n hi
      let b : Int := loB lo
      { v := .d (.ref id (off + b.toNat * es) es (h.toNat - b.toNat)), ob := e = es ∧ 0 ≤ b ∧ b ≤ h ∧ h ≤ n ∧ (match mx with | none => True | some m => optInt (some m) = some h ∧ hi.isSome = true) }
    | _ => .bad

/-- A slice of an array that lies at an object. -/
def sliceAOut (len es : Nat) (os : List AObj) (x : ASlot) (lo hi mx : Option ASlot) : Out :=
  match x with
  | .d (.ptr id off) =>
    let h : Int := hiB len hi
    let b : Int := loB lo
    { v := .d (.ref id (off + b.toNat * es) es (h.toNat - b.toNat)), rd := some id, ob := 0 ≤ b ∧ b ≤ h ∧ h ≤ len ∧ len ≤ 4611686018427387904 ∧ off + len * es ≤ (objCells os id).length ∧ (match mx with | none => True | some m => optInt (some m) = some h ∧ hi.isSome = true) }
  | _ => .bad

def sliceSOut (x : ASlot) (lo hi : Option ASlot) : Out :=
  match x with
  | .d (.str l) =>
    let h : Int := hiB l.length hi
    let b : Int := loB lo
    { v := .d (.str ((l.drop b.toNat).take (h.toNat - b.toNat))), ob := 0 ≤ b ∧ b ≤ h ∧ h ≤ l.length }
  | _ => .bad

/-- All operations but calls and the comparison of a slice with nil. -/
def sem (tb : Nat) (o : SOp) (st : St) : Out :=
  let fr := st.fr
  match o with
  | .mov x => { v := x.get fr, ob := x.ok fr = true }
  | .pick c a b =>
    match c.get fr, a.get fr, b.get fr with
    | .d (.bool c'), .d (.bool a'), .d (.bool b') => { v := .d (.bool (if c' then a' else b')), ob := c.ok fr = true ∧ (c' = true → a.ok fr = true) ∧ (c' = false → b.ok fr = true) }
    | _, _, _ => .bad
  | .box back x => { v := .d (.ptr (st.os.length - back) 0), ob := x.ok fr = true ∧ (x.get fr).toCells.all ASlot.isOne = true ∧ 0 < back ∧ back ≤ st.os.length ∧ st.os[st.os.length - back]? = some .none, wr := some (st.os.length - back, .row (x.get fr).toCells) }
  | .alloc back zero => { v := .d (.ptr (st.os.length - back) 0), ob := 0 < back ∧ back ≤ st.os.length ∧ st.os[st.os.length - back]? = some .none, wr := some (st.os.length - back, .row zero) }
  | .build zero parts =>
    { v := .d (.agg (fillD zero (parts.map fun p => (p.1, (p.2.2.get fr).dCells)))),
      ob := ∀ p ∈ parts, p.2.2.ok fr = true ∧ (p.2.2.get fr).dCellsOk = true ∧ (p.2.2.get fr).dCells.length = p.2.1 ∧ p.1 + p.2.1 ≤ zero.length }
  | .buildSlice u es len zero parts =>
    { v := match u with | true => .uni tb es (chunks es len (fillD ((List.replicate len zero).flatten) (parts.map fun p => (p.1, (p.2.2.get fr).dCells)))) | false => .full es (chunks es len (fillD ((List.replicate len zero).flatten) (parts.map fun p => (p.1, (p.2.2.get fr).dCells)))),
      ob := (∀ p ∈ parts, p.2.2.ok fr = true ∧ (p.2.2.get fr).dCellsOk = true ∧ (p.2.2.get fr).dCells.length = p.2.1 ∧ p.1 + p.2.1 ≤ len * es) ∧ (u = true → len ≤ 1000),
      iss := match u with | true => [tb] | false => [] }
  | .load n x => let r := loadOut n st.os (x.get fr); { r with ob := x.ok fr = true ∧ r.ob }
  | .store n x v => let r := storeOut n st.os (x.get fr) (v.get fr); { r with ob := x.ok fr = true ∧ v.ok fr = true ∧ r.ob }
  | .nilCheck x => { v := x.get fr, ob := x.ok fr = true ∧ (match x.get fr with | .d (.ptr ..) => True | .rd _ => True | .d (.func (.func _) _ _) => True | _ => False) }
  | .bin op x y => let r := binS op (x.get fr) (y.get fr); { r with ob := x.ok fr = true ∧ y.ok fr = true ∧ r.ob }
  | .eqb neg x y =>
    match x.get fr, y.get fr with
    | .d (.bool a), .d (.bool b) => { v := .d (.bool (if neg then !(a == b) else a == b)), ob := x.ok fr = true ∧ y.ok fr = true }
    | _, _ => .bad
  | .eqnil neg k x =>
    match isNil k (x.get fr) with
    | some b => { v := .d (.bool (if neg then !b else b)), ob := x.ok fr = true }
    | none => .bad
  | .eqnilS .. => .bad
  | .eqAgg neg ks x y =>
    match x.get fr, y.get fr with
    | .d (.agg a), .d (.agg b) => { v := .d (.bool (if neg then !(eqCells a b) else eqCells a b)), ob := x.ok fr = true ∧ y.ok fr = true ∧ eqOk ks a b = true }
    | _, _ => .bad
  | .not x => match x.get fr with | .d (.bool b) => { v := .d (.bool !b), ob := x.ok fr = true } | _ => .bad
  | .neg x => match x.get fr with | .d (.int k n) => { v := .d (.int k (k.wrap (0 - n))), ob := x.ok fr = true } | _ => .bad
  | .conv k x => match x.get fr with | .d (.int _ n) => { v := .d (.int k (k.wrap n)), ob := x.ok fr = true } | _ => .bad
  | .i2s x => match x.get fr with | .d (.int _ n) => { v := .d (.str (Utf8.encode n).data.toList), ob := x.ok fr = true } | _ => .bad
  | .b2s x =>
    match (x.get fr).rows with
    | some (_, r) => { v := .d (.str (rowsBytes r)), ob := x.ok fr = true ∧ ∃ l, r = byteRows l }
    | none => match refSrc 1 st.os (x.get fr) with
      | some r => { v := .d (.str (rowsBytes r.rows)), rd := r.rd, ob := x.ok fr = true ∧ r.ok ∧ ∃ l, r.rows = byteRows l }
      | none => .bad
  | .s2b x => match x.get fr with | .d (.str l) => { v := .d (.sl 1 (byteRows l)), ob := x.ok fr = true } | _ => .bad
  | .mkFunc fn first captured =>
    { v := .d (.func fn (first.map fun x => (x.get fr).cellD) (captured.map fun x => (x.get fr).cellD)),
      ob := (∀ x ∈ first, x.ok fr = true ∧ ∃ d, x.get fr = .d d) ∧ (∀ x ∈ captured, x.ok fr = true ∧ ∃ d, x.get fr = .d d) }
  | .makeSlice u es bytes zero l c =>
    match l.get fr, c.get fr with
    | .d (.int _ a), .d (.int _ b) =>
      { v := match u with | true => .uni tb es (List.replicate a.toNat zero) | false => .own tb es (List.replicate a.toNat zero), ob := l.ok fr = true ∧ c.ok fr = true ∧ 0 ≤ a ∧ a ≤ b ∧ b ≤ 9223372036854775807 ∧ b * bytes ≤ 281474976710656, iss := [tb] }
    | _, _ => .bad
  | .slice es x lo hi mx =>
    let r := sliceOut es (x.get fr) (lo.map (·.get fr)) (hi.map (·.get fr)) (mx.map (·.get fr))
    { r with ob := x.ok fr = true ∧ (∀ y ∈ lo, y.ok fr = true) ∧ (∀ y ∈ hi, y.ok fr = true) ∧ (∀ y ∈ mx, y.ok fr = true) ∧ r.ob }
  | .sliceA len es x lo hi mx =>
    let r := sliceAOut len es st.os (x.get fr) (lo.map (·.get fr)) (hi.map (·.get fr)) (mx.map (·.get fr))
    { r with ob := x.ok fr = true ∧ (∀ y ∈ lo, y.ok fr = true) ∧ (∀ y ∈ hi, y.ok fr = true) ∧ (∀ y ∈ mx, y.ok fr = true) ∧ r.ob }
  | .sliceS x lo hi =>
    let r := sliceSOut (x.get fr) (lo.map (·.get fr)) (hi.map (·.get fr))
    { r with ob := x.ok fr = true ∧ (∀ y ∈ lo, y.ok fr = true) ∧ (∀ y ∈ hi, y.ok fr = true) ∧ r.ob }
  | .faddr off x =>
    match x.get fr with
    | .d (.ptr id o) => { v := .d (.ptr id (o + off)), ob := x.ok fr = true }
    | .rd cs => { v := .rd (cs.drop off), ob := x.ok fr = true ∧ off ≤ cs.length }
    | _ => .bad
  | .field n off x =>
    match x.get fr with
    | .d (.agg cs) =>
      match n with
      | none => { v := .d (cs.getD off default), ob := x.ok fr = true ∧ off < cs.length }
      | some k => { v := .d (.agg ((cs.drop off).take k)), ob := x.ok fr = true ∧ off + k ≤ cs.length }
    | _ => .bad
  | .iaddr es x i =>
    match (x.get fr).rows, i.get fr with
    | some (e, l), .d (.int _ n) => { v := .rd (l.getD n.toNat []), ob := x.ok fr = true ∧ i.ok fr = true ∧ e = es ∧ 0 ≤ n ∧ n < l.length }
    | none, .d (.int _ n) =>
      match x.get fr with
      | .d (.ref id off e len) => { v := .d (.ptr id (off + n.toNat * es)), ob := x.ok fr = true ∧ i.ok fr = true ∧ e = es ∧ 0 ≤ n ∧ n < len }
      | _ => .bad
    | _, _ => .bad
  | .iaddrA len es x i =>
    match x.get fr, i.get fr with
    | .d (.ptr id o), .d (.int _ n) => { v := .d (.ptr id (o + n.toNat * es)), ob := x.ok fr = true ∧ i.ok fr = true ∧ 0 ≤ n ∧ n < len }
    | .rd cs, .d (.int _ n) => { v := .rd (cs.drop (n.toNat * es)), ob := x.ok fr = true ∧ i.ok fr = true ∧ 0 ≤ n ∧ n < len ∧ len * es ≤ cs.length }
    | _, _ => .bad
  | .indexS x i =>
    match x.get fr, i.get fr with
    | .d (.str l), .d (.int _ n) => { v := .d (.int .u8 (l.getD n.toNat 0).toNat), ob := x.ok fr = true ∧ i.ok fr = true ∧ 0 ≤ n ∧ n < l.length }
    | _, _ => .bad
  | .indexA len es n x i =>
    match x.get fr, i.get fr with
    | .d (.agg cs), .d (.int _ j) =>
      match n with
      | none => { v := .d (cs.getD (j.toNat * es) default), ob := x.ok fr = true ∧ i.ok fr = true ∧ 0 ≤ j ∧ j < len ∧ j.toNat * es < cs.length }
      | some k => { v := .d (.agg ((cs.drop (j.toNat * es)).take k)), ob := x.ok fr = true ∧ i.ok fr = true ∧ 0 ≤ j ∧ j < len ∧ j.toNat * es + k ≤ cs.length }
    | _, _ => .bad
  | .extract i x =>
    match x.get fr with
    | .tup l => { v := l.getD i .bad, ob := x.ok fr = true ∧ i < l.length }
    | _ => .bad
  | .len x =>
    match (x.get fr).len? with
    | some n => { v := .d (.int .i64 n), ob := x.ok fr = true }
    | none => .bad
  | .lenS x => match x.get fr with | .d (.str l) => { v := .d (.int .i64 l.length), ob := x.ok fr = true } | _ => .bad
  | .asStr x => match x.get fr with | .d (.str l) => { v := .d (.str l), ob := x.ok fr = true } | _ => .bad
  | .append u es bytes s x => let r := appendOut u es bytes tb st.os (s.get fr) (x.get fr); { r with ob := s.ok fr = true ∧ x.ok fr = true ∧ r.ob }
  | .copy es s x => let r := copyOut es st.os (s.get fr) (x.get fr); { r with ob := s.ok fr = true ∧ x.ok fr = true ∧ r.ob }
  | .minmax mx x y =>
    match x.get fr, y.get fr with
    | .d (.int k a), .d (.int k' b) => { v := .d (.int k (match mx with | true => (if b > a then b else a) | false => (if b < a then b else a))), ob := x.ok fr = true ∧ y.ok fr = true ∧ k = k' }
    | _, _ => .bad
  | .call .. => .bad

end Go.Abs
