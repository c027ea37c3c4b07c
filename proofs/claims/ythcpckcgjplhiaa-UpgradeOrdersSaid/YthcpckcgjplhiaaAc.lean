/- The abstract layer, part 3: the translation of the model's code into abstract code. -/
import Derived.Test.YthcpckcgjplhiaaAb
namespace Go.Abs

def constD : Value → Option D
  | .int k n => some (.int k n)
  | .bool b => some (.bool b)
  | .string s => some (.str s.data.toList)
  | .pointer none => some .nilptr
  | .nilFunc => some .nilfunc
  | .nilIface => some .niliface
  | .map none => some .nilmap
  | .slice none 0 0 => some .nilsl
  | _ => none

/-- A constant as a slot. -/
def constS : Value → Option ASlot
  | .agg cs => (cs.toList.mapM constD).map fun l => .d (.agg l)
  | v => (constD v).map .d

/-- A constant cell as a slot. -/
def constC : Value → Option ASlot
  | v => (constD v).map .d

def opdOf : Operand → Option Opd
  | .tmp t => some (.t t)
  | .const v => (constS v).map .k
  | .func f => some (.k (.d (.func (.func f) [] [])))
  | .global _ => none

section
variable (P : Program)

/-- None: no such type; some none: a value of one cell; some (some n): an aggregate of n cells. -/
def aggN (t : TypeId) : Option (Option Nat) :=
  match P.info? t, P.underlying t with
  | some i, some (.struct _) => some (some i.size)
  | some i, some (.array _ _) => some (some i.size)
  | some i, some _ => if i.size = 1 then some none else none
  | _, _ => none

def zeroCellsD (t : TypeId) : Option (List D) :=
  match P.info? t with
  | some i => match i.zero with
    | some z => z.cells.toList.mapM constD
    | none => none
  | none => none

def zeroCellsS (t : TypeId) : Option (List ASlot) :=
  match P.info? t with
  | some i => match i.zero with
    | some z => z.cells.toList.mapM constC
    | none => none
  | none => none

/-- Offset and size of a part. -/
def placeOf (t : TypeId) (i : Nat) : Option (Nat × Nat) :=
  match P.underlying t with
  | some (.struct fs) => match fs[i]? with
    | some f => (P.info? f.type).map fun j => (f.offset, j.size)
    | none => none
  | some (.array _ e) => (P.info? e).map fun j => (i * j.size, j.size)
  | some (.slice e) => (P.info? e).map fun j => (i * j.size, j.size)
  | _ => none

def partsOf (t : TypeId) (parts : List (Nat × Operand)) : Option (List (Nat × Nat × Opd)) :=
  parts.mapM fun p => match placeOf P t p.1, opdOf p.2 with
    | some (off, size), some x => some (off, size, x)
    | _, _ => none

/-- The kinds of the fields of a struct of ints, bools and strings. -/
def plainKinds : Nat → List Field → Option (List CK)
  | _, [] => some []
  | i, f :: fs =>
    if f.offset = i ∧ f.name ≠ "_" ∧ (P.info? f.type).map (·.size) = some 1 then
      match P.underlying f.type, plainKinds (i + 1) fs with
      | some (.int _), some r => some (.int :: r)
      | some .bool, some r => some (.bool :: r)
      | some .string, some r => some (.str :: r)
      | _, _ => none
    else none

def plainStruct (t : TypeId) : Option (List CK) :=
  match P.underlying t with
  | some (.struct fs) => if P.stoodInHeld t = false ∧ P.eqGuardType P.depth t = false then plainKinds P 0 fs.toList else none
  | _ => none

def isNilConst : Operand → Bool
  | .const (.slice none 0 0) => true
  | _ => false

def nilKind (d : TypeDesc) (y : Operand) : Option NK :=
  match d, y with
  | .pointer _, .const (.pointer none) => some .ptr
  | .func _ _ _, .const .nilFunc => some .func
  | .interface _, .const .nilIface => some .iface
  | .map _ _, .const (.map none) => some .map
  | _, _ => none

def compOp (uu : Bool) (back : Nat) : Op → Option SOp
  | .move x => (opdOf x).map .mov
  | .assign x => (opdOf x).map .mov
  | .pick c a b => match opdOf c, opdOf a, opdOf b with
    | some c, some a, some b => some (.pick c a b)
    | _, _, _ => none
  | .box _ x => (opdOf x).map (.box back)
  | .alloc t => (zeroCellsS P t).map (.alloc back)
  | .build t parts => match zeroCellsD P t, partsOf P t parts.toList, P.underlying t with
    | some z, some ps, some (.struct fs) => if (fs.toList.mapM fun f => (P.info? f.type).map fun i => (f.offset, i.size)).isSome then some (.build z ps) else none
    | some z, some ps, some (.array _ e) => if (P.info? e).isSome then some (.build z ps) else none
    | _, _, _ => none
  | .buildSlice t len parts => match P.underlying t with
    | some (.slice e) => match zeroCellsD P e, partsOf P t parts.toList, P.info? e with
      | some z, some ps, some i => if i.size = z.length ∧ 0 < i.size ∧ len * i.size ≤ 16777216 then some (.buildSlice uu i.size len z ps) else none
      | _, _, _ => none
    | _ => none
  | .load t a => match aggN P t, opdOf a with
    | some n, some x => some (.load n x)
    | _, _ => none
  | .store t a v => match aggN P t, opdOf a, opdOf v with
    | some n, some x, some y => some (.store n x y)
    | _, _, _ => none
  | .nilCheck x => (opdOf x).map .nilCheck
  | .binOp op t x y _ => match opdOf x, opdOf y, P.underlying t with
    | some a, some b, some (.int _) => some (.bin op a b)
    | some a, some b, some .string => some (.bin op a b)
    | some a, some b, some .bool => match op with
      | .eql => some (.eqb false a b)
      | .neq => some (.eqb true a b)
      | _ => none
    | some a, some _, some (.slice _) => if isNilConst y then (match op with
      | .eql => some (.eqnilS false a)
      | .neq => some (.eqnilS true a)
      | _ => none) else none
    | some a, some b, some (.struct _) => match plainStruct P t, op with
      | some ks, .eql => some (.eqAgg false ks a b)
      | some ks, .neq => some (.eqAgg true ks a b)
      | _, _ => none
    | some a, some _, some d => match nilKind d y, op with
      | some k, .eql => some (.eqnil false k a)
      | some k, .neq => some (.eqnil true k a)
      | _, _ => none
    | _, _, _ => none
  | .unOp op _ x => match op, opdOf x with
    | .not, some a => some (.not a)
    | .neg, some a => some (.neg a)
    | _, _ => none
  | .convert src dst x => match P.underlying src, P.underlying dst, opdOf x with
    | some (.int _), some (.int k), some a => some (.conv k a)
    | some .string, some .string, some a => some (.asStr a)
    | some (.int _), some .string, some a => some (.i2s a)
    | some (.slice e), some .string, some a => match P.underlying e with
      | some (.int .u8) => some (.b2s a)
      | _ => none
    | some .string, some (.slice e), some a => match P.underlying e with
      | some (.int .u8) => some (.s2b a)
      | _ => none
    | _, _, _ => none
  | .makeFunc fn first captured => match first.toList.mapM opdOf, captured.toList.mapM opdOf with
    | some a, some b => some (.mkFunc fn a b)
    | _, _ => none
  | .makeSlice t l c => match P.underlying t with
    | some (.slice e) => match zeroCellsD P e, P.info? e, opdOf l, opdOf c with
      | some z, some i, some a, some b => if i.size = z.length ∧ 0 < i.size then some (.makeSlice uu i.size i.bytes z a b) else none
      | _, _, _, _ => none
    | _ => none
  | .slice t x lo hi mx => match P.underlying t, opdOf x, lo.mapM opdOf, hi.mapM opdOf, mx.mapM opdOf with
    | some (.slice e), some a, some l, some h, some m => (P.info? e).map fun i => .slice i.size a l h m
    | some .string, some a, some l, some h, some none => some (.sliceS a l h)
    | some (.array n e), some a, some l, some h, some m => match P.info? e with
      | some i => if 0 < i.size then some (.sliceA n i.size a l h m) else none
      | none => none
    | _, _, _, _, _ => none
  | .fieldAddr t x f => match P.underlying t, opdOf x with
    | some (.struct fs), some a => match fs[f]? with
      | some g => match P.info? g.type with
        | some i => if i.size = 0 then none else some (.faddr g.offset a)
        | none => none
      | none => none
    | _, _ => none
  | .field t x f => match P.underlying t, opdOf x with
    | some (.struct fs), some a => match fs[f]? with
      | some g => (aggN P g.type).map fun n => .field n g.offset a
      | none => none
    | _, _ => none
  | .indexAddr t x i => match P.underlying t, opdOf x, opdOf i with
    | some (.slice e), some a, some b => match P.info? e with
      | some j => if 0 < j.size then some (.iaddr j.size a b) else none
      | none => none
    | some (.array n e), some a, some b => match P.info? e with
      | some j => if 0 < j.size then some (.iaddrA n j.size a b) else none
      | none => none
    | _, _, _ => none
  | .index t x i => match P.underlying t, opdOf x, opdOf i with
    | some .string, some a, some b => some (.indexS a b)
    | some (.array n e), some a, some b => match P.info? e, aggN P e with
      | some j, some k => some (.indexA n j.size k a b)
      | _, _ => none
    | _, _, _ => none
  | .extract x i => (opdOf x).map (.extract i)
  | .call c => match c.callee with
    | .value f => match opdOf f, c.args.toList.mapM opdOf with
      | some a, some l => some (.call a l)
      | _, _ => none
    | .builtin .len => match c.args.toList, c.argTypes.toList with
      | [x], [t] => match opdOf x, P.underlying t with
        | some a, some .string => some (.lenS a)
        | some a, some (.slice _) => some (.len a)
        | _, _ => none
      | _, _ => none
    | .builtin .append => match c.args.toList, c.argTypes.toList with
      | [s, x], [t, u] => match P.underlying t, P.underlying u, opdOf s, opdOf x with
        | some (.slice e), some (.slice _), some a, some b => match P.info? e, zeroCellsD P e with
          | some i, some z => if i.size = z.length ∧ 0 < i.size ∧ 0 < i.bytes then some (.append uu i.size i.bytes a b) else none
          | _, _ => none
        | some (.slice e), some .string, some a, some b => match P.info? e, zeroCellsD P e with
          | some i, some z => if i.size = z.length ∧ i.size = 1 ∧ 0 < i.bytes then some (.append uu i.size i.bytes a b) else none
          | _, _ => none
        | _, _, _, _ => none
      | _, _ => none
    | .builtin .copy => match c.args.toList, c.argTypes.toList with
      | [s, x], [t, u] => match P.underlying t, P.underlying u, opdOf s, opdOf x with
        | some (.slice e), some (.slice _), some a, some b => (P.info? e).map fun i => .copy i.size a b
        | some (.slice e), some .string, some a, some b => match P.info? e with
          | some i => if i.size = 1 then some (.copy i.size a b) else none
          | none => none
        | _, _, _, _ => none
      | _, _ => none
    | .builtin .min => match c.args.toList with
      | [x, y] => match opdOf x, opdOf y with
        | some a, some b => some (.minmax false a b)
        | _, _ => none
      | _ => none
    | .builtin .max => match c.args.toList with
      | [x, y] => match opdOf x, opdOf y with
        | some a, some b => some (.minmax true a b)
        | _, _ => none
      | _ => none
    | _ => none
  | _ => none

def compOper (mu : List Nat) (ops : Array Oper) (N back : Nat) (o : Oper) : Option SOper :=
  match compOp P (o.dst.any mu.contains) back o.op with
  | none => none
  | some op =>
    if o.dst.all (· < N) then
      match o.guard with
      | none => some { dst := o.dst, op }
      | some (j, b) => match (ops[j]?).bind (·.dst) with
        | some d => some { dst := o.dst, op, guard := some (d, b) }
        | none => none
    else none
end

/-! ### Independence of unordered operations -/

def Opd.slot : Opd → List Nat
  | .t n => [n]
  | .k _ => []

def SOp.opds : SOp → List Opd
  | .mov x | .box _ x | .load _ x | .nilCheck x | .eqnil _ _ x | .eqnilS _ x | .not x | .neg x | .conv _ x | .i2s x | .b2s x | .s2b x | .faddr _ x | .field _ _ x | .extract _ x | .len x | .lenS x | .asStr x => [x]
  | .pick c a b => [c, a, b]
  | .alloc .. => []
  | .build _ ps | .buildSlice _ _ _ _ ps => ps.map (·.2.2)
  | .store _ x v | .bin _ x v | .eqb _ x v | .eqAgg _ _ x v | .makeSlice _ _ _ _ x v | .copy _ x v | .minmax _ x v | .iaddr _ x v | .iaddrA _ _ x v | .indexS x v | .indexA _ _ _ x v | .append _ _ _ x v => [x, v]
  | .mkFunc _ a b => a ++ b
  | .slice _ x lo hi mx => x :: (lo.toList ++ hi.toList ++ mx.toList)
  | .sliceA _ _ x lo hi mx => x :: (lo.toList ++ hi.toList ++ mx.toList)
  | .sliceS x lo hi => x :: (lo.toList ++ hi.toList)
  | .call f args => f :: args

def SOper.looks (o : SOper) : List Nat := o.op.opds.flatMap Opd.slot ++ (match o.guard with | some (k, _) => [k] | none => [])

def SOp.memR : SOp → Bool
  | .load .. | .append .. | .copy .. | .b2s .. | .sliceA .. => true
  | _ => false

def SOp.memW : SOp → Bool
  | .store .. | .box .. | .alloc .. | .call .. | .copy .. => true
  | _ => false

def SOp.isNilS : SOp → Bool
  | .eqnilS .. => true
  | _ => false

/-- Constants hold no tokens. -/
def Opd.clean : Opd → Bool
  | .t _ => true
  | .k (.own ..) => false
  | .k (.uni ..) => false
  | .k (.tup _) => false
  | .k _ => true

/-- Two operations whose slots do not meet. -/
def SOper.apart (x y : SOper) : Bool :=
  (match x.dst with | some d => !y.looks.contains d && y.dst != some d | none => true) &&
  (match y.dst with | some d => !x.looks.contains d | none => true)

/-- The operations ahead of each one, by their numbers. -/
def preds (ops : List Oper) : List (List Nat) :=
  ops.foldl (init := []) fun acc o => acc ++ [((o.after.toList.filter (Region.binds .any)).flatMap fun e => e.on :: acc.getD e.on []).eraseDups]

def unordered (ps : List (List Nat)) (i j : Nat) : Bool := !(ps.getD j []).contains i

def indep (ps : List (List Nat)) (sops : List SOper) : Bool :=
  (List.range sops.length).all fun j => (List.range j).all fun i =>
    !unordered ps i j || (match sops[i]?, sops[j]? with | some x, some y => x.apart y | _, _ => false)

/-- The unordered pairs that both touch objects, one of them as a writer. -/
def memPairs (ps : List (List Nat)) (sops : List SOper) : List (Nat × Nat) :=
  (List.range sops.length).flatMap fun j => (List.range j).filterMap fun i =>
    if unordered ps i j && (match sops[i]?, sops[j]? with | some x, some y => (x.op.memW && (y.op.memR || y.op.memW)) || (x.op.memR && y.op.memW) | _, _ => false) then some (i, j) else none

def edgesBack (ops : List Oper) : Bool :=
  ops.zipIdx.all fun (o, i) => (o.after.toList.filter (Region.binds .any)).all fun e => e.on < i

def Op.allocs : Op → Bool
  | .box .. | .alloc _ => true
  | _ => false

section
variable (P : Program) (mu : List Nat) (N : Nat)

def compOps (ops : Array Oper) : List Oper → Option (List SOper)
  | [] => some []
  | o :: l => match compOper P mu ops N ((o :: l).countP (Op.allocs ·.op)) o, compOps ops l with
    | some x, some r => some (x :: r)
    | _, _ => none

/-- How many objects the calls of these operations may make. -/
def newsOf (news : List (FuncId × Nat)) : List SOper → Nat
  | [] => 0
  | o :: l => (match o.op with
    | .call (.k (.d (.func (.func f) _ _))) _ => (news.lookup f).getD 0
    | _ => 0) + newsOf news l

/-- The operations; how many objects they make; the pairs that must touch different objects (none: the order is the text's). -/
def compRegion (news : List (FuncId × Nat)) (ops : Array Oper) (draw : Bool) : Option (List SOper × Nat × List (Nat × Nat)) :=
  match compOps P mu N ops ops.toList with
  | none => none
  | some sops =>
    let k := newsOf news sops + ops.toList.countP (Op.allocs ·.op)
    if draw then
      if edgesBack ops.toList && indep (preds ops.toList) sops && !sops.any (·.op.isNilS) && sops.all (·.op.opds.all Opd.clean) then some (sops, k, memPairs (preds ops.toList) sops) else none
    else some (sops, k, [])

def compCode (news : List (FuncId × Nat)) : Code → Option SCode
  | .skip => some .skip
  | .region _ ops draw => (compRegion P mu N news ops draw).map fun l => .region l.1 l.2.1 l.2.2
  | .seq a b => match compCode news a, compCode news b with
    | some x, some y => some (.seq x y)
    | _, _ => none
  | .cond c a b => match opdOf c, compCode news a, compCode news b with
    | some c, some x, some y => some (.cond c x y)
    | _, _, _ => none
  | .block id a => (compCode news a).map (.block id)
  | .loop a => (compCode news a).map .loop
  | .exit id => some (.exit id)
  | .ret => some .ret
  | _ => none
end

/-- Abstract code without its pauses. -/
def SCode.erase : SCode → SCode
  | .seq a b => .seq a.erase b.erase
  | .cond c a b => .cond c a.erase b.erase
  | .block id a => .block id a.erase
  | .loop a => .loop a.erase
  | .pause a => a.erase
  | c => c

end Go.Abs
