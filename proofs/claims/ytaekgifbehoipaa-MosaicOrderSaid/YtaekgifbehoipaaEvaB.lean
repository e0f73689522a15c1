/- How a function of the model becomes code of the abstract machine. Conditions: none; what is not known becomes `bad`, which never runs. -/
import Derived.Test.YtaekgifbehoipaaEvaA
namespace Go.Proofs.Ytaekgifbehoipaa.Eva
open Go

def cVal1 : Value → Option AV
  | .int k n => some (.int k n)
  | .bool b => some (.bool b)
  | .string s => some (.str s)
  | .float k b => some (.flt k b)
  | .pointer none => some .np
  | .nilFunc => some .nf
  | .nilIface => some .ni
  | .slice none 0 0 => some (.sl true 0 0 0 0 0)
  | .func (.func f) a b => if a.size = 0 ∧ b.size = 0 then some (.fn f []) else none
  | _ => none
def cVals : List Value → Option (List AV)
  | [] => some []
  | v :: r => match cVal1 v, cVals r with
    | some a, some l => some (a :: l)
    | _, _ => none
def cVal : Value → Option AV
  | .agg cs => (cVals cs.toList).map .agg
  | v => cVal1 v
def cOpd : Operand → Option Opd
  | .tmp t => some (.t t)
  | .const v => (cVal v).map .k
  | .func f => some (.k (.fn f []))
  | .global _ => none
def cOpds : List Operand → Option (List Opd)
  | [] => some []
  | x :: r => match cOpd x, cOpds r with
    | some a, some l => some (a :: l)
    | _, _ => none
def cOpdO : Option Operand → Option (Option Opd)
  | none => some none
  | some x => (cOpd x).map some

section
variable (P : Program)
def sizeT (t : TypeId) : Option Nat := (P.info? t).map (·.size)
def aggT (t : TypeId) : Option Bool :=
  match P.underlying t with
  | some (.struct _) | some (.array _ _) => some true
  | some _ => some false
  | none => none
def zeroT (t : TypeId) : Option Value := (P.info? t).bind (·.zero)
/-- The kinds of the cells of a plain type. -/
def kindsF (kt : TypeId → Option (List PK)) : List Field → Nat → Option (List PK)
  | [], _ => some []
  | f :: fs, off =>
    match kt f.type, sizeT P f.type, kindsF kt fs (off + (sizeT P f.type).getD 0) with
    | some k, some n, some r => if f.name ≠ "_" ∧ f.offset = off ∧ n = k.length then some (k ++ r) else none
    | _, _, _ => none
def kindsT : Nat → TypeId → Option (List PK)
  | 0, _ => none
  | d + 1, t =>
    match P.underlying t with
    | some .bool => some [.b]
    | some (.int _) => some [.i]
    | some .string => some [.s]
    | some (.struct fs) => if P.stoodInHeld t then none else kindsF P (kindsT d) fs.toList 0
    | _ => none

def cParts (place : Nat → Option (Nat × Nat)) : List (Nat × Operand) → Option (List (Nat × Nat × Opd))
  | [] => some []
  | (i, x) :: r => match place i, cOpd x, cParts place r with
    | some (off, n), some a, some l => some ((off, n, a) :: l)
    | _, _, _ => none

def nilKind (t : TypeId) (y : Operand) : Option Nat :=
  match P.underlying t, y with
  | some (.slice _), .const (.slice none 0 0) => some 0
  | some (.pointer _), .const (.pointer none) => some 1
  | some (.func _ _ _), .const .nilFunc => some 2
  | _, _ => none

def cBin (op : BinOp) (t : TypeId) (x y : Operand) : Option I := do
  let a ← cOpd x
  let b ← cOpd y
  match op with
  | .eql | .neq =>
    let neg := match op with | .neq => true | _ => false
    match P.underlying t with
    | some .bool => pure (.eqs neg none a b)
    | some (.int _) | some .string | some (.float _) => pure (.bin op a b)
    | some (.struct _) =>
      let ks ← kindsT P 8 t
      if P.eqGuardType P.depth t then failure
      pure (.eqs neg (some ks) a b)
    | _ => do pure (.eqn neg (← nilKind P t y) a)
  | op => pure (.bin op a b)

def cSlice (t : TypeId) (x : Operand) (lo hi mx : Option Operand) : Option I := do
  let a ← cOpd x
  let l ← cOpdO lo
  let h ← cOpdO hi
  match P.underlying t, mx with
  | some (.slice e), none => do pure (.slc (← sizeT P e) a l h)
  | some (.slice e), some m => do
    let m ← cOpd m
    let h ← h
    let _ ← sizeT P e
    pure (.slz a (l.getD (.k (.int .i64 0))) h m)
  | some (.array n e), none => do pure (.sla n (← sizeT P e) a l h)
  | some (.pointer ar), none => match P.underlying ar with
    | some (.array n e) => do pure (.sla n (← sizeT P e) a l h)
    | _ => failure
  | some .string, none => pure (.sls a l h)
  | _, _ => failure

def cBuiltin (b : Builtin) (args : List Operand) (ts : List TypeId) : Option I := do
  let xs ← cOpds args
  match b, xs, ts with
  | .len, [x], [t] => match P.underlying t with
    | some (.array n _) => pure (.lenc n)
    | some (.pointer ar) => match P.underlying ar with
      | some (.array n _) => pure (.lenc n)
      | _ => failure
    | some (.slice _) => pure (.lenv false x)
    | some .string => pure (.lenv true x)
    | _ => failure
  | .cap, [x], [t] => match P.underlying t with
    | some (.slice _) => pure (.capv x)
    | _ => failure
  | .append, [x, y], [t, u] => match P.underlying t, P.underlying u with
    | some (.slice e), some (.int _) => do
      let i ← P.info? e
      let z ← i.zero
      let zs ← cVals z.cells.toList
      if i.bytes = 0 ∨ zs.length ≠ i.size ∨ i.size = 0 then failure
      pure (.appz zs i.bytes x y)
    | some (.slice e), some _ => do
      let i ← P.info? e
      let z ← i.zero
      if i.bytes = 0 ∨ z.cells.size ≠ i.size then failure
      pure (.app i.size i.bytes x y)
    | _, _ => failure
  | .copy, [x, y], t :: _ => match P.underlying t with
    | some (.slice e) => do pure (.cpy (← sizeT P e) x y)
    | _ => failure
  | .clear, [x], [t] => match P.underlying t with
    | some (.slice e) => do
      let z ← zeroT P e
      let zs ← cVals z.cells.toList
      if zs = [] then failure
      pure (.clr zs x)
    | _ => failure
  | .min, x :: r, _ => pure (.mnx false x r)
  | .max, x :: r, _ => pure (.mnx true x r)
  | _, _, _ => failure

/-- The functions outside of the program that the machine knows. -/
def xfName (s : String) : Option Nat :=
  if s = "math.sqrt" then some 0 else if s = "math.Float64bits" then some 1 else if s = "math.Float64frombits" then some 2 else none
def xfOf : Operand → Option Nat
  | .func f => match P.funcs[f]? with
    | some fn => if fn.body.isNone ∧ fn.origin = "" then xfName fn.name else none
    | none => none
  | _ => none

def cOp (o : Op) : Option I :=
  match o with
  | .move x | .assign x => (cOpd x).map .mv
  | .pick c a b => do pure (.pick (← cOpd c) (← cOpd a) (← cOpd b))
  | .alloc e => do pure (.new (← cVals (← zeroT P e).cells.toList))
  | .box _ x => do pure (.box (← cOpd x))
  | .build t ps => do
    let z ← cVals (← zeroT P t).cells.toList
    match P.underlying t with
    | some (.struct fs) =>
      if fs.toList.all (fun f => (sizeT P f.type).isSome) then do
        pure (.mk z (← cParts (fun i => match fs[i]? with
          | some f => (sizeT P f.type).map fun n => (f.offset, n)
          | none => none) ps.toList))
      else failure
    | some (.array _ e) => do
      let n ← sizeT P e
      pure (.mk z (← cParts (fun i => some (i * n, n)) ps.toList))
    | _ => failure
  | .buildSlice t len ps => match P.underlying t with
    | some (.slice e) => do
      let n ← sizeT P e
      if len * n > 2 ^ 24 then failure
      let z := (← if len * n = 0 then some #[] else (zeroT P e).map (·.cells))
      let zs ← cVals ((Array.range (len * n)).map (z[· % z.size]!)).toList
      pure (.mks zs n len (← cParts (fun i => some (i * n, n)) ps.toList))
    | _ => failure
  | .load t a => do
    let a ← cOpd a
    if ← aggT P t then pure (.ldn (← sizeT P t) a) else pure (.ld1 a)
  | .store t a x => do pure (.st (← sizeT P t) (← cOpd a) (← cOpd x))
  | .nilCheck x => (cOpd x).map .nchk
  | .binOp op t x y _ => cBin P op t x y
  | .unOp op _ x => (cOpd x).map (.un op)
  | .convert s d x => do
    let a ← cOpd x
    match P.underlying s, P.underlying d with
    | some (.int _), some (.int k) => pure (.cvi k a)
    | some .string, some .string => pure (.cvs a)
    | some (.int _), some (.float k) => pure (.cvf k a)
    | some (.float _), some (.int k) => pure (.cfi k a)
    | some .string, some (.slice e) => match P.underlying e with
      | some (.int .u8) => pure (.csb a)
      | _ => failure
    | some (.slice _), some (.slice e) => match P.underlying e with
      | some (.int .u8) => if s == d then pure (.csc a) else failure
      | _ => failure
    | some (.slice e), some .string => match P.underlying e with
      | some (.int .u8) => pure (.cbs a)
      | _ => failure
    | _, _ => failure
  | .makeFunc (.func f) first cap => if first.size = 0 then do pure (.mkf f (← cOpds cap.toList)) else none
  | .makeSlice t l c => match P.underlying t with
    | some (.slice e) => do
      let i ← P.info? e
      let z ← cVals (← i.zero).cells.toList
      if z.length = i.size ∧ i.size ≠ 0 then pure (.mksl z i.bytes (← cOpd l) (← cOpd c)) else failure
    | _ => failure
  | .slice t x lo hi mx => cSlice P t x lo hi mx
  | .fieldAddr s x f => match P.underlying s with
    | some (.struct fs) => do
      let fd ← fs[f]?
      if (← sizeT P fd.type) = 0 then failure
      pure (.fad fd.offset (← cOpd x))
    | _ => failure
  | .field t x f => match P.underlying t with
    | some (.struct fs) => do
      let fd ← fs[f]?
      let a ← cOpd x
      if ← aggT P fd.type then pure (.fldn fd.offset (← sizeT P fd.type) a) else pure (.fld1 fd.offset a)
    | _ => failure
  | .indexAddr t x i => match P.underlying t with
    | some (.slice e) => do pure (.iad (← sizeT P e) (← cOpd x) (← cOpd i))
    | some (.array n e) => do pure (.iaa n (← sizeT P e) (← cOpd x) (← cOpd i))
    | _ => failure
  | .index t x i => match P.underlying t with
    | some (.array n e) => do pure (.ixa n (← sizeT P e) (← aggT P e) (← cOpd x) (← cOpd i))
    | some .string => do pure (.ixs (← cOpd x) (← cOpd i))
    | _ => failure
  | .extract x i => do pure (.ext (← cOpd x) i)
  | .call c => match c.callee with
    | .value f => match xfOf P f, c.args.toList with
      | some k, [x] => do pure (.xf k (← cOpd x))
      | some _, _ => failure
      | none, _ => do pure (.call (← cOpd f) (← cOpds c.args.toList))
    | .builtin b => cBuiltin P b c.args.toList c.argTypes.toList
    | .invoke _ _ => none
  | _ => none

def cIns (ops : Array Oper) (o : Oper) : Ins :=
  match o.guard with
  | none => { dst := o.dst, op := (cOp P o.op).getD .bad, g := none, av := [], q := false }
  | some (j, want) =>
    match (ops[j]?).bind (·.dst) with
    | some d => { dst := o.dst, op := (cOp P o.op).getD .bad, g := some (d, want), av := [], q := false }
    | none => { dst := o.dst, op := .bad, g := none, av := [], q := false }

/-! ### Regions whose order is drawn -/

def I.isC : I → Bool
  | .call _ _ => true
  | _ => false
/-- What writes into memory, or calls. -/
def I.loud : I → Bool
  | .st _ _ _ | .app _ _ _ _ | .appz _ _ _ _ | .cpy _ _ _ | .clr _ _ | .call _ _ | .csb _ | .cbs _ | .csc _ => true
  | _ => false
/-- What makes memory. -/
def I.isN : I → Bool
  | .new _ | .box _ | .mks _ _ _ _ | .mksl _ _ _ _ => true
  | _ => false
/-- What reads memory by an address. -/
def I.reads : I → Option Opd
  | .ld1 a | .ldn _ a | .sla _ _ a _ _ => some a
  | _ => none
def I.opds : I → List Opd
  | .mv x | .box x | .ld1 x | .ldn _ x | .nchk x | .eqn _ _ x | .un _ x | .cvi _ x | .cvs x | .fad _ x | .fld1 _ x | .fldn _ _ x | .ext x _ | .lenv _ x | .capv x | .cvf _ x | .cfi _ x | .xf _ x | .csb x | .cbs x | .csc x | .clr _ x => [x]
  | .pick c a b => [c, a, b]
  | .mk _ ps | .mks _ _ _ ps => ps.map (·.2.2)
  | .st _ a x => [a, x]
  | .bin _ x y | .eqs _ _ x y | .iad _ x y | .iaa _ _ x y | .ixa _ _ _ x y | .ixs x y | .app _ _ x y | .appz _ _ x y | .cpy _ x y => [x, y]
  | .mkf _ c => c
  | .mksl _ _ l c => [l, c]
  | .slc _ x lo hi | .sla _ _ x lo hi | .sls x lo hi => x :: (lo.toList ++ hi.toList)
  | .slz x lo hi mx => [x, lo, hi, mx]
  | .call f xs => f :: xs
  | .mnx _ x xs => x :: xs
  | .new _ | .lenc _ | .bad => []

def direct (ops : Array Oper) (i : Nat) : List Nat :=
  match ops[i]? with
  | some o => (o.after.toList.filter (Region.binds .any)).map (·.on)
  | none => []
def uni (a b : List Nat) : List Nat := b.foldl (fun l x => if l.contains x then l else x :: l) a
def ancs (ops : Array Oper) : List (List Nat) :=
  (List.range ops.size).foldl (fun acc i => acc ++ [(direct ops i).foldl (fun l e => uni (uni l [e]) (acc.getD e [])) []]) []

/-- Quiet operations first, then the next loud one. -/
def greedy (loud : Nat → Bool) (dir : Nat → List Nat) : Nat → List Nat → List Nat → List Nat
  | 0, done, _ => done.reverse
  | k + 1, done, rest =>
    let rdy := fun i => (dir i).all done.contains
    match rest.find? (fun i => !loud i && rdy i) with
    | some i => greedy loud dir k (i :: done) (rest.erase i)
    | none => match rest.find? rdy with
      | some i => greedy loud dir k (i :: done) (rest.erase i)
      | none => done.reverse

def tmpsOf (i : Ins) : List Nat :=
  (i.op.opds.filterMap fun | .t t => some t | _ => none) ++ (match i.g with | some (g, _) => [g] | none => [])

def insAt (cs : List Ins) (i : Nat) : Ins := cs.getD i default
def ancAt (an : List (List Nat)) (i : Nat) : List Nat := an.getD i []

/-- The order keeps the edges, and each operation hangs on the loud ones before it. -/
def okOrd (dir : Nat → List Nat) (loud : Nat → Bool) (an : List (List Nat)) : List Nat → List Nat → Bool
  | _, [] => true
  | pre, i :: r =>
    (dir i).all pre.contains && !pre.contains i && pre.all (fun e => !loud e || (ancAt an i).contains e) && okOrd dir loud an (i :: pre) r

/-- Who writes a slot stands in an order with who names it; whose address is read, ahead of who reads it. -/
def okTmp (cs : List Ins) (an : List (List Nat)) : Bool :=
  (List.range cs.length).all fun i => (List.range cs.length).all fun j =>
    if i == j then (match (insAt cs i).op.reads with | some (.t t) => (insAt cs i).dst != some t | _ => true) else match (insAt cs j).dst with
      | none => true
      | some d => (insAt cs i).dst != some d && (!(tmpsOf (insAt cs i)).contains d || (ancAt an i).contains j || ((ancAt an j).contains i && (match (insAt cs i).op.reads with | some (.t t) => t != d | _ => true)))

def avOf (cs : List Ins) (an : List (List Nat)) (pre : List Nat) (i : Nat) : List Opd :=
  pre.filterMap fun j => if (ancAt an i).contains j then none else (insAt cs j).op.reads

def place (cs : List Ins) (an : List (List Nat)) : List Nat → List Nat → List Ins
  | _, [] => []
  | pre, i :: r =>
    let c := insAt cs i
    { c with av := if c.op.loud && !c.op.isC then avOf cs an pre i else [], q := c.op.isC && !(avOf cs an pre i).isEmpty } :: place cs an (i :: pre) r

def cReg (ops : Array Oper) (draw : Bool) : CC :=
  let cs := ops.toList.map (cIns P ops)
  if draw then
    let an := ancs ops
    let op := fun i => (insAt cs i).op
    let loud := fun i => (op i).loud
    let ord := greedy loud (direct ops) ops.size [] (List.range ops.size)
    if P.follows .mixedOrders && ord.length == ops.size && ord.all (· < ops.size) && (List.range ops.size).all ord.contains && okOrd (direct ops) loud an [] ord && okTmp cs an then .reg (place cs an [] ord) else .bad
  else .reg cs

def cCode : Code → CC
  | .skip => .skip
  | .region _ ops d => cReg P ops d
  | .seq a b => .seq (cCode a) (cCode b)
  | .cond c x y => match cOpd c with
    | some a => .cond a (cCode x) (cCode y)
    | none => .bad
  | .block id x => .blk id (cCode x)
  | .loop x => .loop (cCode x)
  | .exit id => .exit id
  | .ret => .ret
  | _ => .bad

def cRes1 : ResultVar → Option RV
  | .tmp t => some (RV.t t)
  | .cell a t => match aggT P t, sizeT P t with
    | some true, some n => some (.cn n a)
    | some false, _ => some (.c1 a)
    | _, _ => none
def cRes : List ResultVar → Option (List RV)
  | [] => some []
  | r :: l => match cRes1 P r, cRes l with
    | some a, some b => some (a :: b)
    | _, _ => none

def cFunc (f : Func) : Option CF := do
  let b ← f.body
  if f.name == "runtime.NumGoroutine" then failure
  pure { np := f.params.size + f.nfree, nt := f.ntmps, code := cCode P b, res := ← cRes P f.results.toList }
end
end Go.Proofs.Ytaekgifbehoipaa.Eva
