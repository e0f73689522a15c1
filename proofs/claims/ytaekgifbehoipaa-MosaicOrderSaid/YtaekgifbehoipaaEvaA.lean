/- An abstract machine for small Go functions: its values, its code, how it runs, and how a function of the model is turned into its code. Conditions: none; what it does not know it refuses. -/
import Derived.Orders
import Derived.Tactics
import Derived.Laws.Rows
namespace Go.Proofs.Ytaekgifbehoipaa.Eva
open Go

/-- Values without addresses of the model: an object has a number (id) and an epoch. -/
inductive AV where
  | int (k : IntKind) (n : Int)
  | bool (b : Bool)
  | str (s : ByteArray)
  | flt (k : FloatKind) (bits : Nat)
  | np
  | nf
  | ni
  | agg (cs : List AV)
  | tup (vs : List AV)
  | sl (nl : Bool) (id ep sz off len : Nat)
  | s0 (nl : Bool)
  | ptr (id ep off : Nat)
  | fn (f : Nat) (cap : List AV)
  deriving Inhabited

abbrev und : AV := .tup []

inductive Opd where
  | t (i : Nat)
  | k (v : AV)
  deriving Inhabited

structure Ob where
  cs : List AV
  ep : Nat
  sz : Nat
  rw : Bool
  fl : Bool

structure Mem where
  h : List Ob
  wl : Nat
  wa : Nat

structure St where
  ts : List AV
  h : List Ob
  wl : Nat
  wa : Nat

def AV.scalar : AV → Bool
  | .int _ _ | .bool _ | .str _ | .flt _ _ | .np | .nf | .ni => true
  | _ => false
def AV.isTup : AV → Bool
  | .tup _ => true
  | _ => false
def AV.isAgg : AV → Bool
  | .agg _ => true
  | _ => false
/-- What one cell can hold. -/
def AV.one (v : AV) : Bool := !v.isTup && !v.isAgg
def cellsOf : AV → List AV
  | .agg cs => cs
  | v => [v]

/-- The kinds of cells that == compares. -/
inductive PK where
  | b | i | s
  deriving DecidableEq, Inhabited

inductive I where
  | mv (x : Opd)
  | pick (c a b : Opd)
  | new (zs : List AV)
  | box (x : Opd)
  | mk (zs : List AV) (parts : List (Nat × Nat × Opd))
  | mks (zs : List AV) (sz len : Nat) (parts : List (Nat × Nat × Opd))
  | ld1 (a : Opd)
  | ldn (n : Nat) (a : Opd)
  | st (n : Nat) (a x : Opd)
  | nchk (x : Opd)
  | bin (op : BinOp) (x y : Opd)
  | eqs (neg : Bool) (ks : Option (List PK)) (x y : Opd)
  | eqn (neg : Bool) (k : Nat) (x : Opd)
  | un (op : UnOp) (x : Opd)
  | cvi (k : IntKind) (x : Opd)
  | cvs (x : Opd)
  | mkf (f : Nat) (cap : List Opd)
  | mksl (zs : List AV) (bytes : Nat) (l c : Opd)
  | slc (sz : Nat) (x : Opd) (lo hi : Option Opd)
  | slz (x : Opd) (lo hi mx : Opd)
  | sla (n sz : Nat) (x : Opd) (lo hi : Option Opd)
  | sls (x : Opd) (lo hi : Option Opd)
  | fad (off : Nat) (x : Opd)
  | fld1 (off : Nat) (x : Opd)
  | fldn (off n : Nat) (x : Opd)
  | iad (sz : Nat) (x i : Opd)
  | iaa (n sz : Nat) (x i : Opd)
  | ixa (n sz : Nat) (ag : Bool) (x i : Opd)
  | ixs (x i : Opd)
  | ext (x : Opd) (i : Nat)
  | call (f : Opd) (xs : List Opd)
  | lenv (str : Bool) (x : Opd)
  | lenc (n : Nat)
  | capv (x : Opd)
  | app (sz bytes : Nat) (x y : Opd)
  | appz (zs : List AV) (bytes : Nat) (x y : Opd)
  | cvf (k : FloatKind) (x : Opd)
  | cfi (k : IntKind) (x : Opd)
  | xf (k : Nat) (x : Opd)
  | cpy (sz : Nat) (x y : Opd)
  | clr (zs : List AV) (x : Opd)
  | mnx (mx : Bool) (x : Opd) (xs : List Opd)
  | csb (x : Opd)
  | cbs (x : Opd)
  | csc (x : Opd)
  | bad
  deriving Inhabited

structure Ins where
  dst : Option Nat
  op : I
  g : Option (Nat × Bool)
  av : List Opd
  q : Bool
  deriving Inhabited

inductive CC where
  | skip
  | reg (l : List Ins)
  | seq (a b : CC)
  | cond (c : Opd) (x y : CC)
  | blk (id : Nat) (x : CC)
  | loop (x : CC)
  | exit (id : Nat)
  | ret
  | bad
  deriving Inhabited

inductive RV where
  | t (i : Nat)
  | c1 (i : Nat)
  | cn (n i : Nat)

structure CF where
  np : Nat
  nt : Nat
  code : CC
  res : List RV

inductive Ex where
  | nrm
  | ex (id : Nat)
  | rt

/-! ### How it runs -/

def evO (ts : List AV) : Opd → AV
  | .t i => ts.getD i und
  | .k v => v

def rdObj (h : List Ob) (id ep : Nat) : Option Ob :=
  match h[id]? with
  | some o => if o.ep = ep then some o else none
  | none => none

/-- Cells put over others. -/
def wr (cs : List AV) (off : Nat) (new : List AV) : List AV :=
  if new.length = cs.length then new else cs.take off ++ new ++ cs.drop (off + new.length)

def stObj (s : Mem) (id : Nat) (o : Ob) (off : Nat) (new : List AV) : Mem :=
  { h := s.h.set id { o with cs := wr o.cs off new, fl := o.fl && new.all AV.scalar }, wl := min s.wl id, wa := if new.all AV.scalar then s.wa else min s.wa id }

def newObj (s : Mem) (o : Ob) : Mem := { s with h := s.h ++ [o] }

/-- Parts laid into a struct or an array. -/
def lay (ρ : Opd → AV) : List AV → List (Nat × Nat × Opd) → Option (List AV)
  | cs, [] => some cs
  | cs, (off, n, x) :: r =>
    if (cellsOf (ρ x)).length = n ∧ off + n ≤ cs.length ∧ (ρ x).isTup = false then lay ρ (wr cs off (cellsOf (ρ x))) r else none

def zrep (l : Nat) : List AV → List AV
  | [z] => List.replicate l z
  | zs => (List.replicate l zs).flatten

def abin (op : BinOp) : AV → AV → Option AV
  | .int k a, .int k' b =>
    match op with
    | .shl => if b < 0 then none else some (.int k (k.wrap (a * 2 ^ (min b.toNat k.bits))))
    | .shr => if b < 0 then none else some (.int k (a.fdiv (2 ^ (min b.toNat k.bits))))
    | op =>
      if k = k' then
        match op with
        | .add => some (.int k (k.wrap (a + b)))
        | .sub => some (.int k (k.wrap (a - b)))
        | .mul => some (.int k (k.wrap (a * b)))
        | .quo => if b = 0 then none else some (.int k (k.wrap (a.tdiv b)))
        | .rem => if b = 0 then none else some (.int k (a.tmod b))
        | .and => some (.int k (k.wrap (BitVec.ofInt k.bits a &&& BitVec.ofInt k.bits b).toNat))
        | .or => some (.int k (k.wrap (BitVec.ofInt k.bits a ||| BitVec.ofInt k.bits b).toNat))
        | .xor => some (.int k (k.wrap (BitVec.ofInt k.bits a ^^^ BitVec.ofInt k.bits b).toNat))
        | .andNot => some (.int k (k.wrap (BitVec.ofInt k.bits a &&& ~~~ BitVec.ofInt k.bits b).toNat))
        | .eql => some (.bool (a == b))
        | .neq => some (.bool (a != b))
        | .lss => some (.bool (decide (a < b)))
        | .leq => some (.bool (decide (a ≤ b)))
        | .gtr => some (.bool (decide (a > b)))
        | .geq => some (.bool (decide (a ≥ b)))
        | _ => none
      else none
  | .str a, .str b =>
    match op with
    | .add => if ((a.size + b.size : Nat) : Int) > IntKind.i64.max then none else some (.str (a ++ b))
    | .eql => some (.bool (a.toList == b.toList))
    | .neq => some (.bool !(a.toList == b.toList))
    | .lss => some (.bool (Op.bytesLess a.toList b.toList))
    | .leq => some (.bool (Op.bytesLess a.toList b.toList || a.toList == b.toList))
    | .gtr => some (.bool !(Op.bytesLess a.toList b.toList || a.toList == b.toList))
    | .geq => some (.bool !(Op.bytesLess a.toList b.toList))
    | _ => none
  | .flt k a, .flt k' b =>
    if k = k' then
      match op with
      | .add => (k.format.add a b).map (.flt k)
      | .sub => (k.format.sub a b).map (.flt k)
      | .mul => (k.format.mul a b).map (.flt k)
      | .quo => (k.format.div a b).map (.flt k)
      | .eql => some (.bool (k.format.order a b == some .eq))
      | .neq => some (.bool (k.format.order a b != some .eq))
      | .lss => some (.bool (k.format.order a b == some .lt))
      | .leq => some (.bool (k.format.order a b == some .lt || k.format.order a b == some .eq))
      | .gtr => some (.bool (k.format.order a b == some .gt))
      | .geq => some (.bool (k.format.order a b == some .gt || k.format.order a b == some .eq))
      | _ => none
    else none
  | _, _ => none

def aun (op : UnOp) : AV → Option AV
  | .int k n =>
    match op with
    | .neg => some (.int k (k.wrap (0 - n)))
    | .xor => some (.int k (k.wrap (BitVec.ofInt k.bits (if k.signed then -1 else k.max) ^^^ BitVec.ofInt k.bits n).toNat))
    | _ => none
  | .bool b =>
    match op with
    | .not => some (.bool !b)
    | _ => none
  | _ => none

/-- == of two cells of a kind. -/
def aeq1 : PK → AV → AV → Option Bool
  | .b, .bool a, .bool b => some (a == b)
  | .i, .int k a, .int k' b => if k = k' then some (a == b) else none
  | .s, .str a, .str b => some (a == b)
  | _, _, _ => none
def aeqs : List PK → List AV → List AV → Option Bool
  | [], [], [] => some true
  | k :: ks, x :: xs, y :: ys =>
    match aeq1 k x y, aeqs ks xs ys with
    | some a, some b => some (a && b)
    | _, _ => none
  | _, _, _ => none

def aext : AV → Nat → Option AV
  | .tup vs, i => vs[i]?
  | _, _ => none

def toI : AV → Option Int
  | .int _ n => some n
  | _ => none
def bound (ρ : Opd → AV) (d : Nat) : Option Opd → Option Int
  | none => some d
  | some x => toI (ρ x)

def amn2 (mx : Bool) : AV → AV → Option AV
  | .int k x, .int _ y => some (.int k (if mx then (if y > x then y else x) else (if y < x then y else x)))
  | _, _ => none
def amn (mx : Bool) : AV → List AV → Option AV
  | a, [] => some a
  | a, b :: r => (amn2 mx a b).bind fun c => amn mx c r

/-- What append and copy read. -/
def content (sz : Nat) (s : Mem) : AV → Option (List AV × Nat × Bool)
  | .sl nl id ep sz' off len =>
    if len = 0 then some ([], 0, true)
    else if nl then none
    else if sz' = sz then
      match rdObj s.h id ep with
      | some o => if off + len * sz ≤ o.cs.length then some ((o.cs.drop off).take (len * sz), len, o.fl) else none
      | none => none
    else none
  | .s0 _ => some ([], 0, true)
  | .str b => if sz = 1 then some (b.toList.map fun x => .int .u8 x.toNat, b.size, true) else none
  | _ => none

def appLim : Nat := 2 ^ 40

def aapp (sz bytes : Nat) (s : Mem) (x y : AV) : Option (AV × Mem) :=
  (content sz s y).bind fun (new, n, fl) =>
    match x with
    | .s0 nl =>
      if n = 0 then some (.s0 nl, s)
      else if n * bytes ≤ appLim then some (.sl false s.h.length 0 sz 0 n, newObj s ⟨new, 0, sz, true, fl⟩) else none
    | .sl true _ _ _ _ 0 =>
      if n = 0 then some (.sl true 0 0 0 0 0, s)
      else if n * bytes ≤ appLim then some (.sl false s.h.length 0 sz 0 n, newObj s ⟨new, 0, sz, true, fl⟩) else none
    | .sl false id ep sz' off len =>
      if n = 0 then some (.sl false id ep sz' off len, s)
      else if sz' = sz ∧ (len + n) * bytes ≤ appLim then
        match rdObj s.h id ep with
        | some o =>
          if o.rw = true ∧ off + len * sz ≤ o.cs.length then
            some (.sl false id (ep + 1) sz 0 (len + n),
              { h := s.h.set id { o with cs := (o.cs.drop off).take (len * sz) ++ new, ep := ep + 1, fl := o.fl && fl }, wl := min s.wl id, wa := if fl then s.wa else min s.wa id })
          else none
        | none => none
      else none
    | _ => none

/-- Append of so many zeros, to a slice without cells. -/
def aappz (zs : List AV) (bytes : Nat) (s : Mem) (x y : AV) : Option (AV × Mem) :=
  match y with
  | .int .i64 l =>
    if 0 ≤ l ∧ l.toNat * bytes ≤ appLim then
      match x with
      | .s0 nl => if l.toNat = 0 then some (.s0 nl, s) else some (.sl false s.h.length 0 zs.length 0 l.toNat, newObj s ⟨zrep l.toNat zs, 0, zs.length, true, zs.all AV.scalar⟩)
      | .sl true _ _ _ _ 0 => if l.toNat = 0 then some (.sl true 0 0 0 0 0, s) else some (.sl false s.h.length 0 zs.length 0 l.toNat, newObj s ⟨zrep l.toNat zs, 0, zs.length, true, zs.all AV.scalar⟩)
      | _ => none
    else none
  | _ => none

/-- Functions of one number outside of the program. -/
def axf : Nat → AV → Option AV
  | 0, .flt .f64 x => (FloatKind.f64.format.sqrt x).map (.flt .f64)
  | 1, .flt .f64 x => some (.int .u64 x)
  | 2, .int .u64 n => some (.flt .f64 n.toNat)
  | _, _ => none

/-- A float made whole. -/
def acfi (k : IntKind) : AV → Option AV
  | .flt j b => match (j.decode b).toInt .zero with
    | some n => if k.min ≤ n ∧ n ≤ k.max then some (.int k n) else none
    | none => none
  | _ => none

/-- Cells that are bytes. -/
def bytesA : List AV → Option (List UInt8)
  | [] => some []
  | .int .u8 n :: r => (bytesA r).map fun l => UInt8.ofNat n.toNat :: l
  | _ => none
/-- A slice of bytes made a string. -/
def acbs (s : Mem) : AV → Option AV
  | .str _ => none
  | v => (content 1 s v).bind fun r => (bytesA r.1).map fun l => .str ⟨l.toArray⟩
/-- What a string becomes as a slice of bytes. -/
def csbO (b : ByteArray) : Ob := ⟨b.toList.map fun x => .int .u8 x.toNat, 0, 1, true, true⟩

/-- An operation that is no call. -/
def aop (ρ : Opd → AV) (s : Mem) : I → Option (AV × Mem)
  | .mv x => some (ρ x, s)
  | .pick c a b => match ρ c with
    | .bool b' => some (if b' then ρ a else ρ b, s)
    | _ => none
  | .new zs => some (.ptr s.h.length 0 0, newObj s ⟨zs, 0, 0, true, zs.all AV.scalar⟩)
  | .box x => if (ρ x).isTup then none else some (.ptr s.h.length 0 0, newObj s ⟨cellsOf (ρ x), 0, 0, true, (cellsOf (ρ x)).all AV.scalar⟩)
  | .mk zs ps => (lay ρ zs ps).map fun cs => (.agg cs, s)
  | .mks zs sz len ps => (lay ρ zs ps).map fun cs => (.sl false s.h.length 0 sz 0 len, newObj s ⟨cs, 0, sz, true, cs.all AV.scalar⟩)
  | .ld1 a => match ρ a with
    | .ptr id ep off => match rdObj s.h id ep with
      | some o => match o.cs[off]? with
        | some v => some (v, s)
        | none => none
      | none => none
    | _ => none
  | .ldn n a => match ρ a with
    | .ptr id ep off => match rdObj s.h id ep with
      | some o => if off + n ≤ o.cs.length then some (.agg ((o.cs.drop off).take n), s) else none
      | none => none
    | _ => none
  | .st n a x => match ρ a with
    | .ptr id ep off => match rdObj s.h id ep with
      | some o => if (cellsOf (ρ x)).length = n ∧ off + n ≤ o.cs.length ∧ (ρ x).isTup = false ∧ o.rw = true then some (und, stObj s id o off (cellsOf (ρ x))) else none
      | none => none
    | _ => none
  | .nchk x => match ρ x with
    | .ptr id ep off => some (.ptr id ep off, s)
    | .fn f cap => some (.fn f cap, s)
    | _ => none
  | .bin op x y => (abin op (ρ x) (ρ y)).map fun v => (v, s)
  | .eqs neg ks x y => match ks with
    | none => match ρ x, ρ y with
      | .bool a, .bool b => some (.bool (xor neg (a == b)), s)
      | _, _ => none
    | some ks => match ρ x, ρ y with
      | .agg xs, .agg ys => (aeqs ks xs ys).map fun b => (.bool (xor neg b), s)
      | _, _ => none
  | .eqn neg k x => match k, ρ x with
    | 0, .sl nl _ _ _ _ _ => some (.bool (xor neg nl), s)
    | 0, .s0 nl => some (.bool (xor neg nl), s)
    | 1, .ptr _ _ _ => some (.bool neg, s)
    | 1, .np => some (.bool (!neg), s)
    | 2, .fn _ _ => some (.bool neg, s)
    | 2, .nf => some (.bool (!neg), s)
    | _, _ => none
  | .un op x => (aun op (ρ x)).map fun v => (v, s)
  | .cvi k x => match ρ x with
    | .int _ n => some (.int k (k.wrap n), s)
    | _ => none
  | .cvs x => match ρ x with
    | .str b => some (.str b, s)
    | _ => none
  | .mkf f cap => some (.fn f (cap.map ρ), s)
  | .mksl zs bytes l c => match ρ l, ρ c with
    | .int .i64 l, .int .i64 c =>
      if 0 ≤ l ∧ l ≤ c ∧ c.toNat * bytes ≤ appLim ∧ bytes ≠ 0 ∧ zs ≠ [] then
        some (.sl false s.h.length 0 zs.length 0 l.toNat, newObj s ⟨zrep l.toNat zs, 0, zs.length, true, zs.all AV.scalar⟩) else none
    | _, _ => none
  | .slc sz x lo hi => match ρ x with
    | .sl nl id ep sz' off len => match bound ρ 0 lo, bound ρ len hi with
      | some l, some h => if 0 ≤ l ∧ l ≤ h ∧ h ≤ len ∧ (nl = true ∨ sz' = sz) then some (.sl nl id ep sz' (off + l.toNat * sz) (h.toNat - l.toNat), s) else none
      | _, _ => none
    | .s0 nl => match bound ρ 0 lo, bound ρ 0 hi with
      | some l, some h => if l = 0 ∧ h = 0 then some (.s0 nl, s) else none
      | _, _ => none
    | _ => none
  | .slz x lo hi mx => match ρ x, toI (ρ lo), toI (ρ hi), toI (ρ mx) with
    | .sl nl _ _ _ _ _, some 0, some 0, some 0 => some (.s0 nl, s)
    | .s0 nl, some 0, some 0, some 0 => some (.s0 nl, s)
    | _, _, _, _ => none
  | .sla n sz x lo hi => match ρ x with
    | .ptr id ep off => match bound ρ 0 lo, bound ρ n hi with
      | some l, some h => if 0 ≤ l ∧ l ≤ h ∧ h ≤ n then (match rdObj s.h id ep with
          | some o => if off + n * sz ≤ o.cs.length then some (.sl false id ep sz (off + l.toNat * sz) (h.toNat - l.toNat), s) else none
          | none => none) else none
      | _, _ => none
    | _ => none
  | .sls x lo hi => match ρ x with
    | .str b => match bound ρ 0 lo, bound ρ b.size hi with
      | some l, some h => if 0 ≤ l ∧ l ≤ h ∧ h ≤ b.size then some (.str (b.extract l.toNat h.toNat), s) else none
      | _, _ => none
    | _ => none
  | .fad off x => match ρ x with
    | .ptr id ep o => some (.ptr id ep (o + off), s)
    | _ => none
  | .fld1 off x => match ρ x with
    | .agg cs => match cs[off]? with
      | some v => some (v, s)
      | none => none
    | _ => none
  | .fldn off n x => match ρ x with
    | .agg cs => some (.agg ((cs.drop off).take n), s)
    | _ => none
  | .iad sz x i => match ρ x, ρ i with
    | .sl nl id ep sz' off len, .int _ i => if 0 ≤ i ∧ i < len ∧ nl = false ∧ sz' = sz then some (.ptr id ep (off + i.toNat * sz), s) else none
    | _, _ => none
  | .iaa n sz x i => match ρ x, ρ i with
    | .ptr id ep off, .int _ i => if 0 ≤ i ∧ i < n then some (.ptr id ep (off + i.toNat * sz), s) else none
    | _, _ => none
  | .ixa n sz ag x i => match ρ x, ρ i with
    | .agg cs, .int _ i => if 0 ≤ i ∧ i < n then
        (if ag then some (.agg ((cs.drop (i.toNat * sz)).take sz), s) else match cs[i.toNat * sz]? with
          | some v => some (v, s)
          | none => none) else none
    | _, _ => none
  | .ixs x i => match ρ x, ρ i with
    | .str b, .int _ i => match (if 0 ≤ i then b[i.toNat]? else none) with
      | some x => some (.int .u8 x.toNat, s)
      | none => none
    | _, _ => none
  | .ext x i => (aext (ρ x) i).map fun v => (v, s)
  | .lenv str x => match str, ρ x with
    | false, .sl _ _ _ _ _ len => some (.int .i64 len, s)
    | false, .s0 _ => some (.int .i64 0, s)
    | true, .str b => some (.int .i64 b.size, s)
    | _, _ => none
  | .lenc n => some (.int .i64 n, s)
  | .capv x => match ρ x with
    | .sl true _ _ _ _ _ => some (.int .i64 0, s)
    | .s0 _ => some (.int .i64 0, s)
    | _ => none
  | .app sz bytes x y => aapp sz bytes s (ρ x) (ρ y)
  | .appz zs bytes x y => aappz zs bytes s (ρ x) (ρ y)
  | .cvf k x => match ρ x with
    | .int _ n => some (.flt k (k.nearest n), s)
    | _ => none
  | .cfi k x => (acfi k (ρ x)).map fun v => (v, s)
  | .xf k x => (axf k (ρ x)).map fun v => (v, s)
  | .cpy sz x y => match ρ x with
    | .sl nl id ep sz' off len => (content sz s (ρ y)).bind fun (new, n, _) =>
        if min n len = 0 then some (.int .i64 0, s)
        else if nl = false ∧ sz' = sz then
          (match rdObj s.h id ep with
          | some o => if off + len * sz ≤ o.cs.length ∧ o.rw = true then some (.int .i64 (min n len : Nat), stObj s id o off (new.take (min n len * sz))) else none
          | none => none)
        else none
    | _ => none
  | .clr zs x => match ρ x with
    | .sl nl id ep sz off len =>
        if len = 0 then some (und, s)
        else if nl = false ∧ sz = zs.length then
          (match rdObj s.h id ep with
          | some o => if off + len * sz ≤ o.cs.length ∧ o.rw = true then some (und, stObj s id o off (zrep len zs)) else none
          | none => none)
        else none
    | _ => none
  | .mnx mx x xs => (amn mx (ρ x) (xs.map ρ)).map fun v => (v, s)
  | .csb x => match ρ x with
    | .str b => some (.sl false s.h.length 0 1 0 b.size, newObj s (csbO b))
    | _ => none
  | .cbs x => (acbs s (ρ x)).map fun v => (v, s)
  | .csc x => match ρ x with
    | .sl false id ep sz off len => match rdObj s.h id ep with
      | some o => if o.rw = true ∧ len ≠ 0 then some (.sl false id ep sz off len, { s with wl := min s.wl id }) else none
      | none => none
    | _ => none
  | .call _ _ => none
  | .bad => none

/-- The object that an operation writes. -/
def tgt (ρ : Opd → AV) : I → Option Nat
  | .st _ a _ => match ρ a with
    | .ptr id _ _ => some id
    | _ => none
  | .app _ _ x _ => match ρ x with
    | .sl false id _ _ _ _ => some id
    | _ => none
  | .cpy _ x _ => match ρ x with
    | .sl _ id _ _ _ _ => some id
    | _ => none
  | .clr _ x => match ρ x with
    | .sl _ id _ _ _ _ => some id
    | _ => none
  | _ => none

def avoids (ρ : Opd → AV) (o : I) (av : List Opd) : Bool :=
  match tgt ρ o with
  | none => true
  | some id => av.all fun a => match ρ a with
    | .ptr id' _ _ => id' != id
    | _ => true

def wantedA (ts : List AV) : Option (Nat × Bool) → Bool
  | none => true
  | some (g, want) => match ts.getD g und with
    | .bool b => b == want
    | _ => false

def putT (ts : List AV) (dst : Option Nat) (v : AV) : List AV :=
  match dst with
  | some d => ts.set d v
  | none => ts

abbrev CallR := AV × List Ob × Nat × Nat

def aIns (call : Nat → List AV → List Ob → Option CallR) (i : Ins) (s : St) : Option St :=
  if wantedA s.ts i.g then
    match i.op with
    | .call f xs => match evO s.ts f with
      | .fn g caps => (call g (xs.map (evO s.ts) ++ caps) s.h).bind fun r =>
          if i.q = true ∧ (r.2.2.1 < s.h.length) then none
          else some { ts := putT s.ts i.dst r.1, h := r.2.1, wl := min s.wl r.2.2.1, wa := min s.wa r.2.2.2 }
      | _ => none
    | op => if avoids (evO s.ts) op i.av then
        (aop (evO s.ts) ⟨s.h, s.wl, s.wa⟩ op).map fun r => { ts := putT s.ts i.dst r.1, h := r.2.h, wl := r.2.wl, wa := r.2.wa } else none
  else some { s with ts := putT s.ts i.dst und }

def aReg (call : Nat → List AV → List Ob → Option CallR) : List Ins → St → Option St
  | [], s => some s
  | i :: r, s => (aIns call i s).bind (aReg call r)

mutual
/-- The new objects that a value points to. -/
def refs (n0 : Nat) : AV → List (Nat × Nat)
  | .sl nl id ep _ _ _ => if nl = true ∨ id < n0 then [] else [(id, ep)]
  | .ptr id ep _ => if id < n0 then [] else [(id, ep)]
  | .agg cs => refsL n0 cs
  | .tup vs => refsL n0 vs
  | .fn _ cap => refsL n0 cap
  | _ => []
def refsL (n0 : Nat) : List AV → List (Nat × Nat)
  | [] => []
  | v :: r => refs n0 v ++ refsL n0 r
end
mutual
def ren (n0 : Nat) (σ : List (Nat × Nat)) : AV → AV
  | .sl nl id ep sz off len => if nl = true ∨ id < n0 then .sl nl id ep sz off len else .sl nl (n0 + σ.idxOf (id, ep)) 0 sz off len
  | .ptr id ep off => if id < n0 then .ptr id ep off else .ptr (n0 + σ.idxOf (id, ep)) 0 off
  | .agg cs => .agg (renL n0 σ cs)
  | .tup vs => .tup (renL n0 σ vs)
  | .fn f cap => .fn f (renL n0 σ cap)
  | v => v
def renL (n0 : Nat) (σ : List (Nat × Nat)) : List AV → List AV
  | [] => []
  | v :: r => ren n0 σ v :: renL n0 σ r
end

def dd : List (Nat × Nat) → List (Nat × Nat)
  | [] => []
  | x :: l => if (dd l).contains x then dd l else x :: dd l

def pickObjs (h : List Ob) : List (Nat × Nat) → Option (List Ob)
  | [] => some []
  | (id, ep) :: r => match rdObj h id ep, pickObjs h r with
    | some o, some l => if o.fl then some ({ o with ep := 0 } :: l) else none
    | _, _ => none

/-- The end of a call: what the result does not need is forgotten. -/
def fin (n0 : Nat) (v : AV) (s : St) : CallR :=
  if s.wa < n0 then (v, s.h, s.wl, s.wa)
  else match pickObjs s.h (dd (refs n0 v)) with
    | some l => (ren n0 (dd (refs n0 v)) v, s.h.take n0 ++ l, s.wl, n0)
    | none => (v, s.h, s.wl, s.wa)

def rv1 (s : St) : RV → Option AV
  | .t i => some (s.ts.getD i und)
  | .c1 i => (aop (evO s.ts) ⟨s.h, s.wl, s.wa⟩ (.ld1 (.t i))).map (·.1)
  | .cn n i => (aop (evO s.ts) ⟨s.h, s.wl, s.wa⟩ (.ldn n (.t i))).map (·.1)
def rvs (s : St) : List RV → Option (List AV)
  | [] => some []
  | r :: l => match rv1 s r, rvs s l with
    | some v, some vs => some (v :: vs)
    | _, _ => none

def mkRes : List AV → AV
  | [v] => v
  | vs => .tup vs

def exOk : Ex → Bool
  | .ex _ => false
  | _ => true

section
variable (E : Nat → Option CF)
/-- A call, given how code runs. -/
def callBy (run : CC → St → Option (Ex × St)) (f : Nat) (args : List AV) (h : List Ob) : Option CallR :=
  match E f with
  | none => none
  | some cf =>
    if args.length = cf.np then
      (run cf.code { ts := args ++ List.replicate (cf.nt - args.length) und, h := h, wl := h.length, wa := h.length }).bind fun r =>
        if exOk r.1 then (rvs r.2 cf.res).map fun vs => fin h.length (mkRes vs) r.2 else none
    else none

def acode : Nat → CC → St → Option (Ex × St)
  | 0, _, _ => none
  | _ + 1, .skip, s => some (.nrm, s)
  | k + 1, .reg l, s => (aReg (callBy E (acode k)) l s).map fun s => (.nrm, s)
  | k + 1, .seq a b, s => (acode k a s).bind fun r => match r.1 with
    | .nrm => acode k b r.2
    | e => some (e, r.2)
  | k + 1, .cond c x y, s => match evO s.ts c with
    | .bool b => if b then acode k x s else acode k y s
    | _ => none
  | k + 1, .blk id x, s => (acode k x s).bind fun r => match r.1 with
    | .ex j => if j = id then some (.nrm, r.2) else some (.ex j, r.2)
    | e => some (e, r.2)
  | k + 1, .loop x, s => (acode k x s).bind fun r => match r.1 with
    | .nrm => acode k (.loop x) r.2
    | e => some (e, r.2)
  | _ + 1, .exit id, s => some (.ex id, s)
  | _ + 1, .ret, s => some (.rt, s)
  | _ + 1, .bad, _ => none

def acall (k : Nat) : Nat → List AV → List Ob → Option CallR := callBy E (acode E k)
end
end Go.Proofs.Ytaekgifbehoipaa.Eva
