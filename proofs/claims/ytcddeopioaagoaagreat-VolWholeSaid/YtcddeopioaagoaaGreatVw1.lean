/- Part 1 of the lemmas behind RowVolWhole: PgA, PgV, Pf6, Pf20, Pf53, Pf10, Pf17, Pf49, Pf27, Pf42, Pf81. No condition beyond those that each lemma names. -/
import GoSem.Dispatch
import GoSem.Machine.Frame
import Derived.KernelRfl
import Derived.Test.YtcddeopioaagoaaGreatProg

set_option linter.unusedVariables false
set_option linter.unusedSimpArgs false
set_option linter.unusedSectionVars false
namespace Go.PG

/-- A slice's capacity that is not known (no slice of the model's bears it). -/
def capU : Nat := 2 ^ 64
/-- A cell whose content is not known. -/
def junk : Value := .complex .f32 0 0

inductive Blk where
  | cells (c : Array Value) (ty : TypeId)
  | grow (c : Array Value) (ty : TypeId)
  | iter (s : ByteArray) (pos : Nat)
  | map (es : List (Value × Value))
  | win (off : Nat) (c : Array Value)

structure Heap where
  blk : Nat → Option Blk
  next : Nat
  floor : Nat

abbrev Fr := Array Value
abbrev CallF := FuncId → Array Value → Heap → Option (Value × Heap)

def Heap.new (H : Heap) (b : Blk) : Heap := ⟨fun n => if n = H.next then some b else H.blk n, H.next + 1, H.floor⟩
def Heap.set (H : Heap) (n : Nat) (b : Blk) : Heap := ⟨fun m => if m = n then some b else H.blk m, H.next, H.floor⟩
def Heap.del (H : Heap) (n : Nat) : Heap := ⟨fun m => if m = n then none else H.blk m, H.next, H.floor⟩
def Heap.hide (H : Heap) (lo hi : Nat) : Heap := ⟨fun m => if lo ≤ m ∧ m < hi then none else H.blk m, H.next, H.floor⟩
def Heap.unhide (H G : Heap) (lo hi : Nat) : Heap := ⟨fun m => if lo ≤ m ∧ m < hi then G.blk m else H.blk m, H.next, H.floor⟩
def Heap.atFloor (H : Heap) (f : Nat) : Heap := ⟨H.blk, H.next, f⟩

def Blk.row : Blk → Option (Array Value)
  | .cells c _ => some c
  | .grow c _ => some c
  | _ => none
def Heap.row (H : Heap) (n : Nat) : Option (Array Value) := (H.blk n).bind Blk.row
/-- What of a block may be read: cells from a place on. -/
def Blk.view : Blk → Option (Nat × Array Value)
  | .cells c _ => some (0, c)
  | .grow c _ => some (0, c)
  | .win o c => some (o, c)
  | _ => none
def Heap.view (H : Heap) (n : Nat) : Option (Nat × Array Value) := (H.blk n).bind Blk.view
def Blk.put : Blk → Array Value → Blk
  | .cells _ t, c => .cells c t
  | .grow _ t, c => .grow c t
  | b, _ => b

/-- Cells of a row from a place on. -/
def Heap.ld1 (H : Heap) (a : Addr) : Option Value := if a.spot.isSome then none else (H.view a.block).bind fun d => if d.1 ≤ a.off then d.2[a.off - d.1]? else none
def Heap.ldN (H : Heap) (a : Addr) (n : Nat) : Option (Array Value) :=
  if n = 0 then some #[] else if a.spot.isSome then none else (H.view a.block).bind fun d => if d.1 ≤ a.off ∧ a.off - d.1 + n ≤ d.2.size then some (d.2.extract (a.off - d.1) (a.off - d.1 + n)) else none
def setL (c : Array Value) (off : Nat) : List Value → Array Value
  | [] => c
  | v :: vs => setL (c.setIfInBounds off v) (off + 1) vs
/-- A value that one cell can bear. -/
def oneC : Value → Bool
  | .agg _ | .tuple _ => false
  | _ => true
def Heap.stN (H : Heap) (a : Addr) (vs : List Value) : Option Heap :=
  if vs.isEmpty then some H else
  if a.spot.isSome then none else
  if a.block < H.floor then none else
  (H.blk a.block).bind fun b => b.row.bind fun c => if a.off + vs.length ≤ c.size ∧ vs.all oneC = true then some (H.set a.block (b.put (setL c a.off vs))) else none

def flat : Value → Bool
  | .bool _ | .int _ _ | .string _ | .pointer none | .slice none 0 0 | .map none | .nilFunc | .nilIface => true
  | _ => false

section
variable (P : Program)

/-- Is a type's value a row of cells, and of how many? -/
def lay (t : TypeId) : Option (Bool × Nat) :=
  match P.underlying t, P.info? t with
  | some (.struct _), some i => some (true, i.size)
  | some (.array _ _), some i => some (true, i.size)
  | some _, some i => some (false, i.size)
  | _, _ => none
def zero? (t : TypeId) : Option Value := (P.info? t).bind fun i => i.zero.bind fun z => if z.cells.all flat && z.cells.size == i.size then some z else none

def ldV (agg : Bool) (n : Nat) (x : Value) (H : Heap) : Option Value :=
  match x with
  | .pointer (some a) => if agg then (H.ldN a n).map .agg else H.ld1 a
  | _ => none
def pLoad (t : TypeId) (x : Value) (H : Heap) : Option Value :=
  match lay P t with
  | some (agg, n) => ldV agg n x H
  | none => none
def stV (n : Nat) (x v : Value) (H : Heap) : Option Heap :=
  match x with
  | .pointer (some a) => if v.cells.size = n then H.stN a v.cells.toList else none
  | _ => none
def pStore (t : TypeId) (x v : Value) (H : Heap) : Option Heap :=
  match lay P t with
  | some (_, n) => stV n x v H
  | none => none
def pNil (x : Value) : Option Value :=
  match x with
  | .pointer (some a) => some (.pointer (some a))
  | .iface t v => some (.iface t v)
  | .func (.func f) a b => some (.func (.func f) a b)
  | _ => none

def binI (op : BinOp) (x y : Value) : Option Value :=
  match x, y with
  | .int k a, .int k' b =>
    match op with
    | .shl => if b < 0 then none else some (.int k (k.wrap (a * 2 ^ (min b.toNat k.bits))))
    | .shr => if b < 0 then none else some (.int k (a.fdiv (2 ^ (min b.toNat k.bits))))
    | .add => if k = k' then some (.int k (k.wrap (a + b))) else none
    | .sub => if k = k' then some (.int k (k.wrap (a - b))) else none
    | .mul => if k = k' then some (.int k (k.wrap (a * b))) else none
    | .quo => if k = k' then (if b = 0 then none else some (.int k (k.wrap (a.tdiv b)))) else none
    | .rem => if k = k' then (if b = 0 then none else some (.int k (a.tmod b))) else none
    | .and => if k = k' then some (.int k (k.wrap (BitVec.ofInt k.bits a &&& BitVec.ofInt k.bits b).toNat)) else none
    | .or => if k = k' then some (.int k (k.wrap (BitVec.ofInt k.bits a ||| BitVec.ofInt k.bits b).toNat)) else none
    | .xor => if k = k' then some (.int k (k.wrap (BitVec.ofInt k.bits a ^^^ BitVec.ofInt k.bits b).toNat)) else none
    | .andNot => if k = k' then some (.int k (k.wrap (BitVec.ofInt k.bits a &&& ~~~BitVec.ofInt k.bits b).toNat)) else none
    | .eql => if k = k' then some (.bool (a == b)) else none
    | .neq => if k = k' then some (.bool (a != b)) else none
    | .lss => if k = k' then some (.bool (decide (a < b))) else none
    | .leq => if k = k' then some (.bool (decide (a ≤ b))) else none
    | .gtr => if k = k' then some (.bool (decide (a > b))) else none
    | .geq => if k = k' then some (.bool (decide (a ≥ b))) else none
  | _, _ => none
def binS (op : BinOp) (x y : Value) : Option Value :=
  match x, y with
  | .string a, .string b =>
    match op with
    | .add => if ((a.size + b.size : Nat) : Int) > IntKind.i64.max then none else some (.string (a ++ b))
    | .eql => some (.bool (a.toList == b.toList))
    | .neq => some (.bool !(a.toList == b.toList))
    | .lss => some (.bool (Op.bytesLess a.toList b.toList))
    | .leq => some (.bool (Op.bytesLess a.toList b.toList || a.toList == b.toList))
    | .gtr => some (.bool !(Op.bytesLess a.toList b.toList || a.toList == b.toList))
    | .geq => some (.bool !(Op.bytesLess a.toList b.toList))
    | _ => none
  | _, _ => none
def isConst : Operand → Bool
  | .const _ => true
  | _ => false

mutual
/-- '==' of two values at a type. -/
def eqV : Nat → TypeId → Value → Value → Option Bool
  | 0, _, _, _ => none
  | d + 1, t, x, y =>
    match P.underlying t, x, y with
    | some .bool, .bool a, .bool b => some (a == b)
    | some (.int _), .int k a, .int k' b => if k = k' then some (a == b) else none
    | some .string, .string a, .string b => some (a == b)
    | some (.pointer _), .pointer none, .pointer b => some b.isNone
    | some (.pointer _), .pointer (some _), .pointer none => some false
    | some (.interface _), .nilIface, .nilIface => some true
    | some (.interface _), .nilIface, .iface _ _ => some false
    | some (.interface _), .iface _ _, .nilIface => some false
    | some (.interface _), .iface tx vx, .iface ty vy =>
      if tx ≠ ty then some false else
      match P.info? tx with
      | some i => if i.comparable then eqV d tx vx vy else none
      | none => none
    | some (.struct fs), .agg xs, .agg ys => if P.stoodInHeld t then none else eqFs d fs.toList xs ys
    | some (.slice _), .slice none _ _, .slice b _ _ => some b.isNone
    | some (.slice _), .slice (some _) _ _, .slice none _ _ => some false
    | some (.map _ _), .map none, .map b => some b.isNone
    | some (.map _ _), .map (some _), .map none => some false
    | some (.func _ _ _), .nilFunc, .nilFunc => some true
    | some (.func _ _ _), .nilFunc, .func _ _ _ => some false
    | some (.func _ _ _), .func _ _ _, .nilFunc => some false
    | _, _, _ => none
def eqFs : Nat → List Field → Array Value → Array Value → Option Bool
  | 0, _, _, _ => none
  | _ + 1, [], _, _ => some true
  | d + 1, f :: fs, xs, ys =>
    if f.name = "_" then eqFs d fs xs ys else
    match lay P f.type with
    | some (true, n) =>
      match eqV d f.type (.agg (xs.extract f.offset (f.offset + n))) (.agg (ys.extract f.offset (f.offset + n))) with
      | some true => eqFs d fs xs ys
      | r => r
    | some (false, _) =>
      match xs[f.offset]?, ys[f.offset]? with
      | some a, some b =>
        match eqV d f.type a b with
        | some true => eqFs d fs xs ys
        | r => r
      | _, _ => none
    | none => none
end
def eqOk (t : TypeId) (cst : Bool) (x y : Value) : Bool :=
  match x, y with
  | .nilIface, .nilIface => cst || (match P.underlying t with | some (.interface ms) => ms.isEmpty | _ => false)
  | .agg _, .agg _ => !P.eqGuardType P.depth t
  | _, _ => true
def binE (op : BinOp) (t : TypeId) (cst : Bool) (x y : Value) : Option Value :=
  match op with
  | .eql => if eqOk P t cst x y then (eqV P 100 t x y).map .bool else none
  | .neq => if eqOk P t cst x y then (eqV P 100 t x y).map fun b => .bool !b else none
  | _ => none
/-- Which of the three a type's operands are. -/
def tk (t : TypeId) : Nat :=
  match P.underlying t with
  | some (.int _) => 1
  | some .string => 2
  | some (.float _) => 0
  | some (.complex _) => 0
  | some .unsafePointer => 0
  | some _ => 3
  | none => 0
def pBin (op : BinOp) (t : TypeId) (cst : Bool) (x y : Value) : Option Value :=
  match tk P t with
  | 1 => binI op x y
  | 2 => binS op x y
  | 3 => binE P op t cst x y
  | _ => none
def pUn (op : UnOp) (x : Value) : Option Value :=
  match op, x with
  | .not, .bool b => some (.bool !b)
  | .neg, .int k n => some (.int k (k.wrap (0 - n)))
  | .xor, .int k n => some (.int k (k.wrap (BitVec.ofInt k.bits (if k.signed then -1 else k.max) ^^^ BitVec.ofInt k.bits n).toNat))
  | _, _ => none
def pPick (c a b : Value) : Option Value :=
  match c with
  | .bool true => some a
  | .bool false => some b
  | _ => none
def pAlloc (t : TypeId) (H : Heap) : Option (Value × Heap) :=
  match zero? P t with
  | some z => some (.pointer (some ⟨H.next, 0, none⟩), H.new (.cells z.cells t))
  | none => none
/-- No tuple. -/
def noTup : Value → Bool
  | .tuple _ => false
  | _ => true
def pBox (t : TypeId) (x : Value) (H : Heap) : Option (Value × Heap) := if noTup x then some (.pointer (some ⟨H.next, 0, none⟩), H.new (.cells x.cells t)) else none
def places (t : TypeId) : Option (List (Nat × Nat)) :=
  match P.underlying t with
  | some (.struct fs) => fs.toList.mapM fun f => (P.info? f.type).map fun i => (f.offset, i.size)
  | _ => none
def pBuild (t : TypeId) (parts : List (Nat × Value)) : Option Value :=
  if !(parts.all fun p => noTup p.2) then none else
  match zero? P t with
  | none => none
  | some z =>
    match P.underlying t with
    | some (.struct _) =>
      match places P t with
      | some ps => (Instr.fill (fun i => ps[i]?) z.cells parts).map .agg
      | none => none
    | some (.array _ e) =>
      match P.info? e with
      | some i => (Instr.fill (fun j => some (j * i.size, i.size)) z.cells parts).map .agg
      | none => none
    | _ => none
def zrow (z : Array Value) (n : Nat) : Array Value := (Array.range n).map (z[· % z.size]!)
def pBuildSlice (t : TypeId) (len : Nat) (parts : List (Nat × Value)) (H : Heap) : Option (Value × Heap) :=
  if !(parts.all fun p => noTup p.2) then none else
  match P.underlying t with
  | some (.slice e) =>
    match P.info? e with
    | some i =>
      if len * i.size > 2 ^ 24 ∨ capU ≤ len then none else
      match (if len * i.size = 0 then some #[] else (zero? P e).map Value.cells) with
      | some z =>
        match Instr.fill (fun j => some (j * i.size, i.size)) (zrow z (len * i.size)) parts with
        | some c => some (.slice (some ⟨H.next, 0, none⟩) len len, H.new (.cells c e))
        | none => none
      | none => none
    | none => none
  | _ => none
def mkSl (bytes size : Nat) (z : Array Value) (e : TypeId) (l c : Value) (H : Heap) : Option (Value × Heap) :=
  match l, c with
  | .int _ l, .int _ c =>
    if 0 ≤ l ∧ l ≤ c ∧ bytes * c ≤ 2 ^ 48 ∧ c < 2 ^ 62 then
      some (.slice (some ⟨H.next, 0, none⟩) l.toNat c.toNat, H.new (.cells (if size = 1 then Array.replicate c.toNat (z.getD 0 undef) else zrow z (c.toNat * size)) e))
    else none
  | _, _ => none
def pMakeSlice (t : TypeId) (l c : Value) (H : Heap) : Option (Value × Heap) :=
  match P.underlying t with
  | some (.slice e) =>
    match P.info? e, zero? P e with
    | some i, some z => mkSl i.bytes i.size z.cells e l c H
    | _, _ => none
  | _ => none
def sBound (x : Option Value) (most dflt : Nat) : Option Nat :=
  match x with
  | none => some dflt
  | some (.int _ i) => if 0 ≤ i ∧ i ≤ most then some i.toNat else none
  | some _ => none
def sliceStr (x : Value) (lo hi : Option Value) : Option Value :=
  match x with
  | .string s =>
    (sBound hi s.size s.size).bind fun h => (sBound lo h 0).bind fun l => some (.string (s.extract l h))
  | _ => none
def sliceSl (size : Nat) (x : Value) (lo hi mx : Option Value) : Option Value :=
  if size = 0 then none else
  match x with
  | .slice a len cap =>
    let top := if cap = capU then len else cap
    match mx with
    | none =>
      (sBound hi top len).bind fun h => (sBound lo h 0).bind fun l =>
        if cap = capU then some (.slice (a.map (·.add (l * size))) (h - l) capU)
        else some (.slice (if cap = l then a else a.map (·.add (l * size))) (h - l) (cap - l))
    | some mx =>
      (sBound (some mx) top 0).bind fun m => (sBound hi m 0).bind fun h => (sBound lo h 0).bind fun l =>
        some (.slice (if m = l then a else a.map (·.add (l * size))) (h - l) (m - l))
  | _ => none
def sliceArr (n size : Nat) (x : Value) (lo hi mx : Option Value) : Option Value :=
  if capU ≤ n then none else
  match x with
  | .pointer (some a) =>
    match mx with
    | none =>
      (sBound hi n n).bind fun h => (sBound lo h 0).bind fun l => some (.slice (some (if n = l then a else a.add (l * size))) (h - l) (n - l))
    | some mx =>
      (sBound (some mx) n 0).bind fun m => (sBound hi m 0).bind fun h => (sBound lo h 0).bind fun l => some (.slice (some (if m = l then a else a.add (l * size))) (h - l) (m - l))
  | _ => none
def pSlice (t : TypeId) (x : Value) (lo hi mx : Option Value) : Option Value :=
  match P.underlying t with
  | some .string => match mx with | none => sliceStr x lo hi | some _ => none
  | some (.slice e) => match P.info? e with | some i => if hi.isNone && mx.isSome then none else sliceSl i.size x lo hi mx | none => none
  | some (.array n e) => match P.info? e with | some i => if hi.isNone && mx.isSome then none else sliceArr n i.size x lo hi mx | none => none
  | some (.pointer arr) =>
    match P.underlying arr with
    | some (.array n e) => match P.info? e with | some i => if hi.isNone && mx.isSome then none else sliceArr n i.size x lo hi mx | none => none
    | _ => none
  | _ => none
def fieldA (off : Nat) (x : Value) : Option Value :=
  match x with
  | .pointer (some a) => if a.spot.isSome then none else some (.pointer (some (a.add off)))
  | _ => none
def fieldOff (t : TypeId) (k : Nat) : Option Nat :=
  match P.underlying t with
  | some (.struct fs) =>
    match fs[k]? with
    | some f => match P.info? f.type with | some i => if i.size = 0 then none else some f.offset | none => none
    | none => none
  | _ => none
def partV (agg : Bool) (n off : Nat) (cs : Array Value) : Option Value :=
  if agg then some (.agg (cs.extract off (off + n))) else cs[off]?
def fieldV (agg : Bool) (n off : Nat) (x : Value) : Option Value :=
  match x with
  | .agg cs => partV agg n off cs
  | _ => none
def pField (t : TypeId) (x : Value) (f : Nat) : Option Value :=
  match P.underlying t with
  | some (.struct fs) =>
    match fs[f]? with
    | some f => match lay P f.type with | some (agg, n) => fieldV agg n f.offset x | none => none
    | none => none
  | _ => none
def idxSl (size : Nat) (x i : Value) : Option Value :=
  match x, i with
  | .slice (some a) len _, .int _ i => if 0 ≤ i ∧ i < len then some (.pointer (some (a.add (i.toNat * size)))) else none
  | _, _ => none
def idxArr (n size : Nat) (x i : Value) : Option Value :=
  match x, i with
  | .pointer (some a), .int _ i => if 0 ≤ i ∧ i < n then some (.pointer (some (a.add (i.toNat * size)))) else none
  | _, _ => none
def pIndexA (t : TypeId) (x i : Value) : Option Value :=
  match P.underlying t with
  | some (.slice e) => match P.info? e with | some k => idxSl k.size x i | none => none
  | some (.array n e) => match P.info? e with | some k => idxArr n k.size x i | none => none
  | _ => none
def idxStr (x i : Value) : Option Value :=
  match x, i with
  | .string s, .int _ i => if 0 ≤ i then (s[i.toNat]?).map fun b => .int .u8 b.toNat else none
  | _, _ => none
def idxAgg (n : Nat) (agg : Bool) (size : Nat) (x i : Value) : Option Value :=
  match x, i with
  | .agg cs, .int _ i => if 0 ≤ i ∧ i < n then partV agg size (i.toNat * size) cs else none
  | _, _ => none
def pIndex (t : TypeId) (x i : Value) : Option Value :=
  match P.underlying t with
  | some .string => idxStr x i
  | some (.array n e) => match lay P e with | some (agg, k) => idxAgg n agg k x i | none => none
  | _ => none
def byteRow (s : ByteArray) : Array Value := s.data.map fun b => .int .u8 b.toNat
def rowBytes : List Value → Option (List UInt8)
  | [] => some []
  | .int .u8 n :: vs => (rowBytes vs).map (UInt8.ofNat n.toNat :: ·)
  | _ :: _ => none
/-- Whether a conversion is: 1 int to int, 2 string to string, 3 string to bytes, 4 bytes to string, 5 int to string. -/
def ck (src dst : TypeId) : Nat :=
  match P.underlying src, P.underlying dst with
  | some (.int _), some (.int _) => 1
  | some .string, some .string => 2
  | some .string, some (.slice e) => match P.underlying e with | some (.int .u8) => 3 | _ => 0
  | some (.slice e), some .string => match P.underlying e with | some (.int .u8) => 4 | _ => 0
  | some (.int _), some .string => 5
  | _, _ => 0
def ik (t : TypeId) : IntKind := match P.underlying t with | some (.int k) => k | _ => .i64
def sliceElem (t : TypeId) : TypeId := match P.underlying t with | some (.slice e) => e | _ => 0
def convI (k : IntKind) (x : Value) : Option Value := match x with | .int _ n => some (.int k (k.wrap n)) | _ => none
def convSS (x : Value) : Option Value := match x with | .string s => some (.string s) | _ => none
def convSB (e : TypeId) (x : Value) (H : Heap) : Option (Value × Heap) :=
  match x with
  | .string s => if s.size < capU then some (.slice (some ⟨H.next, 0, none⟩) s.size capU, H.new (.grow (byteRow s) e)) else none
  | _ => none
def convBS (x : Value) (H : Heap) : Option Value :=
  match x with
  | .slice none _ _ => some (.string .empty)
  | .slice (some a) len _ => (H.ldN a len).bind fun c => (rowBytes c.toList).map fun l => .string ⟨l.toArray⟩
  | _ => none
def convIS (x : Value) : Option Value := match x with | .int _ n => some (.string (Utf8.encode n)) | _ => none
def pConvert (src dst : TypeId) (x : Value) (H : Heap) : Option (Value × Heap) :=
  match ck P src dst with
  | 1 => (convI (ik P dst) x).map (·, H)
  | 2 => (convSS x).map (·, H)
  | 3 => convSB (sliceElem P dst) x H
  | 4 => (convBS x H).map (·, H)
  | 5 => (convIS x).map (·, H)
  | _ => none
def pIface (t : TypeId) (x : Value) : Option Value :=
  match P.underlying t with
  | some (.interface _) => none
  | some _ => some (.iface t x)
  | none => none
def assertC (asserted : TypeId) (ok : Bool) (z : Value) (x : Value) : Option Value :=
  match x with
  | .nilIface => if ok then some (.tuple #[z, .bool false]) else none
  | .iface t v => if t = asserted then some (if ok then .tuple #[v, .bool true] else v) else if ok then some (.tuple #[z, .bool false]) else none
  | _ => none
def pAssert (x : Value) (asserted : TypeId) (ok : Bool) : Option Value :=
  match P.underlying asserted with
  | some (.interface want) =>
    match x with
    | .iface t v =>
      match P.info? t with
      | some i => match Instr.missingMethod want i.methods with | none => some (if ok then .tuple #[.iface t v, .bool true] else .iface t v) | some _ => none
      | none => none
    | _ => none
  | some _ => match zero? P asserted with | some z => assertC asserted ok z x | none => none
  | none => none
def pExtract (x : Value) (i : Nat) : Option Value := match x with | .tuple vs => vs[i]? | _ => none
def pRange (t : TypeId) (x : Value) (H : Heap) : Option (Value × Heap) :=
  match P.underlying t with
  | some .string => match x with | .string s => some (.pointer (some ⟨H.next, 0, none⟩), H.new (.iter s 0)) | _ => none
  | _ => none
def pNext (x : Value) (isString : Bool) (H : Heap) : Option (Value × Heap) :=
  match x with
  | .pointer (some a) =>
    if a.off = 0 ∧ isString = true ∧ H.floor ≤ a.block then
      match H.blk a.block with
      | some (.iter s pos) =>
        if pos < s.size then
          some (.tuple #[.bool true, .int .i64 pos, .int .i32 (Utf8.decode s pos).1], H.set a.block (.iter s (pos + (Utf8.decode s pos).2)))
        else some (.tuple #[.bool false], H)
      | _ => none
    else none
  | _ => none

/-- Elements that are appended or copied: how many, and their cells. -/
def srcLen (x : Value) : Option Nat := match x with | .slice _ n _ => some n | .string s => some s.size | _ => none
def srcCells (size n : Nat) (x : Value) (H : Heap) : Option (Array Value) :=
  match x with
  | .slice none _ _ => some #[]
  | .slice (some a) _ _ => H.ldN a (n * size)
  | .string s => some (byteRow (s.extract 0 n))
  | _ => none
def appendV (e : TypeId) (size bytes : Nat) (s x : Value) (H : Heap) : Option (Value × Heap) :=
  match s with
  | .slice base len cap =>
    (srcLen x).bind fun n => (srcCells size n x H).bind fun new =>
      if n = 0 then some (.slice base len cap, H) else
      if (len + n) * bytes ≤ 2 ^ 47 ∧ len + n ≤ 2 ^ 47 ∧ new.toList.all oneC = true then
        match base with
        | none => if len = 0 ∧ cap = 0 then some (.slice (some ⟨H.next, 0, none⟩) n capU, H.new (.grow new e)) else none
        | some a =>
          if cap = capU then
            if a.off = 0 ∧ H.floor ≤ a.block then
              (H.ldN a (len * size)).bind fun old =>
                match H.blk a.block with
                | some (.grow _ e') => if e' ≠ e then none else some (.slice (some ⟨H.next, 0, none⟩) (len + n) capU, (H.del a.block).new (.grow (old ++ new) e))
                | _ => none
            else none
          else if len + n ≤ cap then (H.stN (a.add (len * size)) new.toList).map fun H' => (.slice (some a) (len + n) cap, H')
          else (H.ldN a (len * size)).map fun old => (.slice (some ⟨H.next, 0, none⟩) (len + n) capU, H.new (.grow (old ++ new) e))
      else none
  | _ => none
def appendSl (e : TypeId) (size bytes : Nat) (s x : Value) (H : Heap) : Option (Value × Heap) :=
  match x with
  | .slice a n c => appendV e size bytes s (.slice a n c) H
  | _ => none
def copyV (size : Nat) (d x : Value) (H : Heap) : Option (Value × Heap) :=
  match d with
  | .slice base len _ =>
    (srcLen x).bind fun m => (srcCells size (Nat.min m len) x H).bind fun c =>
      match base with
      | none => some (.int .i64 (Nat.min m len), H)
      | some a => (H.stN a c.toList).map fun H' => (.int .i64 (Nat.min m len), H')
  | _ => none
def lenSt (x : Value) : Option Value := match x with | .string s => some (.int .i64 s.size) | _ => none
def lenSl (x : Value) : Option Value := match x with | .slice _ n _ => some (.int .i64 n) | _ => none
def pLen (t : TypeId) (x : Value) : Option Value :=
  match P.underlying t with
  | some .string => lenSt x
  | some (.slice _) => lenSl x
  | some (.array n _) => some (.int .i64 n)
  | _ => none
def maxI (x y : Value) : Option Value := match x, y with | .int k a, .int _ b => some (.int k (if b > a then b else a)) | _, _ => none
def minI (x y : Value) : Option Value := match x, y with | .int k a, .int _ b => some (.int k (if b < a then b else a)) | _, _ => none
def fold1 (f : Value → Value → Option Value) : List Value → Option Value
  | [] => none
  | x :: l => l.foldlM f x
def pBuiltin (b : Builtin) (ts : List TypeId) (args : List Value) (H : Heap) : Option (Value × Heap) :=
  match b with
  | .len => match ts, args with | [t], [x] => (pLen P t x).map (·, H) | _, _ => none
  | .append =>
    match ts, args with
    | [t, u], [s, x] =>
      match P.underlying t, P.underlying u with
      | some (.slice e), some (.slice _) => match P.info? e, zero? P e with | some i, some _ => appendSl e i.size i.bytes s x H | _, _ => none
      | some (.slice e), some .string => match P.info? e, zero? P e with | some i, some _ => if i.size = 1 then appendV e i.size i.bytes s x H else none | _, _ => none
      | _, _ => none
    | _, _ => none
  | .copy =>
    match ts, args with
    | t :: _, [d, x] =>
      match P.underlying t with
      | some (.slice e) => match P.info? e with | some i => copyV i.size d x H | none => none
      | _ => none
    | _, _ => none
  | .max => (fold1 maxI args).map (·, H)
  | .min => (fold1 minI args).map (·, H)
  | _ => none

/-- What a function value is called as. -/
def pFn (f : Value) (args : List Value) : Option (FuncId × Array Value) :=
  match f with
  | .func (.func g) first captured => some (g, ⟨first.toList ++ (args ++ captured.toList)⟩)
  | _ => none
def pMethod (x : Value) (name : String) (args : List Value) : Option (FuncId × Array Value) :=
  match x with
  | .iface t v =>
    match P.info? t with
    | none => none
    | some i =>
      match i.methods.toList.find? (·.name == name) with
      | none => none
      | some m =>
        if m.path.isEmpty then
          match m.func, P.underlying t with
          | some (f, true), some (.pointer _) => some (f, ⟨v :: args⟩)
          | some (_, false), some (.pointer _) => none
          | some (f, false), some _ => some (f, ⟨v :: args⟩)
          | _, _ => none
        else none
  | _ => none

variable (call : CallF) {R : Type}

/-- One operation. -/
def opK (o : Oper) (ev : Operand → Value) (H : Heap) (K : Value → Heap → Option R) : Option R :=
  match o.op with
  | .move x | .assign x => K (ev x) H
  | .pick c a b => (pPick (ev c) (ev a) (ev b)).bind fun v => K v H
  | .alloc t => (pAlloc P t H).bind fun r => K r.1 r.2
  | .box t x => (pBox t (ev x) H).bind fun r => K r.1 r.2
  | .build t ps => (pBuild P t (ps.toList.map fun p => (p.1, ev p.2))).bind fun v => K v H
  | .buildSlice t n ps => (pBuildSlice P t n (ps.toList.map fun p => (p.1, ev p.2)) H).bind fun r => K r.1 r.2
  | .load t a => (pLoad P t (ev a) H).bind fun v => K v H
  | .store t a x => (pStore P t (ev a) (ev x) H).bind fun H' => K undef H'
  | .nilCheck x => (pNil (ev x)).bind fun v => K v H
  | .binOp op t x y _ => (pBin P op t (isConst x || isConst y) (ev x) (ev y)).bind fun v => K v H
  | .unOp op _ x => (pUn op (ev x)).bind fun v => K v H
  | .convert s d x => (pConvert P s d (ev x) H).bind fun r => K r.1 r.2
  | .makeInterface t x => (pIface P t (ev x)).bind fun v => K v H
  | .makeFunc fn a b => K (.func fn ⟨a.toList.map ev⟩ ⟨b.toList.map ev⟩) H
  | .makeSlice t l c => (pMakeSlice P t (ev l) (ev c) H).bind fun r => K r.1 r.2
  | .slice t x lo hi mx => (pSlice P t (ev x) (lo.map ev) (hi.map ev) (mx.map ev)).bind fun v => K v H
  | .fieldAddr t x f =>
    match fieldOff P t f with
    | some off => (fieldA off (ev x)).bind fun v => K v H
    | none => none
  | .field t x f => (pField P t (ev x) f).bind fun v => K v H
  | .indexAddr t x i => (pIndexA P t (ev x) (ev i)).bind fun v => K v H
  | .index t x i => (pIndex P t (ev x) (ev i)).bind fun v => K v H
  | .typeAssert x _ a ok => (pAssert P (ev x) a ok).bind fun v => K v H
  | .extract x i => (pExtract (ev x) i).bind fun v => K v H
  | .range t x => (pRange P t (ev x) H).bind fun r => K r.1 r.2
  | .next x s => (pNext (ev x) s H).bind fun r => K r.1 r.2
  | .call c =>
    match c.callee with
    | .builtin b => (pBuiltin P b c.argTypes.toList (c.args.toList.map ev) H).bind fun r => K r.1 r.2
    | .value f => (pFn (ev f) (c.args.toList.map ev)).bind fun fa => (call fa.1 fa.2 H).bind fun r => K r.1 r.2
    | .invoke x m => (pMethod P (ev x) m (c.args.toList.map ev)).bind fun fa => (call fa.1 fa.2 H).bind fun r => K r.1 r.2
  | _ => none

/-! ### Regions -/
def evF (fr : Fr) : Operand → Value
  | .tmp t => fr.getD t undef
  | .const v => v
  | .global g => .pointer (some ⟨g, 0, none⟩)
  | .func f => .func (.func f) #[] #[]
def putD (fr : Fr) (d : Option Tmp) (v : Value) : Fr :=
  match d with
  | some d => fr.setIfInBounds d v
  | none => fr
def slotV (ops : Array Oper) (fr : Fr) (j : Nat) : Value :=
  match (ops[j]?).bind (·.dst) with
  | some d => fr.getD d undef
  | none => undef
def condG (v : Value) (want : Bool) (A B : Option R) : Option R :=
  match v with
  | .bool b => if b = want then A else B
  | .tuple _ => B
  | _ => none
def condV (v : Value) (A B : Option R) : Option R :=
  match v with
  | .bool true => A
  | .bool false => B
  | _ => none
def skipAll (os : List Oper) (fr : Fr) : Fr := os.foldl (fun fr o => putD fr o.dst undef) fr
/-- Operations that stand behind one another under one guard. -/
def grps : List Oper → List (Option (Nat × Bool) × List Oper)
  | [] => []
  | o :: os =>
    match grps os with
    | (g, l) :: rest => if g = o.guard then (g, o :: l) :: rest else (o.guard, [o]) :: (g, l) :: rest
    | [] => [(o.guard, [o])]
def gOk (ops : Array Oper) (j : Nat) (os : List Oper) : Bool :=
  match (ops[j]?).bind (·.dst) with
  | some d => os.all fun o => o.dst != some d
  | none => true

def runAll : List Oper → Fr → Heap → (Fr → Heap → Option R) → Option R
  | [], fr, H, K => K fr H
  | o :: os, fr, H, K => opK P call o (evF fr) H fun v H' => runAll os (putD fr o.dst v) H' K
def grpK (ops : Array Oper) : List (Option (Nat × Bool) × List Oper) → Fr → Heap → (Fr → Heap → Option R) → Option R
  | [], fr, H, K => K fr H
  | (none, os) :: gs, fr, H, K => runAll P call os fr H fun fr H => grpK ops gs fr H K
  | (some (j, w), os) :: gs, fr, H, K =>
    if gOk ops j os then
      condG (slotV ops fr j) w (runAll P call os fr H fun fr H => grpK ops gs fr H K) (grpK ops gs (skipAll os fr) H K)
    else none

/-! ### Regions that draw their order -/
/-- What an operation does to the heap: 0 nothing, 1 it reads, 2 it makes a block, 3 it calls, 4 it writes. -/
def hk (o : Op) : Nat :=
  match o with
  | .load .. => 1
  | .alloc _ | .box .. | .buildSlice .. | .makeSlice .. | .range .. => 2
  | .convert s d _ => match ck P s d with | 3 => 2 | 4 => 1 | _ => 0
  | .call { callee := .builtin .len, .. } | .call { callee := .builtin .max, .. } | .call { callee := .builtin .min, .. } => 0
  | .call { callee := .builtin _, .. } => 4
  | .call _ => 3
  | .store .. | .next .. => 4
  | _ => 0
def anc (b : List Nat) (i j : Nat) : Bool := (b.getD i 0).testBit j
/-- The ancestors of each operation, as bits. -/
def befores : List Oper → List Nat → List Nat
  | [], acc => acc
  | o :: os, acc => befores os (acc ++ [o.after.toList.foldl (fun s e => if Region.binds .any e then s ||| (2 ^ e.on ||| acc.getD e.on 0) else s) 0])
def idxs (os : List Oper) : List (Nat × Oper) := (List.range os.length).zip os
def fullAt (b : List Nat) (os : List (Nat × Oper)) (i : Nat) : Bool :=
  os.all fun p => p.1 == i || hk P p.2.op == 0 || anc b i p.1 || anc b p.1 i
def looksAt (ops : Array Oper) (o : Oper) : List Tmp :=
  (o.op.operands.toList.filterMap fun | .tmp t => some t | _ => none) ++
  (match o.guard with
   | some (g, _) => ((ops[g]?).bind (·.dst)).toList
   | none => [])
def apartL (ops : Array Oper) (x y : Oper) : Bool :=
  (match x.dst with
   | some d => !(looksAt ops y).contains d && y.dst != some d
   | none => true) &&
  (match y.dst with
   | some d => !(looksAt ops x).contains d
   | none => true)
def isTmp (x : Operand) (d : Option Tmp) : Bool := match x, d with | .tmp t, some d => t == d | _, _ => false
/-- The loads ahead of a store in the text that the store's order says nothing of: their addresses. -/
def floatOf (b : List Nat) (os : List (Nat × Oper)) (i : Nat) (p : Nat × Oper) : Option Operand :=
  match p.2.op with
  | .load _ a => if p.1 < i && p.2.guard.isNone && !anc b i p.1 && os.all (fun q => !(p.1 ≤ q.1 && q.1 < i) || !isTmp a q.2.dst) then some a else none
  | _ => none
def floats (b : List Nat) (os : List (Nat × Oper)) (i : Nat) : List Operand := os.filterMap (floatOf b os i)
def fullS (b : List Nat) (os : List (Nat × Oper)) (i : Nat) : Bool :=
  os.all fun p => p.1 == i || hk P p.2.op == 0 || anc b i p.1 || anc b p.1 i || (floatOf b os i p).isSome
def neB (x y : Value) : Bool := match x, y with | .pointer (some a), .pointer (some b) => a.block != b.block | _, _ => false
def wrOf (o : Op) : Option Operand := match o with | .store _ a _ => some a | _ => none
def isApart (ev : Operand → Value) (l : List Operand) (o : Op) : Bool := l.all fun a => match wrOf o with | some w => neB (ev a) (ev w) | none => false
def drawOk (ops : Array Oper) (b : List Nat) (os : List (Nat × Oper)) : Bool :=
  os.all fun p =>
    (p.2.after.toList.all fun e => !Region.binds .any e || e.on < p.1) &&
    (hk P p.2.op != 4 || fullS P b os p.1) &&
    os.all fun q => p.1 == q.1 || anc b p.1 q.1 || anc b q.1 p.1 || apartL ops p.2 q.2
def hides (H : Heap) (U : List (Nat × Nat)) : Heap := U.foldl (fun H u => H.hide u.1 u.2) H
def unhides (H G : Heap) (U : List (Nat × Nat)) : Heap := U.foldl (fun H u => H.unhide G u.1 u.2) H
def hidden (b : List Nat) (i : Nat) : List (Nat × Nat × Nat) → List (Nat × Nat)
  | [] => []
  | (j, lo, hi) :: l => if anc b i j then hidden b i l else (lo, hi) :: hidden b i l
def opD (b : List Nat) (os : List (Nat × Oper)) (i : Nat) (o : Oper) (fr : Fr) (H : Heap) (hist : List (Nat × Nat × Nat))
    (K : Value → Heap → List (Nat × Nat × Nat) → Option R) : Option R :=
  match hk P o.op with
  | 0 => opK P call o (evF fr) H fun v _ => K v H hist
  | 1 => opK P call o (evF fr) (hides H (hidden b i hist)) fun v _ => K v H hist
  | 2 => opK P call o (evF fr) H fun v H' => K v H' ((i, H.next, H'.next) :: hist)
  | 3 =>
    if fullAt P b os i then opK P call o (evF fr) H fun v H' => K v H' []
    else opK P call o (evF fr) ((hides H (hidden b i hist)).atFloor H.next) fun v H' =>
      K v (unhides (H'.atFloor H.floor) H (hidden b i hist)) ((i, H.next, H'.next) :: hist)
  | _ => if isApart (evF fr) (floats b os i) o.op then opK P call o (evF fr) H fun v H' => K v H' [] else none
def runAllD (b : List Nat) (all : List (Nat × Oper)) : List (Nat × Oper) → Fr → Heap → List (Nat × Nat × Nat) → (Fr → Heap → List (Nat × Nat × Nat) → Option R) → Option R
  | [], fr, H, hist, K => K fr H hist
  | (i, o) :: os, fr, H, hist, K => opD P call b all i o fr H hist fun v H' hist' => runAllD b all os (putD fr o.dst v) H' hist' K
def grpsD : List (Nat × Oper) → List (Option (Nat × Bool) × List (Nat × Oper))
  | [] => []
  | o :: os =>
    match grpsD os with
    | (g, l) :: rest => if g = o.2.guard then (g, o :: l) :: rest else (o.2.guard, [o]) :: (g, l) :: rest
    | [] => [(o.2.guard, [o])]
def grpKD (ops : Array Oper) (b : List Nat) (all : List (Nat × Oper)) : List (Option (Nat × Bool) × List (Nat × Oper)) → Fr → Heap → List (Nat × Nat × Nat) → (Fr → Heap → Option R) → Option R
  | [], fr, H, _, K => K fr H
  | (none, os) :: gs, fr, H, hist, K => runAllD P call b all os fr H hist fun fr H hist => grpKD ops b all gs fr H hist K
  | (some (j, w), os) :: gs, fr, H, hist, K =>
    if gOk ops j (os.map (·.2)) then
      condG (slotV ops fr j) w (runAllD P call b all os fr H hist fun fr H hist => grpKD ops b all gs fr H hist K) (grpKD ops b all gs (skipAll (os.map (·.2)) fr) H hist K)
    else none
def regK (ops : Array Oper) (draw : Bool) (fr : Fr) (H : Heap) (K : Fr → Heap → Option R) : Option R :=
  if draw then
    if drawOk P ops (befores ops.toList []) (idxs ops.toList) then
      grpKD P call ops (befores ops.toList []) (idxs ops.toList) (grpsD (idxs ops.toList)) fr H [] K
    else none
  else grpK P call ops (grps ops.toList) fr H K

/-! ### Code -/
inductive Ex where
  | normal
  | exit (id : Nat)
  | ret
/-- What stands behind a piece of code: 'A' if the piece ends by itself. -/
def seqC (A : Fr → Heap → Option R) (K : Ex → Fr → Heap → Option R) : Ex → Fr → Heap → Option R
  | .normal, fr, H => A fr H
  | .exit j, fr, H => K (.exit j) fr H
  | .ret, fr, H => K .ret fr H
def blkC (id : Nat) (K : Ex → Fr → Heap → Option R) : Ex → Fr → Heap → Option R
  | .normal, fr, H => K .normal fr H
  | .exit j, fr, H => if j = id then K .normal fr H else K (.exit j) fr H
  | .ret, fr, H => K .ret fr H
def iterK (body : (Ex → Fr → Heap → Option R) → Fr → Heap → Option R) (K : Ex → Fr → Heap → Option R) : Nat → Fr → Heap → Option R
  | 0, _, _ => none
  | k + 1, fr, H => body (seqC (iterK body K k) K) fr H
def denK (k : Nat) : Code → (Ex → Fr → Heap → Option R) → Fr → Heap → Option R
  | .skip, K, fr, H => K .normal fr H
  | .label _, K, fr, H => K .normal fr H
  | .region _ ops draw, K, fr, H => regK P call ops draw fr H (K .normal)
  | .seq a b, K, fr, H => denK k a (seqC (denK k b K) K) fr H
  | .cond c x y, K, fr, H => condV (evF fr c) (denK k x K fr H) (denK k y K fr H)
  | .block id c, K, fr, H => denK k c (blkC id K) fr H
  | .loop c, K, fr, H => iterK (denK k c) K k fr H
  | .exit id, K, fr, H => K (.exit id) fr H
  | .ret, K, fr, H => K .ret fr H
  | .scope c, K, fr, H => denK k c K fr H
  | _, _, _, _ => none
/-- A constant that names no block. -/
def flatC : Value → Bool
  | .agg cs => cs.toList.all flat
  | .float _ _ => true
  | v => flat v
def flatO : Operand → Bool
  | .const v => flatC v
  | .global _ => false
  | _ => true
def okCode : Code → Bool
  | .region _ ops _ => ops.toList.all fun o => o.op.operands.toList.all flatO
  | .seq a b => okCode a && okCode b
  | .cond c a b => flatO c && okCode a && okCode b
  | .block _ c => okCode c
  | .loop c => okCode c
  | .scope c => okCode c
  | _ => true
def resL (fr : Fr) (H : Heap) : List ResultVar → Option (List Value)
  | [] => some []
  | .tmp t :: rs => (resL fr H rs).map (fr.getD t undef :: ·)
  | .cell a t :: rs => (pLoad P t (fr.getD a undef) H).bind fun v => (resL fr H rs).map (v :: ·)
def oneOf : List Value → Value
  | [v] => v
  | l => .tuple ⟨l⟩
def finK (fn : Func) (ex : Ex) (fr : Fr) (H : Heap) : Option (Value × Heap) :=
  match ex with
  | .exit _ => none
  | _ => (resL P fr H fn.results.toList).map fun l => (oneOf l, H)
def entry (fn : Func) (args : Array Value) : Fr := ⟨args.toList ++ List.replicate (fn.ntmps - args.size) undef⟩
/-- A function without a body. -/
def ext (fn : Func) (args : Array Value) (H : Heap) : Option (Value × Heap) :=
  if fn.name == "internal/bytealg.MakeNoZero" then
    match args.toList with
    | [.int .i64 n] =>
      if 0 ≤ n ∧ n ≤ 2 ^ 47 then some (.slice (some ⟨H.next, 0, none⟩) n.toNat capU, H.new (.grow (Array.replicate n.toNat junk) (sliceElem P (fn.resultTypes.toList.getD 0 0)))) else none
    | _ => none
  else none
end
def run (P : Program) : Nat → FuncId → Array Value → Heap → Option (Value × Heap)
  | 0, _, _, _ => none
  | k + 1, f, args, H =>
    match P.funcs[f]? with
    | none => none
    | some fn =>
      if fn.name == "runtime.NumGoroutine" then none else
      match fn.body with
      | none => ext P fn args H
      | some c => if args.size ≤ fn.ntmps ∧ okCode c = true then denK P (run P k) k c (finK P fn) (entry fn args) H else none
end Go.PG

namespace Go.PG

inductive Dir | l | r
def sub : List Dir → Code → Code
  | [], c => c
  | .l :: p, .seq a _ => sub p a
  | .r :: p, .seq _ b => sub p b
  | _ :: p, .block _ c => sub p c
  | _ :: p, .loop c => sub p c
  | _ :: p, .scope c => sub p c
  | .l :: p, .cond _ a _ => sub p a
  | .r :: p, .cond _ _ b => sub p b
  | _, c => c
def bodyOf (f : Func) : Code := f.body.getD .skip
def ropsC : Code → Array Oper
  | .region _ ops _ => ops
  | _ => #[]
abbrev RH := Option (Value × Heap)
def bindP {α : Type} (o : Option (Value × Heap)) (f : Value → Heap → Option α) : Option α := o.bind fun r => f r.1 r.2
def bindM {α : Type} (o : Option Value) (H : Heap) (f : Value → Heap → Option α) : Option α := (o.map (·, H)).bind fun r => f r.1 r.2
def newK {α : Type} (H : Heap) (b : Blk) (f : Value → Heap → Option α) : Option α := f (.pointer (some ⟨H.next, 0, none⟩)) (H.new b)
/-- A call that may not write. -/
def quietK {α : Type} (H : Heap) (U : List (Nat × Nat)) (o : Option (Value × Heap)) (f : Value → Heap → Nat → Option α) : Option α := o.bind fun r => f r.1 (unhides (r.2.atFloor H.floor) H U) r.2.next
def apartK {α : Type} (l : List Value) (x : Value) (A : Option α) : Option α := if (l.all fun a => neB a x) = true then A else none
end Go.PG

namespace Go.PG
open Go.Proofs

noncomputable def C6l : Code := sub [.l] (bodyOf Tryz.f6)
noncomputable def C6r : Code := sub [.r] (bodyOf Tryz.f6)
noncomputable def C6rrrll : Code := sub [.r, .r, .r, .l, .l] (bodyOf Tryz.f6)
noncomputable def C6rrrlr : Code := sub [.r, .r, .r, .l, .r] (bodyOf Tryz.f6)
noncomputable def C6rrrr : Code := sub [.r, .r, .r, .r] (bodyOf Tryz.f6)
noncomputable def C6rrrrrrrrlrll : Code := sub [.r, .r, .r, .r, .r, .r, .r, .r, .l, .r, .l, .l] (bodyOf Tryz.f6)
noncomputable def C6rrrrrrrrlrllrllrrrrrrl : Code := sub [.r, .r, .r, .r, .r, .r, .r, .r, .l, .r, .l, .l, .r, .l, .l, .r, .r, .r, .r, .r, .r, .l] (bodyOf Tryz.f6)
noncomputable def C6rrrrrrrrlrllrllrrrrrrr : Code := sub [.r, .r, .r, .r, .r, .r, .r, .r, .l, .r, .l, .l, .r, .l, .l, .r, .r, .r, .r, .r, .r, .r] (bodyOf Tryz.f6)
noncomputable def C6rrrrrrrrlrllrr : Code := sub [.r, .r, .r, .r, .r, .r, .r, .r, .l, .r, .l, .l, .r, .r] (bodyOf Tryz.f6)
noncomputable def C6rrrrrrrrr : Code := sub [.r, .r, .r, .r, .r, .r, .r, .r, .r] (bodyOf Tryz.f6)
noncomputable def C6rrrrrrrrrrlrll : Code := sub [.r, .r, .r, .r, .r, .r, .r, .r, .r, .r, .l, .r, .l, .l] (bodyOf Tryz.f6)
noncomputable def C6rrrrrrrrrrlrllrllrrrrlrll : Code := sub [.r, .r, .r, .r, .r, .r, .r, .r, .r, .r, .l, .r, .l, .l, .r, .l, .l, .r, .r, .r, .r, .l, .r, .l, .l] (bodyOf Tryz.f6)
noncomputable def C6rrrrrrrrrrlrllrllrrrrlrllll : Code := sub [.r, .r, .r, .r, .r, .r, .r, .r, .r, .r, .l, .r, .l, .l, .r, .l, .l, .r, .r, .r, .r, .l, .r, .l, .l, .l, .l] (bodyOf Tryz.f6)
noncomputable def C6rrrrrrrrrrlrllrllrrrrlrlllr : Code := sub [.r, .r, .r, .r, .r, .r, .r, .r, .r, .r, .l, .r, .l, .l, .r, .l, .l, .r, .r, .r, .r, .l, .r, .l, .l, .l, .r] (bodyOf Tryz.f6)
noncomputable def C6rrrrrrrrrrlrllrllrrrrlrllr : Code := sub [.r, .r, .r, .r, .r, .r, .r, .r, .r, .r, .l, .r, .l, .l, .r, .l, .l, .r, .r, .r, .r, .l, .r, .l, .l, .r] (bodyOf Tryz.f6)
noncomputable def C6rrrrrrrrrrlrllrllrrrrr : Code := sub [.r, .r, .r, .r, .r, .r, .r, .r, .r, .r, .l, .r, .l, .l, .r, .l, .l, .r, .r, .r, .r, .r] (bodyOf Tryz.f6)
noncomputable def C6rrrrrrrrrrlrllrllrrrrrrrrl : Code := sub [.r, .r, .r, .r, .r, .r, .r, .r, .r, .r, .l, .r, .l, .l, .r, .l, .l, .r, .r, .r, .r, .r, .r, .r, .r, .l] (bodyOf Tryz.f6)
noncomputable def C6rrrrrrrrrrlrllrllrrrrrrrrr : Code := sub [.r, .r, .r, .r, .r, .r, .r, .r, .r, .r, .l, .r, .l, .l, .r, .l, .l, .r, .r, .r, .r, .r, .r, .r, .r, .r] (bodyOf Tryz.f6)
noncomputable def C6rrrrrrrrrrlrllrr : Code := sub [.r, .r, .r, .r, .r, .r, .r, .r, .r, .r, .l, .r, .l, .l, .r, .r] (bodyOf Tryz.f6)
noncomputable def C6rrrrrrrrrrr : Code := sub [.r, .r, .r, .r, .r, .r, .r, .r, .r, .r, .r] (bodyOf Tryz.f6)
noncomputable def C6rrrrrrrrrrrlrll : Code := sub [.r, .r, .r, .r, .r, .r, .r, .r, .r, .r, .r, .l, .r, .l, .l] (bodyOf Tryz.f6)
noncomputable def C6rrrrrrrrrrrr : Code := sub [.r, .r, .r, .r, .r, .r, .r, .r, .r, .r, .r, .r] (bodyOf Tryz.f6)
noncomputable def K6_0 (k : Nat) : Ex → Fr → Heap → Option (Value × Heap) := finK Tryz.prog Tryz.f6
noncomputable def K6_1 (k : Nat) : Ex → Fr → Heap → Option (Value × Heap) := seqC (denK Tryz.prog (run Tryz.prog k) k C6rrrrrrrrrrrr (K6_0 k)) (K6_0 k)
noncomputable def K6_2 (k : Nat) : Ex → Fr → Heap → Option (Value × Heap) := blkC 6 (K6_1 k)
noncomputable def K6_3 (k : Nat) : Ex → Fr → Heap → Option (Value × Heap) := seqC (denK Tryz.prog (run Tryz.prog k) k C6rrrrrrrrrrr (K6_0 k)) (K6_0 k)
noncomputable def K6_4 (k : Nat) : Ex → Fr → Heap → Option (Value × Heap) := blkC 2 (K6_3 k)
noncomputable def K6_5 (k : Nat) (nrrrrrrrrrrlrl : Nat) : Ex → Fr → Heap → Option (Value × Heap) := seqC (iterK (denK Tryz.prog (run Tryz.prog k) k C6rrrrrrrrrrlrll) (K6_4 k) nrrrrrrrrrrlrl) (K6_4 k)
noncomputable def K6_6 (k : Nat) (nrrrrrrrrrrlrl : Nat) : Ex → Fr → Heap → Option (Value × Heap) := seqC (denK Tryz.prog (run Tryz.prog k) k C6rrrrrrrrrrlrllrr (K6_5 k nrrrrrrrrrrlrl)) (K6_5 k nrrrrrrrrrrlrl)
noncomputable def K6_7 (k : Nat) (nrrrrrrrrrrlrl : Nat) : Ex → Fr → Heap → Option (Value × Heap) := blkC 3 (K6_6 k nrrrrrrrrrrlrl)
noncomputable def K6_8 (k : Nat) (nrrrrrrrrrrlrl : Nat) : Ex → Fr → Heap → Option (Value × Heap) := seqC (denK Tryz.prog (run Tryz.prog k) k C6rrrrrrrrrrlrllrllrrrrrrrrr (K6_7 k nrrrrrrrrrrlrl)) (K6_7 k nrrrrrrrrrrlrl)
noncomputable def K6_9 (k : Nat) (nrrrrrrrrrrlrl : Nat) : Ex → Fr → Heap → Option (Value × Heap) := seqC (denK Tryz.prog (run Tryz.prog k) k C6rrrrrrrrrrlrllrllrrrrr (K6_7 k nrrrrrrrrrrlrl)) (K6_7 k nrrrrrrrrrrlrl)
noncomputable def K6_10 (k : Nat) (nrrrrrrrrrrlrl : Nat) : Ex → Fr → Heap → Option (Value × Heap) := blkC 4 (K6_9 k nrrrrrrrrrrlrl)
noncomputable def K6_11 (k : Nat) (nrrrrrrrrrrlrl : Nat) (nrrrrrrrrrrlrllrllrrrrlrl : Nat) : Ex → Fr → Heap → Option (Value × Heap) := seqC (iterK (denK Tryz.prog (run Tryz.prog k) k C6rrrrrrrrrrlrllrllrrrrlrll) (K6_10 k nrrrrrrrrrrlrl) nrrrrrrrrrrlrllrllrrrrlrl) (K6_10 k nrrrrrrrrrrlrl)
noncomputable def K6_12 (k : Nat) (nrrrrrrrrrrlrl : Nat) (nrrrrrrrrrrlrllrllrrrrlrl : Nat) : Ex → Fr → Heap → Option (Value × Heap) := seqC (denK Tryz.prog (run Tryz.prog k) k C6rrrrrrrrrrlrllrllrrrrlrllr (K6_11 k nrrrrrrrrrrlrl nrrrrrrrrrrlrllrllrrrrlrl)) (K6_11 k nrrrrrrrrrrlrl nrrrrrrrrrrlrllrllrrrrlrl)
noncomputable def K6_13 (k : Nat) (nrrrrrrrrrrlrl : Nat) (nrrrrrrrrrrlrllrllrrrrlrl : Nat) : Ex → Fr → Heap → Option (Value × Heap) := seqC (denK Tryz.prog (run Tryz.prog k) k C6rrrrrrrrrrlrllrllrrrrlrlllr (K6_12 k nrrrrrrrrrrlrl nrrrrrrrrrrlrllrllrrrrlrl)) (K6_12 k nrrrrrrrrrrlrl nrrrrrrrrrrlrllrllrrrrlrl)
noncomputable def K6_14 (k : Nat) : Ex → Fr → Heap → Option (Value × Heap) := seqC (denK Tryz.prog (run Tryz.prog k) k C6rrrrrrrrr (K6_0 k)) (K6_0 k)
noncomputable def K6_15 (k : Nat) : Ex → Fr → Heap → Option (Value × Heap) := blkC 0 (K6_14 k)
noncomputable def K6_16 (k : Nat) (nrrrrrrrrlrl : Nat) : Ex → Fr → Heap → Option (Value × Heap) := seqC (iterK (denK Tryz.prog (run Tryz.prog k) k C6rrrrrrrrlrll) (K6_15 k) nrrrrrrrrlrl) (K6_15 k)
noncomputable def K6_17 (k : Nat) (nrrrrrrrrlrl : Nat) : Ex → Fr → Heap → Option (Value × Heap) := seqC (denK Tryz.prog (run Tryz.prog k) k C6rrrrrrrrlrllrr (K6_16 k nrrrrrrrrlrl)) (K6_16 k nrrrrrrrrlrl)
noncomputable def K6_18 (k : Nat) (nrrrrrrrrlrl : Nat) : Ex → Fr → Heap → Option (Value × Heap) := blkC 1 (K6_17 k nrrrrrrrrlrl)
noncomputable def K6_19 (k : Nat) (nrrrrrrrrlrl : Nat) : Ex → Fr → Heap → Option (Value × Heap) := seqC (denK Tryz.prog (run Tryz.prog k) k C6rrrrrrrrlrllrllrrrrrrr (K6_18 k nrrrrrrrrlrl)) (K6_18 k nrrrrrrrrlrl)
noncomputable def K6_20 (k : Nat) : Ex → Fr → Heap → Option (Value × Heap) := seqC (denK Tryz.prog (run Tryz.prog k) k C6rrrr (K6_0 k)) (K6_0 k)
noncomputable def K6_21 (k : Nat) : Ex → Fr → Heap → Option (Value × Heap) := seqC (denK Tryz.prog (run Tryz.prog k) k C6rrrlr (K6_20 k)) (K6_20 k)
noncomputable def K6_22 (k : Nat) : Ex → Fr → Heap → Option (Value × Heap) := seqC (denK Tryz.prog (run Tryz.prog k) k C6r (K6_0 k)) (K6_0 k)

noncomputable def L6_0 (k : Nat) : Nat → Value → Value → Value → Value → Heap → Option (Value × Heap)
  | 0, _, _, _, _, _ => none
  | n + 1, x0, x9, lA, aB, H =>
    bindM (lenSl lA) H fun y218 H_1 =>
    (binI .lss aB y218).bind fun y219 =>
    condV y219
    (
      (idxSl 1 lA aB).bind fun y225 =>
      (ldV false 1 y225 H_1).bind fun y226 =>
      (binI .add (.int .i64 48) y226).bind fun y227 =>
      bindM (convI .u8 y227) H_1 fun y228 H_2 =>
      bindP (pBuildSlice Tryz.prog 57 1 [(0, y228)] H_2) fun y229 H_3 =>
      bindM (convBS y229 H_3) H_3 fun y230 H_4 =>
      (binS .add (.string ⟨#[119,118]⟩) y230).bind fun y231 =>
      bindP (run Tryz.prog k 29 #[x9,y231] H_4) fun y232 H_5 =>
      (binI .neq y232 (.int .i64 0)).bind fun y233 =>
      condV y233
      (
        some ((.bool false), H_5))
      (
        (binI .add aB (.int .i64 1)).bind fun y221 =>
        (L6_0 k n) x0 x9 lA y221 H_5))
    (
      bindP (run Tryz.prog k 24 #[x9] H_1) fun y235 H_6 =>
      (binI .sub x0 (.int .i64 8)).bind fun y237 =>
      (binI .eql y235 y237).bind fun y238 =>
      condG y238 true
      (
        bindP (run Tryz.prog k 23 #[x9] H_6) fun y241 H_7 =>
        bindM (lenSl y241) H_7 fun y242 H_8 =>
        (binI .eql y242 (.int .i64 0)).bind fun y243 =>
        (pPick y238 y243 (.bool false)).bind fun y244 =>
        some (y244, H_8))
      (
        (pPick y238 undef (.bool false)).bind fun y244_1 =>
        some (y244_1, H_6)))
noncomputable def J6_1 (k : Nat) (nxrrrrrrrrrrlrl : Value → Value → Value → Value → Value → Value → Heap → Option (Value × Heap)) (x0 x1 x2 x9 lA pA cI gI : Value) (H : Heap) : Option (Value × Heap) :=
  (pPick cI (.bool true) gI).bind fun y215 =>
  condV y215
  (
    some ((.bool false), H))
  (
    (binI .add pA (.int .i64 1)).bind fun y124 =>
    nxrrrrrrrrrrlrl x0 x1 x2 x9 lA y124 H)
noncomputable def J6_2 (k : Nat) (nxrrrrrrrrrrlrl : Value → Value → Value → Value → Value → Value → Heap → Option (Value × Heap)) (x0 x1 x2 x9 lA pA tA yA wH aI : Value) (H : Heap) : Option (Value × Heap) :=
  (pPick wH (.bool true) aI).bind fun y209 =>
  condG y209 false
  (
    bindM (convBS tA H) H fun y213 H_1 =>
    (binS .neq yA y213).bind fun y214 =>
    J6_1 k nxrrrrrrrrrrlrl x0 x1 x2 x9 lA pA y209 y214 H_1)
  (
    J6_1 k nxrrrrrrrrrrlrl x0 x1 x2 x9 lA pA y209 undef H)
noncomputable def J6_3 (k : Nat) (nxrrrrrrrrrrlrl : Value → Value → Value → Value → Value → Value → Heap → Option (Value × Heap)) (x0 x1 x2 x9 lA pA tA vA yA sH uH : Value) (H : Heap) : Option (Value × Heap) :=
  (pPick sH (.bool true) uH).bind fun y203 =>
  condG y203 false
  (
    bindM (convBS tA H) H fun y207 H_1 =>
    (binS .neq vA y207).bind fun y208 =>
    J6_2 k nxrrrrrrrrrrlrl x0 x1 x2 x9 lA pA tA yA y203 y208 H_1)
  (
    J6_2 k nxrrrrrrrrrrlrl x0 x1 x2 x9 lA pA tA yA y203 undef H)
noncomputable def J6_4 (k : Nat) (nxrrrrrrrrrrlrl : Value → Value → Value → Value → Value → Value → Heap → Option (Value × Heap)) (x0 x1 x2 x9 lA pA tA vA yA zA oH qH : Value) (H : Heap) : Option (Value × Heap) :=
  (pPick oH (.bool true) qH).bind fun y199 =>
  condG y199 false
  (
    (binI .neq zA (.int .i64 0)).bind fun y202 =>
    J6_3 k nxrrrrrrrrrrlrl x0 x1 x2 x9 lA pA tA vA yA y199 y202 H)
  (
    J6_3 k nxrrrrrrrrrrlrl x0 x1 x2 x9 lA pA tA vA yA y199 undef H)
noncomputable def J6_5 (k : Nat) (nxrrrrrrrrrrlrl : Value → Value → Value → Value → Value → Value → Heap → Option (Value × Heap)) (nxrrrrrrrrrrlrllrllrrrrlrl : Value → Value → Value → Value → Value → Value → Value → Value → Value → Value → Value → Heap → Option (Value × Heap)) (x0 x1 x2 x9 lA pA qA rA sA tA uA yF fG : Value) (H : Heap) : Option (Value × Heap) :=
  (pPick yF fG (.bool false)).bind fun y162 =>
  condV y162
  (
    (idxSl 1 x2 qA).bind fun y169 =>
    (ldV false 1 y169 H).bind fun y170 =>
    (idxStr y170 uA).bind fun y172 =>
    (idxSl 1 tA uA).bind fun y173 =>
    (stV 1 y173 y172 H).bind fun H_1 =>
    (binI .add uA (.int .i64 1)).bind fun y164 =>
    nxrrrrrrrrrrlrllrllrrrrlrl x0 x1 x2 x9 lA pA qA rA sA tA y164 H_1)
  (
    bindP (run Tryz.prog k 25 #[x9,rA,(.int .i64 0),sA] H) fun y178 H_2 =>
    (pExtract y178 0).bind fun y179 =>
    (pExtract y178 1).bind fun y180 =>
    (binS .add (.string ⟨#[119]⟩) rA).bind fun y184 =>
    bindP (run Tryz.prog k 28 #[x9,rA,y184] H_2) fun y185 H_3 =>
    (binS .add (.string ⟨#[119]⟩) rA).bind fun y189 =>
    bindP (run Tryz.prog k 25 #[x9,y189,(.int .i64 0),sA] H_3) fun y191 H_4 =>
    (pExtract y191 0).bind fun y192 =>
    (pExtract y191 1).bind fun y193 =>
    (binI .neq y180 (.int .i64 0)).bind fun y195 =>
    condG y195 false
    (
      (binI .neq y185 (.int .i64 0)).bind fun y198 =>
      J6_4 k nxrrrrrrrrrrlrl x0 x1 x2 x9 lA pA tA y179 y192 y193 y195 y198 H_4)
    (
      J6_4 k nxrrrrrrrrrrlrl x0 x1 x2 x9 lA pA tA y179 y192 y193 y195 undef H_4))
noncomputable def J6_6 (k : Nat) (nxrrrrrrrrrrlrl : Value → Value → Value → Value → Value → Value → Heap → Option (Value × Heap)) (nxrrrrrrrrrrlrllrllrrrrlrl : Value → Value → Value → Value → Value → Value → Value → Value → Value → Value → Value → Heap → Option (Value × Heap)) (x0 x1 x2 x9 lA pA qA rA sA tA uA sF wF : Value) (H : Heap) : Option (Value × Heap) :=
  (pPick sF wF (.bool false)).bind fun y153 =>
  condG y153 true
  (
    (idxSl 1 x2 qA).bind fun y158 =>
    (ldV false 1 y158 H).bind fun y159 =>
    bindM (lenSt y159) H fun y160 H_1 =>
    (binI .lss uA y160).bind fun y161 =>
    J6_5 k nxrrrrrrrrrrlrl nxrrrrrrrrrrlrllrllrrrrlrl x0 x1 x2 x9 lA pA qA rA sA tA uA y153 y161 H_1)
  (
    J6_5 k nxrrrrrrrrrrlrl nxrrrrrrrrrrlrllrllrrrrlrl x0 x1 x2 x9 lA pA qA rA sA tA uA y153 undef H)
noncomputable def L6_7 (k : Nat) (nxrrrrrrrrrrlrl : Value → Value → Value → Value → Value → Value → Heap → Option (Value × Heap)) : Nat → Value → Value → Value → Value → Value → Value → Value → Value → Value → Value → Value → Heap → Option (Value × Heap)
  | 0, _, _, _, _, _, _, _, _, _, _, _, _ => none
  | n + 1, x0, x1, x2, x9, lA, pA, qA, rA, sA, tA, uA, H =>
    bindM (lenSl x2) H fun y146 H_1 =>
    (binI .lss qA y146).bind fun y147 =>
    condG y147 true
    (
      bindM (lenSl tA) H_1 fun y151 H_2 =>
      (binI .lss uA y151).bind fun y152 =>
      J6_6 k nxrrrrrrrrrrlrl (L6_7 k nxrrrrrrrrrrlrl n) x0 x1 x2 x9 lA pA qA rA sA tA uA y147 y152 H_2)
    (
      J6_6 k nxrrrrrrrrrrlrl (L6_7 k nxrrrrrrrrrrlrl n) x0 x1 x2 x9 lA pA qA rA sA tA uA y147 undef H_1)
noncomputable def L6_8 (k : Nat) : Nat → Value → Value → Value → Value → Value → Value → Heap → Option (Value × Heap)
  | 0, _, _, _, _, _, _, _ => none
  | n + 1, x0, x1, x2, x9, lA, pA, H =>
    bindM (lenSl lA) H fun y121 H_1 =>
    (binI .lss pA y121).bind fun y122 =>
    condV y122
    (
      (idxSl 1 lA pA).bind fun y127 =>
      (ldV false 1 y127 H_1).bind fun y128 =>
      (binI .add (.int .i64 48) y128).bind fun y130 =>
      bindM (convI .u8 y130) H_1 fun y131 H_2 =>
      bindP (pBuildSlice Tryz.prog 57 1 [(0, y131)] H_2) fun y132 H_3 =>
      bindM (convBS y132 H_3) H_3 fun y133 H_4 =>
      (binS .add (.string ⟨#[118]⟩) y133).bind fun y134 =>
      (idxSl 1 x1 y128).bind fun y137 =>
      (ldV false 1 y137 H_4).bind fun y138 =>
      (binI .and y138 (.int .i64 3)).bind fun y139 =>
      (binI .add (.int .i64 1) y139).bind fun y140 =>
      (binI .mul y140 (.int .i64 32)).bind fun y142 =>
      bindP (mkSl 1 1 #[(.int .u8 0)] 5 y142 y142 H_4) fun y143 H_5 =>
      L6_7 k (L6_8 k n) k x0 x1 x2 x9 lA pA y128 y134 y140 y143 (.int .i64 0) H_5)
    (
      L6_0 k k x0 x9 lA (.int .i64 0) H_1)
noncomputable def J6_9 (k : Nat) (nxrrrrrrrrlrl : Value → Value → Value → Value → Value → Value → Value → Heap → Option (Value × Heap)) (x0 x1 x2 x9 kA lA mA : Value) (H : Heap) : Option (Value × Heap) :=
  (binI .add mA (.int .i64 1)).bind fun y64 =>
  nxrrrrrrrrlrl x0 x1 x2 x9 kA lA y64 H
noncomputable def J6_10 (k : Nat) (nxrrrrrrrrlrl : Value → Value → Value → Value → Value → Value → Value → Heap → Option (Value × Heap)) (x0 x1 x2 x9 kA lA mA vD jE : Value) (H : Heap) (X : List (Nat × Nat × Nat)) : Option (Value × Heap) :=
  (pPick vD jE (.bool false)).bind fun y114 =>
  condV y114
  (
    some ((.bool false), H))
  (
    J6_9 k nxrrrrrrrrlrl x0 x1 x2 x9 kA lA mA H)
noncomputable def L6_11 (k : Nat) : Nat → Value → Value → Value → Value → Value → Value → Value → Heap → Option (Value × Heap)
  | 0, _, _, _, _, _, _, _, _ => none
  | n + 1, x0, x1, x2, x9, kA, lA, mA, H =>
    bindM (lenSl x1) H fun y61 H_1 =>
    (binI .lss mA y61).bind fun y62 =>
    condV y62
    (
      (idxSl 1 x1 mA).bind fun y67 =>
      (ldV false 1 y67 H_1).bind fun y68 =>
      (binI .and y68 (.int .i64 3)).bind fun y69 =>
      (binI .add (.int .i64 1) y69).bind fun y70 =>
      (binI .add (.int .i64 48) mA).bind fun y73 =>
      bindM (convI .u8 y73) H_1 fun y74 H_2 =>
      bindP (pBuildSlice Tryz.prog 57 1 [(0, y74)] H_2) fun y75 H_3 =>
      bindM (convBS y75 H_3) H_3 fun y76 H_4 =>
      (binS .add (.string ⟨#[118]⟩) y76).bind fun y77 =>
      bindP (run Tryz.prog k 27 #[x9,y77,y70] H_4) fun y79 H_5 =>
      (binI .eql y79 (.int .i64 0)).bind fun y81 =>
      (binI .leq y70 kA).bind fun y84 =>
      (binE Tryz.prog .neq 4 false y81 y84).bind fun y85 =>
      condV y85
      (
        some ((.bool false), H_5))
      (
        (binI .neq y79 (.int .i64 0)).bind fun y87 =>
        condV y87
        (
          J6_9 k (L6_11 k n) x0 x1 x2 x9 kA lA mA H_5)
        (
          (binI .sub kA y70).bind fun y90 =>
          bindP (pBuildSlice Tryz.prog 54 1 [(0, mA)] H_5) fun y93 H_6 =>
          bindP (appendSl 3 1 8 lA y93 H_6) fun y94 H_7 =>
          bindM (lenSl x2) H_7 fun y97 _ =>
          (binI .lss mA y97).bind fun y98 =>
          condG y98 true
          (
            (binI .add (.int .i64 48) mA).bind fun y102 =>
            bindM (convI .u8 y102) H_7 fun y103 _ =>
            bindP (pBuildSlice Tryz.prog 57 1 [(0, y103)] H_7) fun y104 H_8 =>
            bindM (convBS y104 H_8) H_8 fun y105 _ =>
            (binS .add (.string ⟨#[118]⟩) y105).bind fun y106 =>
            (idxSl 1 x2 mA).bind fun y110 =>
            (ldV false 1 y110 (hides H_8 [(H_7.next, H_8.next)])).bind fun y111 =>
            bindP (run Tryz.prog k 26 #[x9,y106,(.int .i64 0),y70,y111] H_8) fun y112 H_9 =>
            (binI .neq y112 (.int .i64 0)).bind fun y113 =>
            J6_10 k (L6_11 k n) x0 x1 x2 x9 y90 y94 mA y98 y113 H_9 [])
          (
            J6_10 k (L6_11 k n) x0 x1 x2 x9 y90 y94 mA y98 undef H_7 []))))
    (
      bindP (run Tryz.prog k 24 #[x9] H_1) fun y116 H_10 =>
      (binI .neq y116 kA).bind fun y118 =>
      condV y118
      (
        some ((.bool false), H_10))
      (
        L6_8 k k x0 x1 x2 x9 lA (.int .i64 0) H_10))
noncomputable def J6_12 (k : Nat) (x0 x1 x2 x7 sB vB : Value) (H : Heap) : Option (Value × Heap) :=
  (pPick sB (.bool true) vB).bind fun y48 =>
  condV y48
  (
    some ((.bool true), H))
  (
    bindP (run Tryz.prog k 17 #[(.iface 25 x7)] H) fun y52 H_1 =>
    (pExtract y52 0).bind fun y53 =>
    (pExtract y52 1).bind fun y54 =>
    (binI .neq y54 (.int .i64 0)).bind fun y56 =>
    condV y56
    (
      some ((.bool false), H_1))
    (
      (binI .sub x0 (.int .i64 8)).bind fun y58 =>
      L6_11 k k x0 x1 x2 y53 y58 (.slice none 0 0) (.int .i64 0) H_1))
noncomputable def J6_13 (k : Nat) (x0 x1 x2 x7 oB qB : Value) (H : Heap) : Option (Value × Heap) :=
  (pPick oB (.bool true) qB).bind fun y43 =>
  condG y43 false
  (
    bindM (lenSl x1) H fun y46 H_1 =>
    (binI .gtr y46 (.int .i64 6)).bind fun y47 =>
    J6_12 k x0 x1 x2 x7 y43 y47 H_1)
  (
    J6_12 k x0 x1 x2 x7 y43 undef H)
noncomputable def J6_14 (k : Nat) (x0 x1 x2 x7 kB mB : Value) (H : Heap) : Option (Value × Heap) :=
  (pPick kB (.bool true) mB).bind fun y39 =>
  condG y39 false
  (
    (binI .gtr x0 (.int .i64 64)).bind fun y42 =>
    J6_13 k x0 x1 x2 x7 y39 y42 H)
  (
    J6_13 k x0 x1 x2 x7 y39 undef H)
noncomputable def F6 (k : Nat) (x0 x1 x2 : Value) (H : Heap) : Option (Value × Heap) :=
  bindP (run Tryz.prog k 10 #[] H) fun y27 H_1 =>
  (pUn .not y27).bind fun y28 =>
  condV y28
  (
    some ((.bool false), H_1))
  (
    bindP (run Tryz.prog k 13 #[x0] H_1) fun y31 H_2 =>
    (pExtract y31 0).bind fun y32 =>
    (pExtract y31 1).bind fun y33 =>
    (binI .neq y33 (.int .i64 0)).bind fun y35 =>
    condG y35 false
    (
      (binI .lss x0 (.int .i64 9)).bind fun y38 =>
      J6_14 k x0 x1 x2 y32 y35 y38 H_2)
    (
      J6_14 k x0 x1 x2 y32 y35 undef H_2))

set_option maxRecDepth 100000 in
theorem TL6_0 (k : Nat) : ∀ (n : Nat) (x0 x1 x2 x3 x4 x5 x6 x7 x8 x9 kA lA mA nA oA pA qA rA sA tA uA vA wA xA yA zA aB bB cB dB eB fB gB hB iB jB kB lB mB nB oB pB qB rB sB tB uB vB wB xB yB zB aC bC cC dC eC fC gC hC iC jC kC lC mC nC oC pC qC rC sC tC uC vC wC xC yC zC aD bD cD dD eD fD gD hD iD jD kD lD mD nD oD pD qD rD sD tD uD vD wD xD yD zD aE bE cE dE eE fE gE hE iE jE kE lE mE nE oE pE qE rE sE tE uE vE wE xE yE zE aF bF cF dF eF fF gF hF iF jF kF lF mF nF oF pF qF rF sF tF uF vF wF xF yF zF aG bG cG dG eG fG gG hG iG jG kG lG mG nG oG pG qG rG sG tG uG vG wG xG yG zG aH bH cH dH eH fH gH hH iH jH kH lH mH nH oH pH qH rH sH tH uH vH wH xH yH zH aI bI cI dI eI fI gI hI iI jI kI lI mI nI oI pI qI rI sI tI uI vI wI xI yI zI aJ bJ cJ dJ eJ fJ gJ hJ iJ jJ kJ : Value) (H : Heap), iterK (denK Tryz.prog (run Tryz.prog k) k C6rrrrrrrrrrrlrll) (K6_2 k) n #[x0,x1,x2,x3,x4,x5,x6,x7,x8,x9,kA,lA,mA,nA,oA,pA,qA,rA,sA,tA,uA,vA,wA,xA,yA,zA,aB,bB,cB,dB,eB,fB,gB,hB,iB,jB,kB,lB,mB,nB,oB,pB,qB,rB,sB,tB,uB,vB,wB,xB,yB,zB,aC,bC,cC,dC,eC,fC,gC,hC,iC,jC,kC,lC,mC,nC,oC,pC,qC,rC,sC,tC,uC,vC,wC,xC,yC,zC,aD,bD,cD,dD,eD,fD,gD,hD,iD,jD,kD,lD,mD,nD,oD,pD,qD,rD,sD,tD,uD,vD,wD,xD,yD,zD,aE,bE,cE,dE,eE,fE,gE,hE,iE,jE,kE,lE,mE,nE,oE,pE,qE,rE,sE,tE,uE,vE,wE,xE,yE,zE,aF,bF,cF,dF,eF,fF,gF,hF,iF,jF,kF,lF,mF,nF,oF,pF,qF,rF,sF,tF,uF,vF,wF,xF,yF,zF,aG,bG,cG,dG,eG,fG,gG,hG,iG,jG,kG,lG,mG,nG,oG,pG,qG,rG,sG,tG,uG,vG,wG,xG,yG,zG,aH,bH,cH,dH,eH,fH,gH,hH,iH,jH,kH,lH,mH,nH,oH,pH,qH,rH,sH,tH,uH,vH,wH,xH,yH,zH,aI,bI,cI,dI,eI,fI,gI,hI,iI,jI,kI,lI,mI,nI,oI,pI,qI,rI,sI,tI,uI,vI,wI,xI,yI,zI,aJ,bJ,cJ,dJ,eJ,fJ,gJ,hJ,iJ,jJ,kJ] H = L6_0 k n x0 x9 lA aB H := by
  intro n
  induction n with
  | zero => intros; rfl
  | succ n ih =>
    intro x0 x1 x2 x3 x4 x5 x6 x7 x8 x9 kA lA mA nA oA pA qA rA sA tA uA vA wA xA yA zA aB bB cB dB eB fB gB hB iB jB kB lB mB nB oB pB qB rB sB tB uB vB wB xB yB zB aC bC cC dC eC fC gC hC iC jC kC lC mC nC oC pC qC rC sC tC uC vC wC xC yC zC aD bD cD dD eD fD gD hD iD jD kD lD mD nD oD pD qD rD sD tD uD vD wD xD yD zD aE bE cE dE eE fE gE hE iE jE kE lE mE nE oE pE qE rE sE tE uE vE wE xE yE zE aF bF cF dF eF fF gF hF iF jF kF lF mF nF oF pF qF rF sF tF uF vF wF xF yF zF aG bG cG dG eG fG gG hG iG jG kG lG mG nG oG pG qG rG sG tG uG vG wG xG yG zG aH bH cH dH eH fH gH hH iH jH kH lH mH nH oH pH qH rH sH tH uH vH wH xH yH zH aI bI cI dI eI fI gI hI iI jI kI lI mI nI oI pI qI rI sI tI uI vI wI xI yI zI aJ bJ cJ dJ eJ fJ gJ hJ iJ jJ kJ H
    refine Eq.trans (b :=
    bindM (lenSl lA) H fun y218 H_1 =>
    (binI .lss aB y218).bind fun y219 =>
    condV y219
    (
      (idxSl 1 lA aB).bind fun y225 =>
      (ldV false 1 y225 H_1).bind fun y226 =>
      (binI .add (.int .i64 48) y226).bind fun y227 =>
      bindM (convI .u8 y227) H_1 fun y228 H_2 =>
      bindP (pBuildSlice Tryz.prog 57 1 [(0, y228)] H_2) fun y229 H_3 =>
      bindM (convBS y229 H_3) H_3 fun y230 H_4 =>
      (binS .add (.string ⟨#[119,118]⟩) y230).bind fun y231 =>
      bindP (run Tryz.prog k 29 #[x9,y231] H_4) fun y232 H_5 =>
      (binI .neq y232 (.int .i64 0)).bind fun y233 =>
      condV y233
      (
        some ((.bool false), H_5))
      (
        (binI .add aB (.int .i64 1)).bind fun y221 =>
        iterK (denK Tryz.prog (run Tryz.prog k) k C6rrrrrrrrrrrlrll) (K6_2 k) n #[x0,x1,x2,x3,x4,x5,x6,x7,x8,x9,kA,lA,mA,nA,oA,pA,qA,rA,sA,tA,uA,vA,wA,xA,yA,zA,y221,bB,cB,dB,eB,fB,gB,hB,iB,jB,kB,lB,mB,nB,oB,pB,qB,rB,sB,tB,uB,vB,wB,xB,yB,zB,aC,bC,cC,dC,eC,fC,gC,hC,iC,jC,kC,lC,mC,nC,oC,pC,qC,rC,sC,tC,uC,vC,wC,xC,yC,zC,aD,bD,cD,dD,eD,fD,gD,hD,iD,jD,kD,lD,mD,nD,oD,pD,qD,rD,sD,tD,uD,vD,wD,xD,yD,zD,aE,bE,cE,dE,eE,fE,gE,hE,iE,jE,kE,lE,mE,nE,oE,pE,qE,rE,sE,tE,uE,vE,wE,xE,yE,zE,aF,bF,cF,dF,eF,fF,gF,hF,iF,jF,kF,lF,mF,nF,oF,pF,qF,rF,sF,tF,uF,vF,wF,xF,yF,zF,aG,bG,cG,dG,eG,fG,gG,hG,iG,jG,kG,lG,mG,nG,oG,pG,qG,rG,sG,tG,uG,vG,wG,xG,yG,zG,aH,bH,cH,dH,eH,fH,gH,hH,iH,jH,kH,lH,mH,nH,oH,pH,qH,rH,sH,tH,uH,vH,wH,xH,yH,zH,aI,bI,cI,dI,eI,fI,gI,hI,aB,lA,y218,y219,aB,y221,x9,lA,aB,y225,y226,y227,y228,y229,y230,y231,y232,y233,aJ,bJ,cJ,dJ,eJ,fJ,gJ,hJ,iJ,jJ,kJ] H_5))
    (
      bindP (run Tryz.prog k 24 #[x9] H_1) fun y235 H_6 =>
      (binI .sub x0 (.int .i64 8)).bind fun y237 =>
      (binI .eql y235 y237).bind fun y238 =>
      condG y238 true
      (
        bindP (run Tryz.prog k 23 #[x9] H_6) fun y241 H_7 =>
        bindM (lenSl y241) H_7 fun y242 H_8 =>
        (binI .eql y242 (.int .i64 0)).bind fun y243 =>
        (pPick y238 y243 (.bool false)).bind fun y244 =>
        some (y244, H_8))
      (
        (pPick y238 undef (.bool false)).bind fun y244_1 =>
        some (y244_1, H_6)))) (by kernel_rfl) ?_
    simp only [ih]
    rfl
set_option maxRecDepth 100000 in
theorem TJ6_1 (k : Nat) (nrrrrrrrrrrlrl : Nat) (nxrrrrrrrrrrlrl : Value → Value → Value → Value → Value → Value → Heap → Option (Value × Heap)) (hrrrrrrrrrrlrl : ∀ (x0 x1 x2 x3 x4 x5 x6 x7 x8 x9 kA lA mA nA oA pA qA rA sA tA uA vA wA xA yA zA aB bB cB dB eB fB gB hB iB jB kB lB mB nB oB pB qB rB sB tB uB vB wB xB yB zB aC bC cC dC eC fC gC hC iC jC kC lC mC nC oC pC qC rC sC tC uC vC wC xC yC zC aD bD cD dD eD fD gD hD iD jD kD lD mD nD oD pD qD rD sD tD uD vD wD xD yD zD aE bE cE dE eE fE gE hE iE jE kE lE mE nE oE pE qE rE sE tE uE vE wE xE yE zE aF bF cF dF eF fF gF hF iF jF kF lF mF nF oF pF qF rF sF tF uF vF wF xF yF zF aG bG cG dG eG fG gG hG iG jG kG lG mG nG oG pG qG rG sG tG uG vG wG xG yG zG aH bH cH dH eH fH gH hH iH jH kH lH mH nH oH pH qH rH sH tH uH vH wH xH yH zH aI bI cI dI eI fI gI hI iI jI kI lI mI nI oI pI qI rI sI tI uI vI wI xI yI zI aJ bJ cJ dJ eJ fJ gJ hJ iJ jJ kJ : Value) (H : Heap), iterK (denK Tryz.prog (run Tryz.prog k) k C6rrrrrrrrrrlrll) (K6_4 k) nrrrrrrrrrrlrl #[x0,x1,x2,x3,x4,x5,x6,x7,x8,x9,kA,lA,mA,nA,oA,pA,qA,rA,sA,tA,uA,vA,wA,xA,yA,zA,aB,bB,cB,dB,eB,fB,gB,hB,iB,jB,kB,lB,mB,nB,oB,pB,qB,rB,sB,tB,uB,vB,wB,xB,yB,zB,aC,bC,cC,dC,eC,fC,gC,hC,iC,jC,kC,lC,mC,nC,oC,pC,qC,rC,sC,tC,uC,vC,wC,xC,yC,zC,aD,bD,cD,dD,eD,fD,gD,hD,iD,jD,kD,lD,mD,nD,oD,pD,qD,rD,sD,tD,uD,vD,wD,xD,yD,zD,aE,bE,cE,dE,eE,fE,gE,hE,iE,jE,kE,lE,mE,nE,oE,pE,qE,rE,sE,tE,uE,vE,wE,xE,yE,zE,aF,bF,cF,dF,eF,fF,gF,hF,iF,jF,kF,lF,mF,nF,oF,pF,qF,rF,sF,tF,uF,vF,wF,xF,yF,zF,aG,bG,cG,dG,eG,fG,gG,hG,iG,jG,kG,lG,mG,nG,oG,pG,qG,rG,sG,tG,uG,vG,wG,xG,yG,zG,aH,bH,cH,dH,eH,fH,gH,hH,iH,jH,kH,lH,mH,nH,oH,pH,qH,rH,sH,tH,uH,vH,wH,xH,yH,zH,aI,bI,cI,dI,eI,fI,gI,hI,iI,jI,kI,lI,mI,nI,oI,pI,qI,rI,sI,tI,uI,vI,wI,xI,yI,zI,aJ,bJ,cJ,dJ,eJ,fJ,gJ,hJ,iJ,jJ,kJ] H = nxrrrrrrrrrrlrl x0 x1 x2 x9 lA pA H) (x0 x1 x2 x3 x4 x5 x6 x7 x8 x9 kA lA mA nA oA pA qA rA sA tA uA vA wA xA yA zA aB bB cB dB eB fB gB hB iB jB kB lB mB nB oB pB qB rB sB tB uB vB wB xB yB zB aC bC cC dC eC fC gC hC iC jC kC lC mC nC oC pC qC rC sC tC uC vC wC xC yC zC aD bD cD dD eD fD gD hD iD jD kD lD mD nD oD pD qD rD sD tD uD vD wD xD yD zD aE bE cE dE eE fE gE hE iE jE kE lE mE nE oE pE qE rE sE tE uE vE wE xE yE zE aF bF cF dF eF fF gF hF iF jF kF lF mF nF oF pF qF rF sF tF uF vF wF xF yF zF aG bG cG dG eG fG gG hG iG jG kG lG mG nG oG pG qG rG sG tG uG vG wG xG yG zG aH bH cH dH eH fH gH hH iH jH kH lH mH nH oH pH qH rH sH tH uH vH wH xH yH zH aI bI cI dI eI fI gI hI iI jI kI lI mI nI oI pI qI rI sI tI uI vI wI xI yI zI aJ bJ cJ dJ eJ fJ gJ hJ iJ jJ kJ : Value) (H : Heap) : grpK Tryz.prog (run Tryz.prog k) (ropsC C6rrrrrrrrrrlrllrllrrrrrrrrl) ((grps (ropsC C6rrrrrrrrrrlrllrllrrrrrrrrl).toList).drop 8) #[x0,x1,x2,x3,x4,x5,x6,x7,x8,x9,kA,lA,mA,nA,oA,pA,qA,rA,sA,tA,uA,vA,wA,xA,yA,zA,aB,bB,cB,dB,eB,fB,gB,hB,iB,jB,kB,lB,mB,nB,oB,pB,qB,rB,sB,tB,uB,vB,wB,xB,yB,zB,aC,bC,cC,dC,eC,fC,gC,hC,iC,jC,kC,lC,mC,nC,oC,pC,qC,rC,sC,tC,uC,vC,wC,xC,yC,zC,aD,bD,cD,dD,eD,fD,gD,hD,iD,jD,kD,lD,mD,nD,oD,pD,qD,rD,sD,tD,uD,vD,wD,xD,yD,zD,aE,bE,cE,dE,eE,fE,gE,hE,iE,jE,kE,lE,mE,nE,oE,pE,qE,rE,sE,tE,uE,vE,wE,xE,yE,zE,aF,bF,cF,dF,eF,fF,gF,hF,iF,jF,kF,lF,mF,nF,oF,pF,qF,rF,sF,tF,uF,vF,wF,xF,yF,zF,aG,bG,cG,dG,eG,fG,gG,hG,iG,jG,kG,lG,mG,nG,oG,pG,qG,rG,sG,tG,uG,vG,wG,xG,yG,zG,aH,bH,cH,dH,eH,fH,gH,hH,iH,jH,kH,lH,mH,nH,oH,pH,qH,rH,sH,tH,uH,vH,wH,xH,yH,zH,aI,bI,cI,dI,eI,fI,gI,hI,iI,jI,kI,lI,mI,nI,oI,pI,qI,rI,sI,tI,uI,vI,wI,xI,yI,zI,aJ,bJ,cJ,dJ,eJ,fJ,gJ,hJ,iJ,jJ,kJ] H ((K6_8 k nrrrrrrrrrrlrl) .normal) = J6_1 k nxrrrrrrrrrrlrl x0 x1 x2 x9 lA pA cI gI H := by
  refine Eq.trans (b :=
    (pPick cI (.bool true) gI).bind fun y215 =>
    condV y215
    (
      some ((.bool false), H))
    (
      (binI .add pA (.int .i64 1)).bind fun y124 =>
      iterK (denK Tryz.prog (run Tryz.prog k) k C6rrrrrrrrrrlrll) (K6_4 k) nrrrrrrrrrrlrl #[x0,x1,x2,x3,x4,x5,x6,x7,x8,x9,kA,lA,mA,nA,oA,y124,qA,rA,sA,tA,uA,vA,wA,xA,yA,zA,aB,bB,cB,dB,eB,fB,gB,hB,iB,jB,kB,lB,mB,nB,oB,pB,qB,rB,sB,tB,uB,vB,wB,xB,yB,zB,aC,bC,cC,dC,eC,fC,gC,hC,iC,jC,kC,lC,mC,nC,oC,pC,qC,rC,sC,tC,uC,vC,wC,xC,yC,zC,aD,bD,cD,dD,eD,fD,gD,hD,iD,jD,kD,lD,mD,nD,oD,pD,qD,rD,sD,tD,uD,vD,wD,xD,yD,zD,aE,bE,cE,dE,eE,fE,gE,hE,iE,jE,kE,lE,mE,nE,oE,pE,qE,rE,sE,pA,y124,vE,wE,xE,yE,zE,aF,bF,cF,dF,eF,fF,gF,hF,iF,jF,kF,lF,mF,nF,oF,pF,qF,rF,sF,tF,uF,vF,wF,xF,yF,zF,aG,bG,cG,dG,eG,fG,gG,hG,iG,jG,kG,lG,mG,nG,oG,pG,qG,rG,sG,tG,uG,vG,wG,xG,yG,zG,aH,bH,cH,dH,eH,fH,gH,hH,iH,jH,kH,lH,mH,nH,oH,pH,qH,rH,sH,tH,uH,vH,wH,xH,yH,zH,aI,bI,cI,dI,eI,fI,gI,y215,iI,jI,kI,lI,mI,nI,oI,pI,qI,rI,sI,tI,uI,vI,wI,xI,yI,zI,aJ,bJ,cJ,dJ,eJ,fJ,gJ,hJ,iJ,jJ,kJ] H)) (by kernel_rfl) ?_
  simp only [hrrrrrrrrrrlrl]
  rfl
set_option maxRecDepth 100000 in
theorem TJ6_2 (k : Nat) (nrrrrrrrrrrlrl : Nat) (nxrrrrrrrrrrlrl : Value → Value → Value → Value → Value → Value → Heap → Option (Value × Heap)) (hrrrrrrrrrrlrl : ∀ (x0 x1 x2 x3 x4 x5 x6 x7 x8 x9 kA lA mA nA oA pA qA rA sA tA uA vA wA xA yA zA aB bB cB dB eB fB gB hB iB jB kB lB mB nB oB pB qB rB sB tB uB vB wB xB yB zB aC bC cC dC eC fC gC hC iC jC kC lC mC nC oC pC qC rC sC tC uC vC wC xC yC zC aD bD cD dD eD fD gD hD iD jD kD lD mD nD oD pD qD rD sD tD uD vD wD xD yD zD aE bE cE dE eE fE gE hE iE jE kE lE mE nE oE pE qE rE sE tE uE vE wE xE yE zE aF bF cF dF eF fF gF hF iF jF kF lF mF nF oF pF qF rF sF tF uF vF wF xF yF zF aG bG cG dG eG fG gG hG iG jG kG lG mG nG oG pG qG rG sG tG uG vG wG xG yG zG aH bH cH dH eH fH gH hH iH jH kH lH mH nH oH pH qH rH sH tH uH vH wH xH yH zH aI bI cI dI eI fI gI hI iI jI kI lI mI nI oI pI qI rI sI tI uI vI wI xI yI zI aJ bJ cJ dJ eJ fJ gJ hJ iJ jJ kJ : Value) (H : Heap), iterK (denK Tryz.prog (run Tryz.prog k) k C6rrrrrrrrrrlrll) (K6_4 k) nrrrrrrrrrrlrl #[x0,x1,x2,x3,x4,x5,x6,x7,x8,x9,kA,lA,mA,nA,oA,pA,qA,rA,sA,tA,uA,vA,wA,xA,yA,zA,aB,bB,cB,dB,eB,fB,gB,hB,iB,jB,kB,lB,mB,nB,oB,pB,qB,rB,sB,tB,uB,vB,wB,xB,yB,zB,aC,bC,cC,dC,eC,fC,gC,hC,iC,jC,kC,lC,mC,nC,oC,pC,qC,rC,sC,tC,uC,vC,wC,xC,yC,zC,aD,bD,cD,dD,eD,fD,gD,hD,iD,jD,kD,lD,mD,nD,oD,pD,qD,rD,sD,tD,uD,vD,wD,xD,yD,zD,aE,bE,cE,dE,eE,fE,gE,hE,iE,jE,kE,lE,mE,nE,oE,pE,qE,rE,sE,tE,uE,vE,wE,xE,yE,zE,aF,bF,cF,dF,eF,fF,gF,hF,iF,jF,kF,lF,mF,nF,oF,pF,qF,rF,sF,tF,uF,vF,wF,xF,yF,zF,aG,bG,cG,dG,eG,fG,gG,hG,iG,jG,kG,lG,mG,nG,oG,pG,qG,rG,sG,tG,uG,vG,wG,xG,yG,zG,aH,bH,cH,dH,eH,fH,gH,hH,iH,jH,kH,lH,mH,nH,oH,pH,qH,rH,sH,tH,uH,vH,wH,xH,yH,zH,aI,bI,cI,dI,eI,fI,gI,hI,iI,jI,kI,lI,mI,nI,oI,pI,qI,rI,sI,tI,uI,vI,wI,xI,yI,zI,aJ,bJ,cJ,dJ,eJ,fJ,gJ,hJ,iJ,jJ,kJ] H = nxrrrrrrrrrrlrl x0 x1 x2 x9 lA pA H) (x0 x1 x2 x3 x4 x5 x6 x7 x8 x9 kA lA mA nA oA pA qA rA sA tA uA vA wA xA yA zA aB bB cB dB eB fB gB hB iB jB kB lB mB nB oB pB qB rB sB tB uB vB wB xB yB zB aC bC cC dC eC fC gC hC iC jC kC lC mC nC oC pC qC rC sC tC uC vC wC xC yC zC aD bD cD dD eD fD gD hD iD jD kD lD mD nD oD pD qD rD sD tD uD vD wD xD yD zD aE bE cE dE eE fE gE hE iE jE kE lE mE nE oE pE qE rE sE tE uE vE wE xE yE zE aF bF cF dF eF fF gF hF iF jF kF lF mF nF oF pF qF rF sF tF uF vF wF xF yF zF aG bG cG dG eG fG gG hG iG jG kG lG mG nG oG pG qG rG sG tG uG vG wG xG yG zG aH bH cH dH eH fH gH hH iH jH kH lH mH nH oH pH qH rH sH tH uH vH wH xH yH zH aI bI cI dI eI fI gI hI iI jI kI lI mI nI oI pI qI rI sI tI uI vI wI xI yI zI aJ bJ cJ dJ eJ fJ gJ hJ iJ jJ kJ : Value) (H : Heap) : grpK Tryz.prog (run Tryz.prog k) (ropsC C6rrrrrrrrrrlrllrllrrrrrrrrl) ((grps (ropsC C6rrrrrrrrrrlrllrllrrrrrrrrl).toList).drop 6) #[x0,x1,x2,x3,x4,x5,x6,x7,x8,x9,kA,lA,mA,nA,oA,pA,qA,rA,sA,tA,uA,vA,wA,xA,yA,zA,aB,bB,cB,dB,eB,fB,gB,hB,iB,jB,kB,lB,mB,nB,oB,pB,qB,rB,sB,tB,uB,vB,wB,xB,yB,zB,aC,bC,cC,dC,eC,fC,gC,hC,iC,jC,kC,lC,mC,nC,oC,pC,qC,rC,sC,tC,uC,vC,wC,xC,yC,zC,aD,bD,cD,dD,eD,fD,gD,hD,iD,jD,kD,lD,mD,nD,oD,pD,qD,rD,sD,tD,uD,vD,wD,xD,yD,zD,aE,bE,cE,dE,eE,fE,gE,hE,iE,jE,kE,lE,mE,nE,oE,pE,qE,rE,sE,tE,uE,vE,wE,xE,yE,zE,aF,bF,cF,dF,eF,fF,gF,hF,iF,jF,kF,lF,mF,nF,oF,pF,qF,rF,sF,tF,uF,vF,wF,xF,yF,zF,aG,bG,cG,dG,eG,fG,gG,hG,iG,jG,kG,lG,mG,nG,oG,pG,qG,rG,sG,tG,uG,vG,wG,xG,yG,zG,aH,bH,cH,dH,eH,fH,gH,hH,iH,jH,kH,lH,mH,nH,oH,pH,qH,rH,sH,tH,uH,vH,wH,xH,yH,zH,aI,bI,cI,dI,eI,fI,gI,hI,iI,jI,kI,lI,mI,nI,oI,pI,qI,rI,sI,tI,uI,vI,wI,xI,yI,zI,aJ,bJ,cJ,dJ,eJ,fJ,gJ,hJ,iJ,jJ,kJ] H ((K6_8 k nrrrrrrrrrrlrl) .normal) = J6_2 k nxrrrrrrrrrrlrl x0 x1 x2 x9 lA pA tA yA wH aI H := by
  refine Eq.trans (b :=
    (pPick wH (.bool true) aI).bind fun y209 =>
    condG y209 false
    (
      bindM (convBS tA H) H fun y213 H_1 =>
      (binS .neq yA y213).bind fun y214 =>
      grpK Tryz.prog (run Tryz.prog k) (ropsC C6rrrrrrrrrrlrllrllrrrrrrrrl) ((grps (ropsC C6rrrrrrrrrrlrllrllrrrrrrrrl).toList).drop 8) #[x0,x1,x2,x3,x4,x5,x6,x7,x8,x9,kA,lA,mA,nA,oA,pA,qA,rA,sA,tA,uA,vA,wA,xA,yA,zA,aB,bB,cB,dB,eB,fB,gB,hB,iB,jB,kB,lB,mB,nB,oB,pB,qB,rB,sB,tB,uB,vB,wB,xB,yB,zB,aC,bC,cC,dC,eC,fC,gC,hC,iC,jC,kC,lC,mC,nC,oC,pC,qC,rC,sC,tC,uC,vC,wC,xC,yC,zC,aD,bD,cD,dD,eD,fD,gD,hD,iD,jD,kD,lD,mD,nD,oD,pD,qD,rD,sD,tD,uD,vD,wD,xD,yD,zD,aE,bE,cE,dE,eE,fE,gE,hE,iE,jE,kE,lE,mE,nE,oE,pE,qE,rE,sE,tE,uE,vE,wE,xE,yE,zE,aF,bF,cF,dF,eF,fF,gF,hF,iF,jF,kF,lF,mF,nF,oF,pF,qF,rF,sF,tF,uF,vF,wF,xF,yF,zF,aG,bG,cG,dG,eG,fG,gG,hG,iG,jG,kG,lG,mG,nG,oG,pG,qG,rG,sG,tG,uG,vG,wG,xG,yG,zG,aH,bH,cH,dH,eH,fH,gH,hH,iH,jH,kH,lH,mH,nH,oH,pH,qH,rH,sH,tH,uH,vH,wH,xH,yH,zH,aI,y209,y209,yA,tA,y213,y214,hI,iI,jI,kI,lI,mI,nI,oI,pI,qI,rI,sI,tI,uI,vI,wI,xI,yI,zI,aJ,bJ,cJ,dJ,eJ,fJ,gJ,hJ,iJ,jJ,kJ] H_1 ((K6_8 k nrrrrrrrrrrlrl) .normal))
    (
      grpK Tryz.prog (run Tryz.prog k) (ropsC C6rrrrrrrrrrlrllrllrrrrrrrrl) ((grps (ropsC C6rrrrrrrrrrlrllrllrrrrrrrrl).toList).drop 8) #[x0,x1,x2,x3,x4,x5,x6,x7,x8,x9,kA,lA,mA,nA,oA,pA,qA,rA,sA,tA,uA,vA,wA,xA,yA,zA,aB,bB,cB,dB,eB,fB,gB,hB,iB,jB,kB,lB,mB,nB,oB,pB,qB,rB,sB,tB,uB,vB,wB,xB,yB,zB,aC,bC,cC,dC,eC,fC,gC,hC,iC,jC,kC,lC,mC,nC,oC,pC,qC,rC,sC,tC,uC,vC,wC,xC,yC,zC,aD,bD,cD,dD,eD,fD,gD,hD,iD,jD,kD,lD,mD,nD,oD,pD,qD,rD,sD,tD,uD,vD,wD,xD,yD,zD,aE,bE,cE,dE,eE,fE,gE,hE,iE,jE,kE,lE,mE,nE,oE,pE,qE,rE,sE,tE,uE,vE,wE,xE,yE,zE,aF,bF,cF,dF,eF,fF,gF,hF,iF,jF,kF,lF,mF,nF,oF,pF,qF,rF,sF,tF,uF,vF,wF,xF,yF,zF,aG,bG,cG,dG,eG,fG,gG,hG,iG,jG,kG,lG,mG,nG,oG,pG,qG,rG,sG,tG,uG,vG,wG,xG,yG,zG,aH,bH,cH,dH,eH,fH,gH,hH,iH,jH,kH,lH,mH,nH,oH,pH,qH,rH,sH,tH,uH,vH,wH,xH,yH,zH,aI,y209,y209,undef,undef,undef,undef,hI,iI,jI,kI,lI,mI,nI,oI,pI,qI,rI,sI,tI,uI,vI,wI,xI,yI,zI,aJ,bJ,cJ,dJ,eJ,fJ,gJ,hJ,iJ,jJ,kJ] H ((K6_8 k nrrrrrrrrrrlrl) .normal))) (by kernel_rfl) ?_
  simp only [TJ6_1 k nrrrrrrrrrrlrl nxrrrrrrrrrrlrl hrrrrrrrrrrlrl]
  rfl
set_option maxRecDepth 100000 in
theorem TJ6_3 (k : Nat) (nrrrrrrrrrrlrl : Nat) (nxrrrrrrrrrrlrl : Value → Value → Value → Value → Value → Value → Heap → Option (Value × Heap)) (hrrrrrrrrrrlrl : ∀ (x0 x1 x2 x3 x4 x5 x6 x7 x8 x9 kA lA mA nA oA pA qA rA sA tA uA vA wA xA yA zA aB bB cB dB eB fB gB hB iB jB kB lB mB nB oB pB qB rB sB tB uB vB wB xB yB zB aC bC cC dC eC fC gC hC iC jC kC lC mC nC oC pC qC rC sC tC uC vC wC xC yC zC aD bD cD dD eD fD gD hD iD jD kD lD mD nD oD pD qD rD sD tD uD vD wD xD yD zD aE bE cE dE eE fE gE hE iE jE kE lE mE nE oE pE qE rE sE tE uE vE wE xE yE zE aF bF cF dF eF fF gF hF iF jF kF lF mF nF oF pF qF rF sF tF uF vF wF xF yF zF aG bG cG dG eG fG gG hG iG jG kG lG mG nG oG pG qG rG sG tG uG vG wG xG yG zG aH bH cH dH eH fH gH hH iH jH kH lH mH nH oH pH qH rH sH tH uH vH wH xH yH zH aI bI cI dI eI fI gI hI iI jI kI lI mI nI oI pI qI rI sI tI uI vI wI xI yI zI aJ bJ cJ dJ eJ fJ gJ hJ iJ jJ kJ : Value) (H : Heap), iterK (denK Tryz.prog (run Tryz.prog k) k C6rrrrrrrrrrlrll) (K6_4 k) nrrrrrrrrrrlrl #[x0,x1,x2,x3,x4,x5,x6,x7,x8,x9,kA,lA,mA,nA,oA,pA,qA,rA,sA,tA,uA,vA,wA,xA,yA,zA,aB,bB,cB,dB,eB,fB,gB,hB,iB,jB,kB,lB,mB,nB,oB,pB,qB,rB,sB,tB,uB,vB,wB,xB,yB,zB,aC,bC,cC,dC,eC,fC,gC,hC,iC,jC,kC,lC,mC,nC,oC,pC,qC,rC,sC,tC,uC,vC,wC,xC,yC,zC,aD,bD,cD,dD,eD,fD,gD,hD,iD,jD,kD,lD,mD,nD,oD,pD,qD,rD,sD,tD,uD,vD,wD,xD,yD,zD,aE,bE,cE,dE,eE,fE,gE,hE,iE,jE,kE,lE,mE,nE,oE,pE,qE,rE,sE,tE,uE,vE,wE,xE,yE,zE,aF,bF,cF,dF,eF,fF,gF,hF,iF,jF,kF,lF,mF,nF,oF,pF,qF,rF,sF,tF,uF,vF,wF,xF,yF,zF,aG,bG,cG,dG,eG,fG,gG,hG,iG,jG,kG,lG,mG,nG,oG,pG,qG,rG,sG,tG,uG,vG,wG,xG,yG,zG,aH,bH,cH,dH,eH,fH,gH,hH,iH,jH,kH,lH,mH,nH,oH,pH,qH,rH,sH,tH,uH,vH,wH,xH,yH,zH,aI,bI,cI,dI,eI,fI,gI,hI,iI,jI,kI,lI,mI,nI,oI,pI,qI,rI,sI,tI,uI,vI,wI,xI,yI,zI,aJ,bJ,cJ,dJ,eJ,fJ,gJ,hJ,iJ,jJ,kJ] H = nxrrrrrrrrrrlrl x0 x1 x2 x9 lA pA H) (x0 x1 x2 x3 x4 x5 x6 x7 x8 x9 kA lA mA nA oA pA qA rA sA tA uA vA wA xA yA zA aB bB cB dB eB fB gB hB iB jB kB lB mB nB oB pB qB rB sB tB uB vB wB xB yB zB aC bC cC dC eC fC gC hC iC jC kC lC mC nC oC pC qC rC sC tC uC vC wC xC yC zC aD bD cD dD eD fD gD hD iD jD kD lD mD nD oD pD qD rD sD tD uD vD wD xD yD zD aE bE cE dE eE fE gE hE iE jE kE lE mE nE oE pE qE rE sE tE uE vE wE xE yE zE aF bF cF dF eF fF gF hF iF jF kF lF mF nF oF pF qF rF sF tF uF vF wF xF yF zF aG bG cG dG eG fG gG hG iG jG kG lG mG nG oG pG qG rG sG tG uG vG wG xG yG zG aH bH cH dH eH fH gH hH iH jH kH lH mH nH oH pH qH rH sH tH uH vH wH xH yH zH aI bI cI dI eI fI gI hI iI jI kI lI mI nI oI pI qI rI sI tI uI vI wI xI yI zI aJ bJ cJ dJ eJ fJ gJ hJ iJ jJ kJ : Value) (H : Heap) : grpK Tryz.prog (run Tryz.prog k) (ropsC C6rrrrrrrrrrlrllrllrrrrrrrrl) ((grps (ropsC C6rrrrrrrrrrlrllrllrrrrrrrrl).toList).drop 4) #[x0,x1,x2,x3,x4,x5,x6,x7,x8,x9,kA,lA,mA,nA,oA,pA,qA,rA,sA,tA,uA,vA,wA,xA,yA,zA,aB,bB,cB,dB,eB,fB,gB,hB,iB,jB,kB,lB,mB,nB,oB,pB,qB,rB,sB,tB,uB,vB,wB,xB,yB,zB,aC,bC,cC,dC,eC,fC,gC,hC,iC,jC,kC,lC,mC,nC,oC,pC,qC,rC,sC,tC,uC,vC,wC,xC,yC,zC,aD,bD,cD,dD,eD,fD,gD,hD,iD,jD,kD,lD,mD,nD,oD,pD,qD,rD,sD,tD,uD,vD,wD,xD,yD,zD,aE,bE,cE,dE,eE,fE,gE,hE,iE,jE,kE,lE,mE,nE,oE,pE,qE,rE,sE,tE,uE,vE,wE,xE,yE,zE,aF,bF,cF,dF,eF,fF,gF,hF,iF,jF,kF,lF,mF,nF,oF,pF,qF,rF,sF,tF,uF,vF,wF,xF,yF,zF,aG,bG,cG,dG,eG,fG,gG,hG,iG,jG,kG,lG,mG,nG,oG,pG,qG,rG,sG,tG,uG,vG,wG,xG,yG,zG,aH,bH,cH,dH,eH,fH,gH,hH,iH,jH,kH,lH,mH,nH,oH,pH,qH,rH,sH,tH,uH,vH,wH,xH,yH,zH,aI,bI,cI,dI,eI,fI,gI,hI,iI,jI,kI,lI,mI,nI,oI,pI,qI,rI,sI,tI,uI,vI,wI,xI,yI,zI,aJ,bJ,cJ,dJ,eJ,fJ,gJ,hJ,iJ,jJ,kJ] H ((K6_8 k nrrrrrrrrrrlrl) .normal) = J6_3 k nxrrrrrrrrrrlrl x0 x1 x2 x9 lA pA tA vA yA sH uH H := by
  refine Eq.trans (b :=
    (pPick sH (.bool true) uH).bind fun y203 =>
    condG y203 false
    (
      bindM (convBS tA H) H fun y207 H_1 =>
      (binS .neq vA y207).bind fun y208 =>
      grpK Tryz.prog (run Tryz.prog k) (ropsC C6rrrrrrrrrrlrllrllrrrrrrrrl) ((grps (ropsC C6rrrrrrrrrrlrllrllrrrrrrrrl).toList).drop 6) #[x0,x1,x2,x3,x4,x5,x6,x7,x8,x9,kA,lA,mA,nA,oA,pA,qA,rA,sA,tA,uA,vA,wA,xA,yA,zA,aB,bB,cB,dB,eB,fB,gB,hB,iB,jB,kB,lB,mB,nB,oB,pB,qB,rB,sB,tB,uB,vB,wB,xB,yB,zB,aC,bC,cC,dC,eC,fC,gC,hC,iC,jC,kC,lC,mC,nC,oC,pC,qC,rC,sC,tC,uC,vC,wC,xC,yC,zC,aD,bD,cD,dD,eD,fD,gD,hD,iD,jD,kD,lD,mD,nD,oD,pD,qD,rD,sD,tD,uD,vD,wD,xD,yD,zD,aE,bE,cE,dE,eE,fE,gE,hE,iE,jE,kE,lE,mE,nE,oE,pE,qE,rE,sE,tE,uE,vE,wE,xE,yE,zE,aF,bF,cF,dF,eF,fF,gF,hF,iF,jF,kF,lF,mF,nF,oF,pF,qF,rF,sF,tF,uF,vF,wF,xF,yF,zF,aG,bG,cG,dG,eG,fG,gG,hG,iG,jG,kG,lG,mG,nG,oG,pG,qG,rG,sG,tG,uG,vG,wG,xG,yG,zG,aH,bH,cH,dH,eH,fH,gH,hH,iH,jH,kH,lH,mH,nH,oH,pH,qH,rH,sH,tH,uH,y203,y203,vA,tA,y207,y208,bI,cI,dI,eI,fI,gI,hI,iI,jI,kI,lI,mI,nI,oI,pI,qI,rI,sI,tI,uI,vI,wI,xI,yI,zI,aJ,bJ,cJ,dJ,eJ,fJ,gJ,hJ,iJ,jJ,kJ] H_1 ((K6_8 k nrrrrrrrrrrlrl) .normal))
    (
      grpK Tryz.prog (run Tryz.prog k) (ropsC C6rrrrrrrrrrlrllrllrrrrrrrrl) ((grps (ropsC C6rrrrrrrrrrlrllrllrrrrrrrrl).toList).drop 6) #[x0,x1,x2,x3,x4,x5,x6,x7,x8,x9,kA,lA,mA,nA,oA,pA,qA,rA,sA,tA,uA,vA,wA,xA,yA,zA,aB,bB,cB,dB,eB,fB,gB,hB,iB,jB,kB,lB,mB,nB,oB,pB,qB,rB,sB,tB,uB,vB,wB,xB,yB,zB,aC,bC,cC,dC,eC,fC,gC,hC,iC,jC,kC,lC,mC,nC,oC,pC,qC,rC,sC,tC,uC,vC,wC,xC,yC,zC,aD,bD,cD,dD,eD,fD,gD,hD,iD,jD,kD,lD,mD,nD,oD,pD,qD,rD,sD,tD,uD,vD,wD,xD,yD,zD,aE,bE,cE,dE,eE,fE,gE,hE,iE,jE,kE,lE,mE,nE,oE,pE,qE,rE,sE,tE,uE,vE,wE,xE,yE,zE,aF,bF,cF,dF,eF,fF,gF,hF,iF,jF,kF,lF,mF,nF,oF,pF,qF,rF,sF,tF,uF,vF,wF,xF,yF,zF,aG,bG,cG,dG,eG,fG,gG,hG,iG,jG,kG,lG,mG,nG,oG,pG,qG,rG,sG,tG,uG,vG,wG,xG,yG,zG,aH,bH,cH,dH,eH,fH,gH,hH,iH,jH,kH,lH,mH,nH,oH,pH,qH,rH,sH,tH,uH,y203,y203,undef,undef,undef,undef,bI,cI,dI,eI,fI,gI,hI,iI,jI,kI,lI,mI,nI,oI,pI,qI,rI,sI,tI,uI,vI,wI,xI,yI,zI,aJ,bJ,cJ,dJ,eJ,fJ,gJ,hJ,iJ,jJ,kJ] H ((K6_8 k nrrrrrrrrrrlrl) .normal))) (by kernel_rfl) ?_
  simp only [TJ6_2 k nrrrrrrrrrrlrl nxrrrrrrrrrrlrl hrrrrrrrrrrlrl]
  rfl
set_option maxRecDepth 100000 in
theorem TJ6_4 (k : Nat) (nrrrrrrrrrrlrl : Nat) (nxrrrrrrrrrrlrl : Value → Value → Value → Value → Value → Value → Heap → Option (Value × Heap)) (hrrrrrrrrrrlrl : ∀ (x0 x1 x2 x3 x4 x5 x6 x7 x8 x9 kA lA mA nA oA pA qA rA sA tA uA vA wA xA yA zA aB bB cB dB eB fB gB hB iB jB kB lB mB nB oB pB qB rB sB tB uB vB wB xB yB zB aC bC cC dC eC fC gC hC iC jC kC lC mC nC oC pC qC rC sC tC uC vC wC xC yC zC aD bD cD dD eD fD gD hD iD jD kD lD mD nD oD pD qD rD sD tD uD vD wD xD yD zD aE bE cE dE eE fE gE hE iE jE kE lE mE nE oE pE qE rE sE tE uE vE wE xE yE zE aF bF cF dF eF fF gF hF iF jF kF lF mF nF oF pF qF rF sF tF uF vF wF xF yF zF aG bG cG dG eG fG gG hG iG jG kG lG mG nG oG pG qG rG sG tG uG vG wG xG yG zG aH bH cH dH eH fH gH hH iH jH kH lH mH nH oH pH qH rH sH tH uH vH wH xH yH zH aI bI cI dI eI fI gI hI iI jI kI lI mI nI oI pI qI rI sI tI uI vI wI xI yI zI aJ bJ cJ dJ eJ fJ gJ hJ iJ jJ kJ : Value) (H : Heap), iterK (denK Tryz.prog (run Tryz.prog k) k C6rrrrrrrrrrlrll) (K6_4 k) nrrrrrrrrrrlrl #[x0,x1,x2,x3,x4,x5,x6,x7,x8,x9,kA,lA,mA,nA,oA,pA,qA,rA,sA,tA,uA,vA,wA,xA,yA,zA,aB,bB,cB,dB,eB,fB,gB,hB,iB,jB,kB,lB,mB,nB,oB,pB,qB,rB,sB,tB,uB,vB,wB,xB,yB,zB,aC,bC,cC,dC,eC,fC,gC,hC,iC,jC,kC,lC,mC,nC,oC,pC,qC,rC,sC,tC,uC,vC,wC,xC,yC,zC,aD,bD,cD,dD,eD,fD,gD,hD,iD,jD,kD,lD,mD,nD,oD,pD,qD,rD,sD,tD,uD,vD,wD,xD,yD,zD,aE,bE,cE,dE,eE,fE,gE,hE,iE,jE,kE,lE,mE,nE,oE,pE,qE,rE,sE,tE,uE,vE,wE,xE,yE,zE,aF,bF,cF,dF,eF,fF,gF,hF,iF,jF,kF,lF,mF,nF,oF,pF,qF,rF,sF,tF,uF,vF,wF,xF,yF,zF,aG,bG,cG,dG,eG,fG,gG,hG,iG,jG,kG,lG,mG,nG,oG,pG,qG,rG,sG,tG,uG,vG,wG,xG,yG,zG,aH,bH,cH,dH,eH,fH,gH,hH,iH,jH,kH,lH,mH,nH,oH,pH,qH,rH,sH,tH,uH,vH,wH,xH,yH,zH,aI,bI,cI,dI,eI,fI,gI,hI,iI,jI,kI,lI,mI,nI,oI,pI,qI,rI,sI,tI,uI,vI,wI,xI,yI,zI,aJ,bJ,cJ,dJ,eJ,fJ,gJ,hJ,iJ,jJ,kJ] H = nxrrrrrrrrrrlrl x0 x1 x2 x9 lA pA H) (x0 x1 x2 x3 x4 x5 x6 x7 x8 x9 kA lA mA nA oA pA qA rA sA tA uA vA wA xA yA zA aB bB cB dB eB fB gB hB iB jB kB lB mB nB oB pB qB rB sB tB uB vB wB xB yB zB aC bC cC dC eC fC gC hC iC jC kC lC mC nC oC pC qC rC sC tC uC vC wC xC yC zC aD bD cD dD eD fD gD hD iD jD kD lD mD nD oD pD qD rD sD tD uD vD wD xD yD zD aE bE cE dE eE fE gE hE iE jE kE lE mE nE oE pE qE rE sE tE uE vE wE xE yE zE aF bF cF dF eF fF gF hF iF jF kF lF mF nF oF pF qF rF sF tF uF vF wF xF yF zF aG bG cG dG eG fG gG hG iG jG kG lG mG nG oG pG qG rG sG tG uG vG wG xG yG zG aH bH cH dH eH fH gH hH iH jH kH lH mH nH oH pH qH rH sH tH uH vH wH xH yH zH aI bI cI dI eI fI gI hI iI jI kI lI mI nI oI pI qI rI sI tI uI vI wI xI yI zI aJ bJ cJ dJ eJ fJ gJ hJ iJ jJ kJ : Value) (H : Heap) : grpK Tryz.prog (run Tryz.prog k) (ropsC C6rrrrrrrrrrlrllrllrrrrrrrrl) ((grps (ropsC C6rrrrrrrrrrlrllrllrrrrrrrrl).toList).drop 2) #[x0,x1,x2,x3,x4,x5,x6,x7,x8,x9,kA,lA,mA,nA,oA,pA,qA,rA,sA,tA,uA,vA,wA,xA,yA,zA,aB,bB,cB,dB,eB,fB,gB,hB,iB,jB,kB,lB,mB,nB,oB,pB,qB,rB,sB,tB,uB,vB,wB,xB,yB,zB,aC,bC,cC,dC,eC,fC,gC,hC,iC,jC,kC,lC,mC,nC,oC,pC,qC,rC,sC,tC,uC,vC,wC,xC,yC,zC,aD,bD,cD,dD,eD,fD,gD,hD,iD,jD,kD,lD,mD,nD,oD,pD,qD,rD,sD,tD,uD,vD,wD,xD,yD,zD,aE,bE,cE,dE,eE,fE,gE,hE,iE,jE,kE,lE,mE,nE,oE,pE,qE,rE,sE,tE,uE,vE,wE,xE,yE,zE,aF,bF,cF,dF,eF,fF,gF,hF,iF,jF,kF,lF,mF,nF,oF,pF,qF,rF,sF,tF,uF,vF,wF,xF,yF,zF,aG,bG,cG,dG,eG,fG,gG,hG,iG,jG,kG,lG,mG,nG,oG,pG,qG,rG,sG,tG,uG,vG,wG,xG,yG,zG,aH,bH,cH,dH,eH,fH,gH,hH,iH,jH,kH,lH,mH,nH,oH,pH,qH,rH,sH,tH,uH,vH,wH,xH,yH,zH,aI,bI,cI,dI,eI,fI,gI,hI,iI,jI,kI,lI,mI,nI,oI,pI,qI,rI,sI,tI,uI,vI,wI,xI,yI,zI,aJ,bJ,cJ,dJ,eJ,fJ,gJ,hJ,iJ,jJ,kJ] H ((K6_8 k nrrrrrrrrrrlrl) .normal) = J6_4 k nxrrrrrrrrrrlrl x0 x1 x2 x9 lA pA tA vA yA zA oH qH H := by
  refine Eq.trans (b :=
    (pPick oH (.bool true) qH).bind fun y199 =>
    condG y199 false
    (
      (binI .neq zA (.int .i64 0)).bind fun y202 =>
      grpK Tryz.prog (run Tryz.prog k) (ropsC C6rrrrrrrrrrlrllrllrrrrrrrrl) ((grps (ropsC C6rrrrrrrrrrlrllrllrrrrrrrrl).toList).drop 4) #[x0,x1,x2,x3,x4,x5,x6,x7,x8,x9,kA,lA,mA,nA,oA,pA,qA,rA,sA,tA,uA,vA,wA,xA,yA,zA,aB,bB,cB,dB,eB,fB,gB,hB,iB,jB,kB,lB,mB,nB,oB,pB,qB,rB,sB,tB,uB,vB,wB,xB,yB,zB,aC,bC,cC,dC,eC,fC,gC,hC,iC,jC,kC,lC,mC,nC,oC,pC,qC,rC,sC,tC,uC,vC,wC,xC,yC,zC,aD,bD,cD,dD,eD,fD,gD,hD,iD,jD,kD,lD,mD,nD,oD,pD,qD,rD,sD,tD,uD,vD,wD,xD,yD,zD,aE,bE,cE,dE,eE,fE,gE,hE,iE,jE,kE,lE,mE,nE,oE,pE,qE,rE,sE,tE,uE,vE,wE,xE,yE,zE,aF,bF,cF,dF,eF,fF,gF,hF,iF,jF,kF,lF,mF,nF,oF,pF,qF,rF,sF,tF,uF,vF,wF,xF,yF,zF,aG,bG,cG,dG,eG,fG,gG,hG,iG,jG,kG,lG,mG,nG,oG,pG,qG,rG,sG,tG,uG,vG,wG,xG,yG,zG,aH,bH,cH,dH,eH,fH,gH,hH,iH,jH,kH,lH,mH,nH,oH,pH,qH,y199,y199,zA,y202,vH,wH,xH,yH,zH,aI,bI,cI,dI,eI,fI,gI,hI,iI,jI,kI,lI,mI,nI,oI,pI,qI,rI,sI,tI,uI,vI,wI,xI,yI,zI,aJ,bJ,cJ,dJ,eJ,fJ,gJ,hJ,iJ,jJ,kJ] H ((K6_8 k nrrrrrrrrrrlrl) .normal))
    (
      grpK Tryz.prog (run Tryz.prog k) (ropsC C6rrrrrrrrrrlrllrllrrrrrrrrl) ((grps (ropsC C6rrrrrrrrrrlrllrllrrrrrrrrl).toList).drop 4) #[x0,x1,x2,x3,x4,x5,x6,x7,x8,x9,kA,lA,mA,nA,oA,pA,qA,rA,sA,tA,uA,vA,wA,xA,yA,zA,aB,bB,cB,dB,eB,fB,gB,hB,iB,jB,kB,lB,mB,nB,oB,pB,qB,rB,sB,tB,uB,vB,wB,xB,yB,zB,aC,bC,cC,dC,eC,fC,gC,hC,iC,jC,kC,lC,mC,nC,oC,pC,qC,rC,sC,tC,uC,vC,wC,xC,yC,zC,aD,bD,cD,dD,eD,fD,gD,hD,iD,jD,kD,lD,mD,nD,oD,pD,qD,rD,sD,tD,uD,vD,wD,xD,yD,zD,aE,bE,cE,dE,eE,fE,gE,hE,iE,jE,kE,lE,mE,nE,oE,pE,qE,rE,sE,tE,uE,vE,wE,xE,yE,zE,aF,bF,cF,dF,eF,fF,gF,hF,iF,jF,kF,lF,mF,nF,oF,pF,qF,rF,sF,tF,uF,vF,wF,xF,yF,zF,aG,bG,cG,dG,eG,fG,gG,hG,iG,jG,kG,lG,mG,nG,oG,pG,qG,rG,sG,tG,uG,vG,wG,xG,yG,zG,aH,bH,cH,dH,eH,fH,gH,hH,iH,jH,kH,lH,mH,nH,oH,pH,qH,y199,y199,undef,undef,vH,wH,xH,yH,zH,aI,bI,cI,dI,eI,fI,gI,hI,iI,jI,kI,lI,mI,nI,oI,pI,qI,rI,sI,tI,uI,vI,wI,xI,yI,zI,aJ,bJ,cJ,dJ,eJ,fJ,gJ,hJ,iJ,jJ,kJ] H ((K6_8 k nrrrrrrrrrrlrl) .normal))) (by kernel_rfl) ?_
  simp only [TJ6_3 k nrrrrrrrrrrlrl nxrrrrrrrrrrlrl hrrrrrrrrrrlrl]
  rfl
set_option maxRecDepth 100000 in
theorem TJ6_5 (k : Nat) (nrrrrrrrrrrlrl : Nat) (nxrrrrrrrrrrlrl : Value → Value → Value → Value → Value → Value → Heap → Option (Value × Heap)) (hrrrrrrrrrrlrl : ∀ (x0 x1 x2 x3 x4 x5 x6 x7 x8 x9 kA lA mA nA oA pA qA rA sA tA uA vA wA xA yA zA aB bB cB dB eB fB gB hB iB jB kB lB mB nB oB pB qB rB sB tB uB vB wB xB yB zB aC bC cC dC eC fC gC hC iC jC kC lC mC nC oC pC qC rC sC tC uC vC wC xC yC zC aD bD cD dD eD fD gD hD iD jD kD lD mD nD oD pD qD rD sD tD uD vD wD xD yD zD aE bE cE dE eE fE gE hE iE jE kE lE mE nE oE pE qE rE sE tE uE vE wE xE yE zE aF bF cF dF eF fF gF hF iF jF kF lF mF nF oF pF qF rF sF tF uF vF wF xF yF zF aG bG cG dG eG fG gG hG iG jG kG lG mG nG oG pG qG rG sG tG uG vG wG xG yG zG aH bH cH dH eH fH gH hH iH jH kH lH mH nH oH pH qH rH sH tH uH vH wH xH yH zH aI bI cI dI eI fI gI hI iI jI kI lI mI nI oI pI qI rI sI tI uI vI wI xI yI zI aJ bJ cJ dJ eJ fJ gJ hJ iJ jJ kJ : Value) (H : Heap), iterK (denK Tryz.prog (run Tryz.prog k) k C6rrrrrrrrrrlrll) (K6_4 k) nrrrrrrrrrrlrl #[x0,x1,x2,x3,x4,x5,x6,x7,x8,x9,kA,lA,mA,nA,oA,pA,qA,rA,sA,tA,uA,vA,wA,xA,yA,zA,aB,bB,cB,dB,eB,fB,gB,hB,iB,jB,kB,lB,mB,nB,oB,pB,qB,rB,sB,tB,uB,vB,wB,xB,yB,zB,aC,bC,cC,dC,eC,fC,gC,hC,iC,jC,kC,lC,mC,nC,oC,pC,qC,rC,sC,tC,uC,vC,wC,xC,yC,zC,aD,bD,cD,dD,eD,fD,gD,hD,iD,jD,kD,lD,mD,nD,oD,pD,qD,rD,sD,tD,uD,vD,wD,xD,yD,zD,aE,bE,cE,dE,eE,fE,gE,hE,iE,jE,kE,lE,mE,nE,oE,pE,qE,rE,sE,tE,uE,vE,wE,xE,yE,zE,aF,bF,cF,dF,eF,fF,gF,hF,iF,jF,kF,lF,mF,nF,oF,pF,qF,rF,sF,tF,uF,vF,wF,xF,yF,zF,aG,bG,cG,dG,eG,fG,gG,hG,iG,jG,kG,lG,mG,nG,oG,pG,qG,rG,sG,tG,uG,vG,wG,xG,yG,zG,aH,bH,cH,dH,eH,fH,gH,hH,iH,jH,kH,lH,mH,nH,oH,pH,qH,rH,sH,tH,uH,vH,wH,xH,yH,zH,aI,bI,cI,dI,eI,fI,gI,hI,iI,jI,kI,lI,mI,nI,oI,pI,qI,rI,sI,tI,uI,vI,wI,xI,yI,zI,aJ,bJ,cJ,dJ,eJ,fJ,gJ,hJ,iJ,jJ,kJ] H = nxrrrrrrrrrrlrl x0 x1 x2 x9 lA pA H) (nrrrrrrrrrrlrllrllrrrrlrl : Nat) (nxrrrrrrrrrrlrllrllrrrrlrl : Value → Value → Value → Value → Value → Value → Value → Value → Value → Value → Value → Heap → Option (Value × Heap)) (hrrrrrrrrrrlrllrllrrrrlrl : ∀ (x0 x1 x2 x3 x4 x5 x6 x7 x8 x9 kA lA mA nA oA pA qA rA sA tA uA vA wA xA yA zA aB bB cB dB eB fB gB hB iB jB kB lB mB nB oB pB qB rB sB tB uB vB wB xB yB zB aC bC cC dC eC fC gC hC iC jC kC lC mC nC oC pC qC rC sC tC uC vC wC xC yC zC aD bD cD dD eD fD gD hD iD jD kD lD mD nD oD pD qD rD sD tD uD vD wD xD yD zD aE bE cE dE eE fE gE hE iE jE kE lE mE nE oE pE qE rE sE tE uE vE wE xE yE zE aF bF cF dF eF fF gF hF iF jF kF lF mF nF oF pF qF rF sF tF uF vF wF xF yF zF aG bG cG dG eG fG gG hG iG jG kG lG mG nG oG pG qG rG sG tG uG vG wG xG yG zG aH bH cH dH eH fH gH hH iH jH kH lH mH nH oH pH qH rH sH tH uH vH wH xH yH zH aI bI cI dI eI fI gI hI iI jI kI lI mI nI oI pI qI rI sI tI uI vI wI xI yI zI aJ bJ cJ dJ eJ fJ gJ hJ iJ jJ kJ : Value) (H : Heap), iterK (denK Tryz.prog (run Tryz.prog k) k C6rrrrrrrrrrlrllrllrrrrlrll) (K6_10 k nrrrrrrrrrrlrl) nrrrrrrrrrrlrllrllrrrrlrl #[x0,x1,x2,x3,x4,x5,x6,x7,x8,x9,kA,lA,mA,nA,oA,pA,qA,rA,sA,tA,uA,vA,wA,xA,yA,zA,aB,bB,cB,dB,eB,fB,gB,hB,iB,jB,kB,lB,mB,nB,oB,pB,qB,rB,sB,tB,uB,vB,wB,xB,yB,zB,aC,bC,cC,dC,eC,fC,gC,hC,iC,jC,kC,lC,mC,nC,oC,pC,qC,rC,sC,tC,uC,vC,wC,xC,yC,zC,aD,bD,cD,dD,eD,fD,gD,hD,iD,jD,kD,lD,mD,nD,oD,pD,qD,rD,sD,tD,uD,vD,wD,xD,yD,zD,aE,bE,cE,dE,eE,fE,gE,hE,iE,jE,kE,lE,mE,nE,oE,pE,qE,rE,sE,tE,uE,vE,wE,xE,yE,zE,aF,bF,cF,dF,eF,fF,gF,hF,iF,jF,kF,lF,mF,nF,oF,pF,qF,rF,sF,tF,uF,vF,wF,xF,yF,zF,aG,bG,cG,dG,eG,fG,gG,hG,iG,jG,kG,lG,mG,nG,oG,pG,qG,rG,sG,tG,uG,vG,wG,xG,yG,zG,aH,bH,cH,dH,eH,fH,gH,hH,iH,jH,kH,lH,mH,nH,oH,pH,qH,rH,sH,tH,uH,vH,wH,xH,yH,zH,aI,bI,cI,dI,eI,fI,gI,hI,iI,jI,kI,lI,mI,nI,oI,pI,qI,rI,sI,tI,uI,vI,wI,xI,yI,zI,aJ,bJ,cJ,dJ,eJ,fJ,gJ,hJ,iJ,jJ,kJ] H = nxrrrrrrrrrrlrllrllrrrrlrl x0 x1 x2 x9 lA pA qA rA sA tA uA H) (x0 x1 x2 x3 x4 x5 x6 x7 x8 x9 kA lA mA nA oA pA qA rA sA tA uA vA wA xA yA zA aB bB cB dB eB fB gB hB iB jB kB lB mB nB oB pB qB rB sB tB uB vB wB xB yB zB aC bC cC dC eC fC gC hC iC jC kC lC mC nC oC pC qC rC sC tC uC vC wC xC yC zC aD bD cD dD eD fD gD hD iD jD kD lD mD nD oD pD qD rD sD tD uD vD wD xD yD zD aE bE cE dE eE fE gE hE iE jE kE lE mE nE oE pE qE rE sE tE uE vE wE xE yE zE aF bF cF dF eF fF gF hF iF jF kF lF mF nF oF pF qF rF sF tF uF vF wF xF yF zF aG bG cG dG eG fG gG hG iG jG kG lG mG nG oG pG qG rG sG tG uG vG wG xG yG zG aH bH cH dH eH fH gH hH iH jH kH lH mH nH oH pH qH rH sH tH uH vH wH xH yH zH aI bI cI dI eI fI gI hI iI jI kI lI mI nI oI pI qI rI sI tI uI vI wI xI yI zI aJ bJ cJ dJ eJ fJ gJ hJ iJ jJ kJ : Value) (H : Heap) : grpK Tryz.prog (run Tryz.prog k) (ropsC C6rrrrrrrrrrlrllrllrrrrlrllll) ((grps (ropsC C6rrrrrrrrrrlrllrllrrrrlrllll).toList).drop 4) #[x0,x1,x2,x3,x4,x5,x6,x7,x8,x9,kA,lA,mA,nA,oA,pA,qA,rA,sA,tA,uA,vA,wA,xA,yA,zA,aB,bB,cB,dB,eB,fB,gB,hB,iB,jB,kB,lB,mB,nB,oB,pB,qB,rB,sB,tB,uB,vB,wB,xB,yB,zB,aC,bC,cC,dC,eC,fC,gC,hC,iC,jC,kC,lC,mC,nC,oC,pC,qC,rC,sC,tC,uC,vC,wC,xC,yC,zC,aD,bD,cD,dD,eD,fD,gD,hD,iD,jD,kD,lD,mD,nD,oD,pD,qD,rD,sD,tD,uD,vD,wD,xD,yD,zD,aE,bE,cE,dE,eE,fE,gE,hE,iE,jE,kE,lE,mE,nE,oE,pE,qE,rE,sE,tE,uE,vE,wE,xE,yE,zE,aF,bF,cF,dF,eF,fF,gF,hF,iF,jF,kF,lF,mF,nF,oF,pF,qF,rF,sF,tF,uF,vF,wF,xF,yF,zF,aG,bG,cG,dG,eG,fG,gG,hG,iG,jG,kG,lG,mG,nG,oG,pG,qG,rG,sG,tG,uG,vG,wG,xG,yG,zG,aH,bH,cH,dH,eH,fH,gH,hH,iH,jH,kH,lH,mH,nH,oH,pH,qH,rH,sH,tH,uH,vH,wH,xH,yH,zH,aI,bI,cI,dI,eI,fI,gI,hI,iI,jI,kI,lI,mI,nI,oI,pI,qI,rI,sI,tI,uI,vI,wI,xI,yI,zI,aJ,bJ,cJ,dJ,eJ,fJ,gJ,hJ,iJ,jJ,kJ] H ((K6_13 k nrrrrrrrrrrlrl nrrrrrrrrrrlrllrllrrrrlrl) .normal) = J6_5 k nxrrrrrrrrrrlrl nxrrrrrrrrrrlrllrllrrrrlrl x0 x1 x2 x9 lA pA qA rA sA tA uA yF fG H := by
  refine Eq.trans (b :=
    (pPick yF fG (.bool false)).bind fun y162 =>
    condV y162
    (
      (idxSl 1 x2 qA).bind fun y169 =>
      (ldV false 1 y169 H).bind fun y170 =>
      (idxStr y170 uA).bind fun y172 =>
      (idxSl 1 tA uA).bind fun y173 =>
      (stV 1 y173 y172 H).bind fun H_1 =>
      (binI .add uA (.int .i64 1)).bind fun y164 =>
      iterK (denK Tryz.prog (run Tryz.prog k) k C6rrrrrrrrrrlrllrllrrrrlrll) (K6_10 k nrrrrrrrrrrlrl) nrrrrrrrrrrlrllrllrrrrlrl #[x0,x1,x2,x3,x4,x5,x6,x7,x8,x9,kA,lA,mA,nA,oA,pA,qA,rA,sA,tA,y164,vA,wA,xA,yA,zA,aB,bB,cB,dB,eB,fB,gB,hB,iB,jB,kB,lB,mB,nB,oB,pB,qB,rB,sB,tB,uB,vB,wB,xB,yB,zB,aC,bC,cC,dC,eC,fC,gC,hC,iC,jC,kC,lC,mC,nC,oC,pC,qC,rC,sC,tC,uC,vC,wC,xC,yC,zC,aD,bD,cD,dD,eD,fD,gD,hD,iD,jD,kD,lD,mD,nD,oD,pD,qD,rD,sD,tD,uD,vD,wD,xD,yD,zD,aE,bE,cE,dE,eE,fE,gE,hE,iE,jE,kE,lE,mE,nE,oE,pE,qE,rE,sE,tE,uE,vE,wE,xE,yE,zE,aF,bF,cF,dF,eF,fF,gF,hF,iF,jF,kF,lF,mF,nF,oF,pF,qF,rF,sF,tF,uF,vF,wF,xF,yF,zF,aG,bG,cG,dG,eG,fG,y162,uA,y164,tA,uA,x2,qA,y169,y170,uA,y172,y173,sG,tG,uG,vG,wG,xG,yG,zG,aH,bH,cH,dH,eH,fH,gH,hH,iH,jH,kH,lH,mH,nH,oH,pH,qH,rH,sH,tH,uH,vH,wH,xH,yH,zH,aI,bI,cI,dI,eI,fI,gI,hI,iI,jI,kI,lI,mI,nI,oI,pI,qI,rI,sI,tI,uI,vI,wI,xI,yI,zI,aJ,bJ,cJ,dJ,eJ,fJ,gJ,hJ,iJ,jJ,kJ] H_1)
    (
      bindP (run Tryz.prog k 25 #[x9,rA,(.int .i64 0),sA] H) fun y178 H_2 =>
      (pExtract y178 0).bind fun y179 =>
      (pExtract y178 1).bind fun y180 =>
      (binS .add (.string ⟨#[119]⟩) rA).bind fun y184 =>
      bindP (run Tryz.prog k 28 #[x9,rA,y184] H_2) fun y185 H_3 =>
      (binS .add (.string ⟨#[119]⟩) rA).bind fun y189 =>
      bindP (run Tryz.prog k 25 #[x9,y189,(.int .i64 0),sA] H_3) fun y191 H_4 =>
      (pExtract y191 0).bind fun y192 =>
      (pExtract y191 1).bind fun y193 =>
      (binI .neq y180 (.int .i64 0)).bind fun y195 =>
      condG y195 false
      (
        (binI .neq y185 (.int .i64 0)).bind fun y198 =>
        grpK Tryz.prog (run Tryz.prog k) (ropsC C6rrrrrrrrrrlrllrllrrrrrrrrl) ((grps (ropsC C6rrrrrrrrrrlrllrllrrrrrrrrl).toList).drop 2) #[x0,x1,x2,x3,x4,x5,x6,x7,x8,x9,kA,lA,mA,nA,oA,pA,qA,rA,sA,tA,uA,y179,y180,y185,y192,y193,aB,bB,cB,dB,eB,fB,gB,hB,iB,jB,kB,lB,mB,nB,oB,pB,qB,rB,sB,tB,uB,vB,wB,xB,yB,zB,aC,bC,cC,dC,eC,fC,gC,hC,iC,jC,kC,lC,mC,nC,oC,pC,qC,rC,sC,tC,uC,vC,wC,xC,yC,zC,aD,bD,cD,dD,eD,fD,gD,hD,iD,jD,kD,lD,mD,nD,oD,pD,qD,rD,sD,tD,uD,vD,wD,xD,yD,zD,aE,bE,cE,dE,eE,fE,gE,hE,iE,jE,kE,lE,mE,nE,oE,pE,qE,rE,sE,tE,uE,vE,wE,xE,yE,zE,aF,bF,cF,dF,eF,fF,gF,hF,iF,jF,kF,lF,mF,nF,oF,pF,qF,rF,sF,tF,uF,vF,wF,xF,yF,zF,aG,bG,cG,dG,eG,fG,y162,hG,iG,jG,kG,lG,mG,nG,oG,pG,qG,rG,y178,x9,rA,sA,y178,y179,y180,x9,rA,rA,y184,y185,y191,x9,rA,y189,sA,y191,y192,y193,y180,y195,y195,y185,y198,rH,sH,tH,uH,vH,wH,xH,yH,zH,aI,bI,cI,dI,eI,fI,gI,hI,iI,jI,kI,lI,mI,nI,oI,pI,qI,rI,sI,tI,uI,vI,wI,xI,yI,zI,aJ,bJ,cJ,dJ,eJ,fJ,gJ,hJ,iJ,jJ,kJ] H_4 ((K6_8 k nrrrrrrrrrrlrl) .normal))
      (
        grpK Tryz.prog (run Tryz.prog k) (ropsC C6rrrrrrrrrrlrllrllrrrrrrrrl) ((grps (ropsC C6rrrrrrrrrrlrllrllrrrrrrrrl).toList).drop 2) #[x0,x1,x2,x3,x4,x5,x6,x7,x8,x9,kA,lA,mA,nA,oA,pA,qA,rA,sA,tA,uA,y179,y180,y185,y192,y193,aB,bB,cB,dB,eB,fB,gB,hB,iB,jB,kB,lB,mB,nB,oB,pB,qB,rB,sB,tB,uB,vB,wB,xB,yB,zB,aC,bC,cC,dC,eC,fC,gC,hC,iC,jC,kC,lC,mC,nC,oC,pC,qC,rC,sC,tC,uC,vC,wC,xC,yC,zC,aD,bD,cD,dD,eD,fD,gD,hD,iD,jD,kD,lD,mD,nD,oD,pD,qD,rD,sD,tD,uD,vD,wD,xD,yD,zD,aE,bE,cE,dE,eE,fE,gE,hE,iE,jE,kE,lE,mE,nE,oE,pE,qE,rE,sE,tE,uE,vE,wE,xE,yE,zE,aF,bF,cF,dF,eF,fF,gF,hF,iF,jF,kF,lF,mF,nF,oF,pF,qF,rF,sF,tF,uF,vF,wF,xF,yF,zF,aG,bG,cG,dG,eG,fG,y162,hG,iG,jG,kG,lG,mG,nG,oG,pG,qG,rG,y178,x9,rA,sA,y178,y179,y180,x9,rA,rA,y184,y185,y191,x9,rA,y189,sA,y191,y192,y193,y180,y195,y195,undef,undef,rH,sH,tH,uH,vH,wH,xH,yH,zH,aI,bI,cI,dI,eI,fI,gI,hI,iI,jI,kI,lI,mI,nI,oI,pI,qI,rI,sI,tI,uI,vI,wI,xI,yI,zI,aJ,bJ,cJ,dJ,eJ,fJ,gJ,hJ,iJ,jJ,kJ] H_4 ((K6_8 k nrrrrrrrrrrlrl) .normal)))) (by kernel_rfl) ?_
  simp only [TJ6_4 k nrrrrrrrrrrlrl nxrrrrrrrrrrlrl hrrrrrrrrrrlrl, hrrrrrrrrrrlrllrllrrrrlrl]
  rfl
set_option maxRecDepth 100000 in
theorem TJ6_6 (k : Nat) (nrrrrrrrrrrlrl : Nat) (nxrrrrrrrrrrlrl : Value → Value → Value → Value → Value → Value → Heap → Option (Value × Heap)) (hrrrrrrrrrrlrl : ∀ (x0 x1 x2 x3 x4 x5 x6 x7 x8 x9 kA lA mA nA oA pA qA rA sA tA uA vA wA xA yA zA aB bB cB dB eB fB gB hB iB jB kB lB mB nB oB pB qB rB sB tB uB vB wB xB yB zB aC bC cC dC eC fC gC hC iC jC kC lC mC nC oC pC qC rC sC tC uC vC wC xC yC zC aD bD cD dD eD fD gD hD iD jD kD lD mD nD oD pD qD rD sD tD uD vD wD xD yD zD aE bE cE dE eE fE gE hE iE jE kE lE mE nE oE pE qE rE sE tE uE vE wE xE yE zE aF bF cF dF eF fF gF hF iF jF kF lF mF nF oF pF qF rF sF tF uF vF wF xF yF zF aG bG cG dG eG fG gG hG iG jG kG lG mG nG oG pG qG rG sG tG uG vG wG xG yG zG aH bH cH dH eH fH gH hH iH jH kH lH mH nH oH pH qH rH sH tH uH vH wH xH yH zH aI bI cI dI eI fI gI hI iI jI kI lI mI nI oI pI qI rI sI tI uI vI wI xI yI zI aJ bJ cJ dJ eJ fJ gJ hJ iJ jJ kJ : Value) (H : Heap), iterK (denK Tryz.prog (run Tryz.prog k) k C6rrrrrrrrrrlrll) (K6_4 k) nrrrrrrrrrrlrl #[x0,x1,x2,x3,x4,x5,x6,x7,x8,x9,kA,lA,mA,nA,oA,pA,qA,rA,sA,tA,uA,vA,wA,xA,yA,zA,aB,bB,cB,dB,eB,fB,gB,hB,iB,jB,kB,lB,mB,nB,oB,pB,qB,rB,sB,tB,uB,vB,wB,xB,yB,zB,aC,bC,cC,dC,eC,fC,gC,hC,iC,jC,kC,lC,mC,nC,oC,pC,qC,rC,sC,tC,uC,vC,wC,xC,yC,zC,aD,bD,cD,dD,eD,fD,gD,hD,iD,jD,kD,lD,mD,nD,oD,pD,qD,rD,sD,tD,uD,vD,wD,xD,yD,zD,aE,bE,cE,dE,eE,fE,gE,hE,iE,jE,kE,lE,mE,nE,oE,pE,qE,rE,sE,tE,uE,vE,wE,xE,yE,zE,aF,bF,cF,dF,eF,fF,gF,hF,iF,jF,kF,lF,mF,nF,oF,pF,qF,rF,sF,tF,uF,vF,wF,xF,yF,zF,aG,bG,cG,dG,eG,fG,gG,hG,iG,jG,kG,lG,mG,nG,oG,pG,qG,rG,sG,tG,uG,vG,wG,xG,yG,zG,aH,bH,cH,dH,eH,fH,gH,hH,iH,jH,kH,lH,mH,nH,oH,pH,qH,rH,sH,tH,uH,vH,wH,xH,yH,zH,aI,bI,cI,dI,eI,fI,gI,hI,iI,jI,kI,lI,mI,nI,oI,pI,qI,rI,sI,tI,uI,vI,wI,xI,yI,zI,aJ,bJ,cJ,dJ,eJ,fJ,gJ,hJ,iJ,jJ,kJ] H = nxrrrrrrrrrrlrl x0 x1 x2 x9 lA pA H) (nrrrrrrrrrrlrllrllrrrrlrl : Nat) (nxrrrrrrrrrrlrllrllrrrrlrl : Value → Value → Value → Value → Value → Value → Value → Value → Value → Value → Value → Heap → Option (Value × Heap)) (hrrrrrrrrrrlrllrllrrrrlrl : ∀ (x0 x1 x2 x3 x4 x5 x6 x7 x8 x9 kA lA mA nA oA pA qA rA sA tA uA vA wA xA yA zA aB bB cB dB eB fB gB hB iB jB kB lB mB nB oB pB qB rB sB tB uB vB wB xB yB zB aC bC cC dC eC fC gC hC iC jC kC lC mC nC oC pC qC rC sC tC uC vC wC xC yC zC aD bD cD dD eD fD gD hD iD jD kD lD mD nD oD pD qD rD sD tD uD vD wD xD yD zD aE bE cE dE eE fE gE hE iE jE kE lE mE nE oE pE qE rE sE tE uE vE wE xE yE zE aF bF cF dF eF fF gF hF iF jF kF lF mF nF oF pF qF rF sF tF uF vF wF xF yF zF aG bG cG dG eG fG gG hG iG jG kG lG mG nG oG pG qG rG sG tG uG vG wG xG yG zG aH bH cH dH eH fH gH hH iH jH kH lH mH nH oH pH qH rH sH tH uH vH wH xH yH zH aI bI cI dI eI fI gI hI iI jI kI lI mI nI oI pI qI rI sI tI uI vI wI xI yI zI aJ bJ cJ dJ eJ fJ gJ hJ iJ jJ kJ : Value) (H : Heap), iterK (denK Tryz.prog (run Tryz.prog k) k C6rrrrrrrrrrlrllrllrrrrlrll) (K6_10 k nrrrrrrrrrrlrl) nrrrrrrrrrrlrllrllrrrrlrl #[x0,x1,x2,x3,x4,x5,x6,x7,x8,x9,kA,lA,mA,nA,oA,pA,qA,rA,sA,tA,uA,vA,wA,xA,yA,zA,aB,bB,cB,dB,eB,fB,gB,hB,iB,jB,kB,lB,mB,nB,oB,pB,qB,rB,sB,tB,uB,vB,wB,xB,yB,zB,aC,bC,cC,dC,eC,fC,gC,hC,iC,jC,kC,lC,mC,nC,oC,pC,qC,rC,sC,tC,uC,vC,wC,xC,yC,zC,aD,bD,cD,dD,eD,fD,gD,hD,iD,jD,kD,lD,mD,nD,oD,pD,qD,rD,sD,tD,uD,vD,wD,xD,yD,zD,aE,bE,cE,dE,eE,fE,gE,hE,iE,jE,kE,lE,mE,nE,oE,pE,qE,rE,sE,tE,uE,vE,wE,xE,yE,zE,aF,bF,cF,dF,eF,fF,gF,hF,iF,jF,kF,lF,mF,nF,oF,pF,qF,rF,sF,tF,uF,vF,wF,xF,yF,zF,aG,bG,cG,dG,eG,fG,gG,hG,iG,jG,kG,lG,mG,nG,oG,pG,qG,rG,sG,tG,uG,vG,wG,xG,yG,zG,aH,bH,cH,dH,eH,fH,gH,hH,iH,jH,kH,lH,mH,nH,oH,pH,qH,rH,sH,tH,uH,vH,wH,xH,yH,zH,aI,bI,cI,dI,eI,fI,gI,hI,iI,jI,kI,lI,mI,nI,oI,pI,qI,rI,sI,tI,uI,vI,wI,xI,yI,zI,aJ,bJ,cJ,dJ,eJ,fJ,gJ,hJ,iJ,jJ,kJ] H = nxrrrrrrrrrrlrllrllrrrrlrl x0 x1 x2 x9 lA pA qA rA sA tA uA H) (x0 x1 x2 x3 x4 x5 x6 x7 x8 x9 kA lA mA nA oA pA qA rA sA tA uA vA wA xA yA zA aB bB cB dB eB fB gB hB iB jB kB lB mB nB oB pB qB rB sB tB uB vB wB xB yB zB aC bC cC dC eC fC gC hC iC jC kC lC mC nC oC pC qC rC sC tC uC vC wC xC yC zC aD bD cD dD eD fD gD hD iD jD kD lD mD nD oD pD qD rD sD tD uD vD wD xD yD zD aE bE cE dE eE fE gE hE iE jE kE lE mE nE oE pE qE rE sE tE uE vE wE xE yE zE aF bF cF dF eF fF gF hF iF jF kF lF mF nF oF pF qF rF sF tF uF vF wF xF yF zF aG bG cG dG eG fG gG hG iG jG kG lG mG nG oG pG qG rG sG tG uG vG wG xG yG zG aH bH cH dH eH fH gH hH iH jH kH lH mH nH oH pH qH rH sH tH uH vH wH xH yH zH aI bI cI dI eI fI gI hI iI jI kI lI mI nI oI pI qI rI sI tI uI vI wI xI yI zI aJ bJ cJ dJ eJ fJ gJ hJ iJ jJ kJ : Value) (H : Heap) : grpK Tryz.prog (run Tryz.prog k) (ropsC C6rrrrrrrrrrlrllrllrrrrlrllll) ((grps (ropsC C6rrrrrrrrrrlrllrllrrrrlrllll).toList).drop 2) #[x0,x1,x2,x3,x4,x5,x6,x7,x8,x9,kA,lA,mA,nA,oA,pA,qA,rA,sA,tA,uA,vA,wA,xA,yA,zA,aB,bB,cB,dB,eB,fB,gB,hB,iB,jB,kB,lB,mB,nB,oB,pB,qB,rB,sB,tB,uB,vB,wB,xB,yB,zB,aC,bC,cC,dC,eC,fC,gC,hC,iC,jC,kC,lC,mC,nC,oC,pC,qC,rC,sC,tC,uC,vC,wC,xC,yC,zC,aD,bD,cD,dD,eD,fD,gD,hD,iD,jD,kD,lD,mD,nD,oD,pD,qD,rD,sD,tD,uD,vD,wD,xD,yD,zD,aE,bE,cE,dE,eE,fE,gE,hE,iE,jE,kE,lE,mE,nE,oE,pE,qE,rE,sE,tE,uE,vE,wE,xE,yE,zE,aF,bF,cF,dF,eF,fF,gF,hF,iF,jF,kF,lF,mF,nF,oF,pF,qF,rF,sF,tF,uF,vF,wF,xF,yF,zF,aG,bG,cG,dG,eG,fG,gG,hG,iG,jG,kG,lG,mG,nG,oG,pG,qG,rG,sG,tG,uG,vG,wG,xG,yG,zG,aH,bH,cH,dH,eH,fH,gH,hH,iH,jH,kH,lH,mH,nH,oH,pH,qH,rH,sH,tH,uH,vH,wH,xH,yH,zH,aI,bI,cI,dI,eI,fI,gI,hI,iI,jI,kI,lI,mI,nI,oI,pI,qI,rI,sI,tI,uI,vI,wI,xI,yI,zI,aJ,bJ,cJ,dJ,eJ,fJ,gJ,hJ,iJ,jJ,kJ] H ((K6_13 k nrrrrrrrrrrlrl nrrrrrrrrrrlrllrllrrrrlrl) .normal) = J6_6 k nxrrrrrrrrrrlrl nxrrrrrrrrrrlrllrllrrrrlrl x0 x1 x2 x9 lA pA qA rA sA tA uA sF wF H := by
  refine Eq.trans (b :=
    (pPick sF wF (.bool false)).bind fun y153 =>
    condG y153 true
    (
      (idxSl 1 x2 qA).bind fun y158 =>
      (ldV false 1 y158 H).bind fun y159 =>
      bindM (lenSt y159) H fun y160 H_1 =>
      (binI .lss uA y160).bind fun y161 =>
      grpK Tryz.prog (run Tryz.prog k) (ropsC C6rrrrrrrrrrlrllrllrrrrlrllll) ((grps (ropsC C6rrrrrrrrrrlrllrllrrrrlrllll).toList).drop 4) #[x0,x1,x2,x3,x4,x5,x6,x7,x8,x9,kA,lA,mA,nA,oA,pA,qA,rA,sA,tA,uA,vA,wA,xA,yA,zA,aB,bB,cB,dB,eB,fB,gB,hB,iB,jB,kB,lB,mB,nB,oB,pB,qB,rB,sB,tB,uB,vB,wB,xB,yB,zB,aC,bC,cC,dC,eC,fC,gC,hC,iC,jC,kC,lC,mC,nC,oC,pC,qC,rC,sC,tC,uC,vC,wC,xC,yC,zC,aD,bD,cD,dD,eD,fD,gD,hD,iD,jD,kD,lD,mD,nD,oD,pD,qD,rD,sD,tD,uD,vD,wD,xD,yD,zD,aE,bE,cE,dE,eE,fE,gE,hE,iE,jE,kE,lE,mE,nE,oE,pE,qE,rE,sE,tE,uE,vE,wE,xE,yE,zE,aF,bF,cF,dF,eF,fF,gF,hF,iF,jF,kF,lF,mF,nF,oF,pF,qF,rF,sF,tF,uF,vF,wF,y153,y153,uA,x2,qA,y158,y159,y160,y161,gG,hG,iG,jG,kG,lG,mG,nG,oG,pG,qG,rG,sG,tG,uG,vG,wG,xG,yG,zG,aH,bH,cH,dH,eH,fH,gH,hH,iH,jH,kH,lH,mH,nH,oH,pH,qH,rH,sH,tH,uH,vH,wH,xH,yH,zH,aI,bI,cI,dI,eI,fI,gI,hI,iI,jI,kI,lI,mI,nI,oI,pI,qI,rI,sI,tI,uI,vI,wI,xI,yI,zI,aJ,bJ,cJ,dJ,eJ,fJ,gJ,hJ,iJ,jJ,kJ] H_1 ((K6_13 k nrrrrrrrrrrlrl nrrrrrrrrrrlrllrllrrrrlrl) .normal))
    (
      grpK Tryz.prog (run Tryz.prog k) (ropsC C6rrrrrrrrrrlrllrllrrrrlrllll) ((grps (ropsC C6rrrrrrrrrrlrllrllrrrrlrllll).toList).drop 4) #[x0,x1,x2,x3,x4,x5,x6,x7,x8,x9,kA,lA,mA,nA,oA,pA,qA,rA,sA,tA,uA,vA,wA,xA,yA,zA,aB,bB,cB,dB,eB,fB,gB,hB,iB,jB,kB,lB,mB,nB,oB,pB,qB,rB,sB,tB,uB,vB,wB,xB,yB,zB,aC,bC,cC,dC,eC,fC,gC,hC,iC,jC,kC,lC,mC,nC,oC,pC,qC,rC,sC,tC,uC,vC,wC,xC,yC,zC,aD,bD,cD,dD,eD,fD,gD,hD,iD,jD,kD,lD,mD,nD,oD,pD,qD,rD,sD,tD,uD,vD,wD,xD,yD,zD,aE,bE,cE,dE,eE,fE,gE,hE,iE,jE,kE,lE,mE,nE,oE,pE,qE,rE,sE,tE,uE,vE,wE,xE,yE,zE,aF,bF,cF,dF,eF,fF,gF,hF,iF,jF,kF,lF,mF,nF,oF,pF,qF,rF,sF,tF,uF,vF,wF,y153,y153,undef,undef,undef,undef,undef,undef,undef,gG,hG,iG,jG,kG,lG,mG,nG,oG,pG,qG,rG,sG,tG,uG,vG,wG,xG,yG,zG,aH,bH,cH,dH,eH,fH,gH,hH,iH,jH,kH,lH,mH,nH,oH,pH,qH,rH,sH,tH,uH,vH,wH,xH,yH,zH,aI,bI,cI,dI,eI,fI,gI,hI,iI,jI,kI,lI,mI,nI,oI,pI,qI,rI,sI,tI,uI,vI,wI,xI,yI,zI,aJ,bJ,cJ,dJ,eJ,fJ,gJ,hJ,iJ,jJ,kJ] H ((K6_13 k nrrrrrrrrrrlrl nrrrrrrrrrrlrllrllrrrrlrl) .normal))) (by kernel_rfl) ?_
  simp only [TJ6_5 k nrrrrrrrrrrlrl nxrrrrrrrrrrlrl hrrrrrrrrrrlrl nrrrrrrrrrrlrllrllrrrrlrl nxrrrrrrrrrrlrllrllrrrrlrl hrrrrrrrrrrlrllrllrrrrlrl]
  rfl
set_option maxRecDepth 100000 in
theorem TL6_7 (k : Nat) (nrrrrrrrrrrlrl : Nat) (nxrrrrrrrrrrlrl : Value → Value → Value → Value → Value → Value → Heap → Option (Value × Heap)) (hrrrrrrrrrrlrl : ∀ (x0 x1 x2 x3 x4 x5 x6 x7 x8 x9 kA lA mA nA oA pA qA rA sA tA uA vA wA xA yA zA aB bB cB dB eB fB gB hB iB jB kB lB mB nB oB pB qB rB sB tB uB vB wB xB yB zB aC bC cC dC eC fC gC hC iC jC kC lC mC nC oC pC qC rC sC tC uC vC wC xC yC zC aD bD cD dD eD fD gD hD iD jD kD lD mD nD oD pD qD rD sD tD uD vD wD xD yD zD aE bE cE dE eE fE gE hE iE jE kE lE mE nE oE pE qE rE sE tE uE vE wE xE yE zE aF bF cF dF eF fF gF hF iF jF kF lF mF nF oF pF qF rF sF tF uF vF wF xF yF zF aG bG cG dG eG fG gG hG iG jG kG lG mG nG oG pG qG rG sG tG uG vG wG xG yG zG aH bH cH dH eH fH gH hH iH jH kH lH mH nH oH pH qH rH sH tH uH vH wH xH yH zH aI bI cI dI eI fI gI hI iI jI kI lI mI nI oI pI qI rI sI tI uI vI wI xI yI zI aJ bJ cJ dJ eJ fJ gJ hJ iJ jJ kJ : Value) (H : Heap), iterK (denK Tryz.prog (run Tryz.prog k) k C6rrrrrrrrrrlrll) (K6_4 k) nrrrrrrrrrrlrl #[x0,x1,x2,x3,x4,x5,x6,x7,x8,x9,kA,lA,mA,nA,oA,pA,qA,rA,sA,tA,uA,vA,wA,xA,yA,zA,aB,bB,cB,dB,eB,fB,gB,hB,iB,jB,kB,lB,mB,nB,oB,pB,qB,rB,sB,tB,uB,vB,wB,xB,yB,zB,aC,bC,cC,dC,eC,fC,gC,hC,iC,jC,kC,lC,mC,nC,oC,pC,qC,rC,sC,tC,uC,vC,wC,xC,yC,zC,aD,bD,cD,dD,eD,fD,gD,hD,iD,jD,kD,lD,mD,nD,oD,pD,qD,rD,sD,tD,uD,vD,wD,xD,yD,zD,aE,bE,cE,dE,eE,fE,gE,hE,iE,jE,kE,lE,mE,nE,oE,pE,qE,rE,sE,tE,uE,vE,wE,xE,yE,zE,aF,bF,cF,dF,eF,fF,gF,hF,iF,jF,kF,lF,mF,nF,oF,pF,qF,rF,sF,tF,uF,vF,wF,xF,yF,zF,aG,bG,cG,dG,eG,fG,gG,hG,iG,jG,kG,lG,mG,nG,oG,pG,qG,rG,sG,tG,uG,vG,wG,xG,yG,zG,aH,bH,cH,dH,eH,fH,gH,hH,iH,jH,kH,lH,mH,nH,oH,pH,qH,rH,sH,tH,uH,vH,wH,xH,yH,zH,aI,bI,cI,dI,eI,fI,gI,hI,iI,jI,kI,lI,mI,nI,oI,pI,qI,rI,sI,tI,uI,vI,wI,xI,yI,zI,aJ,bJ,cJ,dJ,eJ,fJ,gJ,hJ,iJ,jJ,kJ] H = nxrrrrrrrrrrlrl x0 x1 x2 x9 lA pA H) : ∀ (n : Nat) (x0 x1 x2 x3 x4 x5 x6 x7 x8 x9 kA lA mA nA oA pA qA rA sA tA uA vA wA xA yA zA aB bB cB dB eB fB gB hB iB jB kB lB mB nB oB pB qB rB sB tB uB vB wB xB yB zB aC bC cC dC eC fC gC hC iC jC kC lC mC nC oC pC qC rC sC tC uC vC wC xC yC zC aD bD cD dD eD fD gD hD iD jD kD lD mD nD oD pD qD rD sD tD uD vD wD xD yD zD aE bE cE dE eE fE gE hE iE jE kE lE mE nE oE pE qE rE sE tE uE vE wE xE yE zE aF bF cF dF eF fF gF hF iF jF kF lF mF nF oF pF qF rF sF tF uF vF wF xF yF zF aG bG cG dG eG fG gG hG iG jG kG lG mG nG oG pG qG rG sG tG uG vG wG xG yG zG aH bH cH dH eH fH gH hH iH jH kH lH mH nH oH pH qH rH sH tH uH vH wH xH yH zH aI bI cI dI eI fI gI hI iI jI kI lI mI nI oI pI qI rI sI tI uI vI wI xI yI zI aJ bJ cJ dJ eJ fJ gJ hJ iJ jJ kJ : Value) (H : Heap), iterK (denK Tryz.prog (run Tryz.prog k) k C6rrrrrrrrrrlrllrllrrrrlrll) (K6_10 k nrrrrrrrrrrlrl) n #[x0,x1,x2,x3,x4,x5,x6,x7,x8,x9,kA,lA,mA,nA,oA,pA,qA,rA,sA,tA,uA,vA,wA,xA,yA,zA,aB,bB,cB,dB,eB,fB,gB,hB,iB,jB,kB,lB,mB,nB,oB,pB,qB,rB,sB,tB,uB,vB,wB,xB,yB,zB,aC,bC,cC,dC,eC,fC,gC,hC,iC,jC,kC,lC,mC,nC,oC,pC,qC,rC,sC,tC,uC,vC,wC,xC,yC,zC,aD,bD,cD,dD,eD,fD,gD,hD,iD,jD,kD,lD,mD,nD,oD,pD,qD,rD,sD,tD,uD,vD,wD,xD,yD,zD,aE,bE,cE,dE,eE,fE,gE,hE,iE,jE,kE,lE,mE,nE,oE,pE,qE,rE,sE,tE,uE,vE,wE,xE,yE,zE,aF,bF,cF,dF,eF,fF,gF,hF,iF,jF,kF,lF,mF,nF,oF,pF,qF,rF,sF,tF,uF,vF,wF,xF,yF,zF,aG,bG,cG,dG,eG,fG,gG,hG,iG,jG,kG,lG,mG,nG,oG,pG,qG,rG,sG,tG,uG,vG,wG,xG,yG,zG,aH,bH,cH,dH,eH,fH,gH,hH,iH,jH,kH,lH,mH,nH,oH,pH,qH,rH,sH,tH,uH,vH,wH,xH,yH,zH,aI,bI,cI,dI,eI,fI,gI,hI,iI,jI,kI,lI,mI,nI,oI,pI,qI,rI,sI,tI,uI,vI,wI,xI,yI,zI,aJ,bJ,cJ,dJ,eJ,fJ,gJ,hJ,iJ,jJ,kJ] H = L6_7 k nxrrrrrrrrrrlrl n x0 x1 x2 x9 lA pA qA rA sA tA uA H := by
  intro n
  induction n with
  | zero => intros; rfl
  | succ n ih =>
    intro x0 x1 x2 x3 x4 x5 x6 x7 x8 x9 kA lA mA nA oA pA qA rA sA tA uA vA wA xA yA zA aB bB cB dB eB fB gB hB iB jB kB lB mB nB oB pB qB rB sB tB uB vB wB xB yB zB aC bC cC dC eC fC gC hC iC jC kC lC mC nC oC pC qC rC sC tC uC vC wC xC yC zC aD bD cD dD eD fD gD hD iD jD kD lD mD nD oD pD qD rD sD tD uD vD wD xD yD zD aE bE cE dE eE fE gE hE iE jE kE lE mE nE oE pE qE rE sE tE uE vE wE xE yE zE aF bF cF dF eF fF gF hF iF jF kF lF mF nF oF pF qF rF sF tF uF vF wF xF yF zF aG bG cG dG eG fG gG hG iG jG kG lG mG nG oG pG qG rG sG tG uG vG wG xG yG zG aH bH cH dH eH fH gH hH iH jH kH lH mH nH oH pH qH rH sH tH uH vH wH xH yH zH aI bI cI dI eI fI gI hI iI jI kI lI mI nI oI pI qI rI sI tI uI vI wI xI yI zI aJ bJ cJ dJ eJ fJ gJ hJ iJ jJ kJ H
    refine Eq.trans (b :=
    bindM (lenSl x2) H fun y146 H_1 =>
    (binI .lss qA y146).bind fun y147 =>
    condG y147 true
    (
      bindM (lenSl tA) H_1 fun y151 H_2 =>
      (binI .lss uA y151).bind fun y152 =>
      grpK Tryz.prog (run Tryz.prog k) (ropsC C6rrrrrrrrrrlrllrllrrrrlrllll) ((grps (ropsC C6rrrrrrrrrrlrllrllrrrrlrllll).toList).drop 2) #[x0,x1,x2,x3,x4,x5,x6,x7,x8,x9,kA,lA,mA,nA,oA,pA,qA,rA,sA,tA,uA,vA,wA,xA,yA,zA,aB,bB,cB,dB,eB,fB,gB,hB,iB,jB,kB,lB,mB,nB,oB,pB,qB,rB,sB,tB,uB,vB,wB,xB,yB,zB,aC,bC,cC,dC,eC,fC,gC,hC,iC,jC,kC,lC,mC,nC,oC,pC,qC,rC,sC,tC,uC,vC,wC,xC,yC,zC,aD,bD,cD,dD,eD,fD,gD,hD,iD,jD,kD,lD,mD,nD,oD,pD,qD,rD,sD,tD,uD,vD,wD,xD,yD,zD,aE,bE,cE,dE,eE,fE,gE,hE,iE,jE,kE,lE,mE,nE,oE,pE,qE,rE,sE,tE,uE,vE,wE,xE,yE,zE,aF,bF,cF,dF,eF,fF,gF,hF,iF,jF,kF,lF,mF,nF,qA,x2,y146,y147,y147,uA,tA,y151,y152,xF,yF,zF,aG,bG,cG,dG,eG,fG,gG,hG,iG,jG,kG,lG,mG,nG,oG,pG,qG,rG,sG,tG,uG,vG,wG,xG,yG,zG,aH,bH,cH,dH,eH,fH,gH,hH,iH,jH,kH,lH,mH,nH,oH,pH,qH,rH,sH,tH,uH,vH,wH,xH,yH,zH,aI,bI,cI,dI,eI,fI,gI,hI,iI,jI,kI,lI,mI,nI,oI,pI,qI,rI,sI,tI,uI,vI,wI,xI,yI,zI,aJ,bJ,cJ,dJ,eJ,fJ,gJ,hJ,iJ,jJ,kJ] H_2 ((K6_13 k nrrrrrrrrrrlrl n) .normal))
    (
      grpK Tryz.prog (run Tryz.prog k) (ropsC C6rrrrrrrrrrlrllrllrrrrlrllll) ((grps (ropsC C6rrrrrrrrrrlrllrllrrrrlrllll).toList).drop 2) #[x0,x1,x2,x3,x4,x5,x6,x7,x8,x9,kA,lA,mA,nA,oA,pA,qA,rA,sA,tA,uA,vA,wA,xA,yA,zA,aB,bB,cB,dB,eB,fB,gB,hB,iB,jB,kB,lB,mB,nB,oB,pB,qB,rB,sB,tB,uB,vB,wB,xB,yB,zB,aC,bC,cC,dC,eC,fC,gC,hC,iC,jC,kC,lC,mC,nC,oC,pC,qC,rC,sC,tC,uC,vC,wC,xC,yC,zC,aD,bD,cD,dD,eD,fD,gD,hD,iD,jD,kD,lD,mD,nD,oD,pD,qD,rD,sD,tD,uD,vD,wD,xD,yD,zD,aE,bE,cE,dE,eE,fE,gE,hE,iE,jE,kE,lE,mE,nE,oE,pE,qE,rE,sE,tE,uE,vE,wE,xE,yE,zE,aF,bF,cF,dF,eF,fF,gF,hF,iF,jF,kF,lF,mF,nF,qA,x2,y146,y147,y147,undef,undef,undef,undef,xF,yF,zF,aG,bG,cG,dG,eG,fG,gG,hG,iG,jG,kG,lG,mG,nG,oG,pG,qG,rG,sG,tG,uG,vG,wG,xG,yG,zG,aH,bH,cH,dH,eH,fH,gH,hH,iH,jH,kH,lH,mH,nH,oH,pH,qH,rH,sH,tH,uH,vH,wH,xH,yH,zH,aI,bI,cI,dI,eI,fI,gI,hI,iI,jI,kI,lI,mI,nI,oI,pI,qI,rI,sI,tI,uI,vI,wI,xI,yI,zI,aJ,bJ,cJ,dJ,eJ,fJ,gJ,hJ,iJ,jJ,kJ] H_1 ((K6_13 k nrrrrrrrrrrlrl n) .normal))) (by kernel_rfl) ?_
    simp only [TJ6_6 k nrrrrrrrrrrlrl nxrrrrrrrrrrlrl hrrrrrrrrrrlrl n (L6_7 k nxrrrrrrrrrrlrl n) ih]
    rfl
set_option maxRecDepth 100000 in
theorem TL6_8 (k : Nat) : ∀ (n : Nat) (x0 x1 x2 x3 x4 x5 x6 x7 x8 x9 kA lA mA nA oA pA qA rA sA tA uA vA wA xA yA zA aB bB cB dB eB fB gB hB iB jB kB lB mB nB oB pB qB rB sB tB uB vB wB xB yB zB aC bC cC dC eC fC gC hC iC jC kC lC mC nC oC pC qC rC sC tC uC vC wC xC yC zC aD bD cD dD eD fD gD hD iD jD kD lD mD nD oD pD qD rD sD tD uD vD wD xD yD zD aE bE cE dE eE fE gE hE iE jE kE lE mE nE oE pE qE rE sE tE uE vE wE xE yE zE aF bF cF dF eF fF gF hF iF jF kF lF mF nF oF pF qF rF sF tF uF vF wF xF yF zF aG bG cG dG eG fG gG hG iG jG kG lG mG nG oG pG qG rG sG tG uG vG wG xG yG zG aH bH cH dH eH fH gH hH iH jH kH lH mH nH oH pH qH rH sH tH uH vH wH xH yH zH aI bI cI dI eI fI gI hI iI jI kI lI mI nI oI pI qI rI sI tI uI vI wI xI yI zI aJ bJ cJ dJ eJ fJ gJ hJ iJ jJ kJ : Value) (H : Heap), iterK (denK Tryz.prog (run Tryz.prog k) k C6rrrrrrrrrrlrll) (K6_4 k) n #[x0,x1,x2,x3,x4,x5,x6,x7,x8,x9,kA,lA,mA,nA,oA,pA,qA,rA,sA,tA,uA,vA,wA,xA,yA,zA,aB,bB,cB,dB,eB,fB,gB,hB,iB,jB,kB,lB,mB,nB,oB,pB,qB,rB,sB,tB,uB,vB,wB,xB,yB,zB,aC,bC,cC,dC,eC,fC,gC,hC,iC,jC,kC,lC,mC,nC,oC,pC,qC,rC,sC,tC,uC,vC,wC,xC,yC,zC,aD,bD,cD,dD,eD,fD,gD,hD,iD,jD,kD,lD,mD,nD,oD,pD,qD,rD,sD,tD,uD,vD,wD,xD,yD,zD,aE,bE,cE,dE,eE,fE,gE,hE,iE,jE,kE,lE,mE,nE,oE,pE,qE,rE,sE,tE,uE,vE,wE,xE,yE,zE,aF,bF,cF,dF,eF,fF,gF,hF,iF,jF,kF,lF,mF,nF,oF,pF,qF,rF,sF,tF,uF,vF,wF,xF,yF,zF,aG,bG,cG,dG,eG,fG,gG,hG,iG,jG,kG,lG,mG,nG,oG,pG,qG,rG,sG,tG,uG,vG,wG,xG,yG,zG,aH,bH,cH,dH,eH,fH,gH,hH,iH,jH,kH,lH,mH,nH,oH,pH,qH,rH,sH,tH,uH,vH,wH,xH,yH,zH,aI,bI,cI,dI,eI,fI,gI,hI,iI,jI,kI,lI,mI,nI,oI,pI,qI,rI,sI,tI,uI,vI,wI,xI,yI,zI,aJ,bJ,cJ,dJ,eJ,fJ,gJ,hJ,iJ,jJ,kJ] H = L6_8 k n x0 x1 x2 x9 lA pA H := by
  intro n
  induction n with
  | zero => intros; rfl
  | succ n ih =>
    intro x0 x1 x2 x3 x4 x5 x6 x7 x8 x9 kA lA mA nA oA pA qA rA sA tA uA vA wA xA yA zA aB bB cB dB eB fB gB hB iB jB kB lB mB nB oB pB qB rB sB tB uB vB wB xB yB zB aC bC cC dC eC fC gC hC iC jC kC lC mC nC oC pC qC rC sC tC uC vC wC xC yC zC aD bD cD dD eD fD gD hD iD jD kD lD mD nD oD pD qD rD sD tD uD vD wD xD yD zD aE bE cE dE eE fE gE hE iE jE kE lE mE nE oE pE qE rE sE tE uE vE wE xE yE zE aF bF cF dF eF fF gF hF iF jF kF lF mF nF oF pF qF rF sF tF uF vF wF xF yF zF aG bG cG dG eG fG gG hG iG jG kG lG mG nG oG pG qG rG sG tG uG vG wG xG yG zG aH bH cH dH eH fH gH hH iH jH kH lH mH nH oH pH qH rH sH tH uH vH wH xH yH zH aI bI cI dI eI fI gI hI iI jI kI lI mI nI oI pI qI rI sI tI uI vI wI xI yI zI aJ bJ cJ dJ eJ fJ gJ hJ iJ jJ kJ H
    refine Eq.trans (b :=
    bindM (lenSl lA) H fun y121 H_1 =>
    (binI .lss pA y121).bind fun y122 =>
    condV y122
    (
      (idxSl 1 lA pA).bind fun y127 =>
      (ldV false 1 y127 H_1).bind fun y128 =>
      (binI .add (.int .i64 48) y128).bind fun y130 =>
      bindM (convI .u8 y130) H_1 fun y131 H_2 =>
      bindP (pBuildSlice Tryz.prog 57 1 [(0, y131)] H_2) fun y132 H_3 =>
      bindM (convBS y132 H_3) H_3 fun y133 H_4 =>
      (binS .add (.string ⟨#[118]⟩) y133).bind fun y134 =>
      (idxSl 1 x1 y128).bind fun y137 =>
      (ldV false 1 y137 H_4).bind fun y138 =>
      (binI .and y138 (.int .i64 3)).bind fun y139 =>
      (binI .add (.int .i64 1) y139).bind fun y140 =>
      (binI .mul y140 (.int .i64 32)).bind fun y142 =>
      bindP (mkSl 1 1 #[(.int .u8 0)] 5 y142 y142 H_4) fun y143 H_5 =>
      iterK (denK Tryz.prog (run Tryz.prog k) k C6rrrrrrrrrrlrllrllrrrrlrll) (K6_10 k n) k #[x0,x1,x2,x3,x4,x5,x6,x7,x8,x9,kA,lA,mA,nA,oA,pA,y128,y134,y140,y143,(.int .i64 0),vA,wA,xA,yA,zA,aB,bB,cB,dB,eB,fB,gB,hB,iB,jB,kB,lB,mB,nB,oB,pB,qB,rB,sB,tB,uB,vB,wB,xB,yB,zB,aC,bC,cC,dC,eC,fC,gC,hC,iC,jC,kC,lC,mC,nC,oC,pC,qC,rC,sC,tC,uC,vC,wC,xC,yC,zC,aD,bD,cD,dD,eD,fD,gD,hD,iD,jD,kD,lD,mD,nD,oD,pD,qD,rD,sD,tD,uD,vD,wD,xD,yD,zD,aE,bE,cE,dE,eE,fE,gE,hE,iE,jE,kE,lE,mE,nE,oE,pA,lA,y121,y122,tE,uE,lA,pA,y127,y128,y128,y130,y131,y132,y133,y134,x1,y128,y137,y138,y139,y140,y140,y142,y143,oF,pF,qF,rF,sF,tF,uF,vF,wF,xF,yF,zF,aG,bG,cG,dG,eG,fG,gG,hG,iG,jG,kG,lG,mG,nG,oG,pG,qG,rG,sG,tG,uG,vG,wG,xG,yG,zG,aH,bH,cH,dH,eH,fH,gH,hH,iH,jH,kH,lH,mH,nH,oH,pH,qH,rH,sH,tH,uH,vH,wH,xH,yH,zH,aI,bI,cI,dI,eI,fI,gI,hI,iI,jI,kI,lI,mI,nI,oI,pI,qI,rI,sI,tI,uI,vI,wI,xI,yI,zI,aJ,bJ,cJ,dJ,eJ,fJ,gJ,hJ,iJ,jJ,kJ] H_5)
    (
      iterK (denK Tryz.prog (run Tryz.prog k) k C6rrrrrrrrrrrlrll) (K6_2 k) k #[x0,x1,x2,x3,x4,x5,x6,x7,x8,x9,kA,lA,mA,nA,oA,pA,qA,rA,sA,tA,uA,vA,wA,xA,yA,zA,(.int .i64 0),bB,cB,dB,eB,fB,gB,hB,iB,jB,kB,lB,mB,nB,oB,pB,qB,rB,sB,tB,uB,vB,wB,xB,yB,zB,aC,bC,cC,dC,eC,fC,gC,hC,iC,jC,kC,lC,mC,nC,oC,pC,qC,rC,sC,tC,uC,vC,wC,xC,yC,zC,aD,bD,cD,dD,eD,fD,gD,hD,iD,jD,kD,lD,mD,nD,oD,pD,qD,rD,sD,tD,uD,vD,wD,xD,yD,zD,aE,bE,cE,dE,eE,fE,gE,hE,iE,jE,kE,lE,mE,nE,oE,pA,lA,y121,y122,tE,uE,vE,wE,xE,yE,zE,aF,bF,cF,dF,eF,fF,gF,hF,iF,jF,kF,lF,mF,nF,oF,pF,qF,rF,sF,tF,uF,vF,wF,xF,yF,zF,aG,bG,cG,dG,eG,fG,gG,hG,iG,jG,kG,lG,mG,nG,oG,pG,qG,rG,sG,tG,uG,vG,wG,xG,yG,zG,aH,bH,cH,dH,eH,fH,gH,hH,iH,jH,kH,lH,mH,nH,oH,pH,qH,rH,sH,tH,uH,vH,wH,xH,yH,zH,aI,bI,cI,dI,eI,fI,gI,hI,iI,jI,kI,lI,mI,nI,oI,pI,qI,rI,sI,tI,uI,vI,wI,xI,yI,zI,aJ,bJ,cJ,dJ,eJ,fJ,gJ,hJ,iJ,jJ,kJ] H_1)) (by kernel_rfl) ?_
    simp only [TL6_0 k, TL6_7 k n (L6_8 k n) ih]
    rfl
set_option maxRecDepth 100000 in
theorem TJ6_9 (k : Nat) (nrrrrrrrrlrl : Nat) (nxrrrrrrrrlrl : Value → Value → Value → Value → Value → Value → Value → Heap → Option (Value × Heap)) (hrrrrrrrrlrl : ∀ (x0 x1 x2 x3 x4 x5 x6 x7 x8 x9 kA lA mA nA oA pA qA rA sA tA uA vA wA xA yA zA aB bB cB dB eB fB gB hB iB jB kB lB mB nB oB pB qB rB sB tB uB vB wB xB yB zB aC bC cC dC eC fC gC hC iC jC kC lC mC nC oC pC qC rC sC tC uC vC wC xC yC zC aD bD cD dD eD fD gD hD iD jD kD lD mD nD oD pD qD rD sD tD uD vD wD xD yD zD aE bE cE dE eE fE gE hE iE jE kE lE mE nE oE pE qE rE sE tE uE vE wE xE yE zE aF bF cF dF eF fF gF hF iF jF kF lF mF nF oF pF qF rF sF tF uF vF wF xF yF zF aG bG cG dG eG fG gG hG iG jG kG lG mG nG oG pG qG rG sG tG uG vG wG xG yG zG aH bH cH dH eH fH gH hH iH jH kH lH mH nH oH pH qH rH sH tH uH vH wH xH yH zH aI bI cI dI eI fI gI hI iI jI kI lI mI nI oI pI qI rI sI tI uI vI wI xI yI zI aJ bJ cJ dJ eJ fJ gJ hJ iJ jJ kJ : Value) (H : Heap), iterK (denK Tryz.prog (run Tryz.prog k) k C6rrrrrrrrlrll) (K6_15 k) nrrrrrrrrlrl #[x0,x1,x2,x3,x4,x5,x6,x7,x8,x9,kA,lA,mA,nA,oA,pA,qA,rA,sA,tA,uA,vA,wA,xA,yA,zA,aB,bB,cB,dB,eB,fB,gB,hB,iB,jB,kB,lB,mB,nB,oB,pB,qB,rB,sB,tB,uB,vB,wB,xB,yB,zB,aC,bC,cC,dC,eC,fC,gC,hC,iC,jC,kC,lC,mC,nC,oC,pC,qC,rC,sC,tC,uC,vC,wC,xC,yC,zC,aD,bD,cD,dD,eD,fD,gD,hD,iD,jD,kD,lD,mD,nD,oD,pD,qD,rD,sD,tD,uD,vD,wD,xD,yD,zD,aE,bE,cE,dE,eE,fE,gE,hE,iE,jE,kE,lE,mE,nE,oE,pE,qE,rE,sE,tE,uE,vE,wE,xE,yE,zE,aF,bF,cF,dF,eF,fF,gF,hF,iF,jF,kF,lF,mF,nF,oF,pF,qF,rF,sF,tF,uF,vF,wF,xF,yF,zF,aG,bG,cG,dG,eG,fG,gG,hG,iG,jG,kG,lG,mG,nG,oG,pG,qG,rG,sG,tG,uG,vG,wG,xG,yG,zG,aH,bH,cH,dH,eH,fH,gH,hH,iH,jH,kH,lH,mH,nH,oH,pH,qH,rH,sH,tH,uH,vH,wH,xH,yH,zH,aI,bI,cI,dI,eI,fI,gI,hI,iI,jI,kI,lI,mI,nI,oI,pI,qI,rI,sI,tI,uI,vI,wI,xI,yI,zI,aJ,bJ,cJ,dJ,eJ,fJ,gJ,hJ,iJ,jJ,kJ] H = nxrrrrrrrrlrl x0 x1 x2 x9 kA lA mA H) (x0 x1 x2 x3 x4 x5 x6 x7 x8 x9 kA lA mA nA oA pA qA rA sA tA uA vA wA xA yA zA aB bB cB dB eB fB gB hB iB jB kB lB mB nB oB pB qB rB sB tB uB vB wB xB yB zB aC bC cC dC eC fC gC hC iC jC kC lC mC nC oC pC qC rC sC tC uC vC wC xC yC zC aD bD cD dD eD fD gD hD iD jD kD lD mD nD oD pD qD rD sD tD uD vD wD xD yD zD aE bE cE dE eE fE gE hE iE jE kE lE mE nE oE pE qE rE sE tE uE vE wE xE yE zE aF bF cF dF eF fF gF hF iF jF kF lF mF nF oF pF qF rF sF tF uF vF wF xF yF zF aG bG cG dG eG fG gG hG iG jG kG lG mG nG oG pG qG rG sG tG uG vG wG xG yG zG aH bH cH dH eH fH gH hH iH jH kH lH mH nH oH pH qH rH sH tH uH vH wH xH yH zH aI bI cI dI eI fI gI hI iI jI kI lI mI nI oI pI qI rI sI tI uI vI wI xI yI zI aJ bJ cJ dJ eJ fJ gJ hJ iJ jJ kJ : Value) (H : Heap) : denK Tryz.prog (run Tryz.prog k) k C6rrrrrrrrlrllrr (K6_16 k nrrrrrrrrlrl) #[x0,x1,x2,x3,x4,x5,x6,x7,x8,x9,kA,lA,mA,nA,oA,pA,qA,rA,sA,tA,uA,vA,wA,xA,yA,zA,aB,bB,cB,dB,eB,fB,gB,hB,iB,jB,kB,lB,mB,nB,oB,pB,qB,rB,sB,tB,uB,vB,wB,xB,yB,zB,aC,bC,cC,dC,eC,fC,gC,hC,iC,jC,kC,lC,mC,nC,oC,pC,qC,rC,sC,tC,uC,vC,wC,xC,yC,zC,aD,bD,cD,dD,eD,fD,gD,hD,iD,jD,kD,lD,mD,nD,oD,pD,qD,rD,sD,tD,uD,vD,wD,xD,yD,zD,aE,bE,cE,dE,eE,fE,gE,hE,iE,jE,kE,lE,mE,nE,oE,pE,qE,rE,sE,tE,uE,vE,wE,xE,yE,zE,aF,bF,cF,dF,eF,fF,gF,hF,iF,jF,kF,lF,mF,nF,oF,pF,qF,rF,sF,tF,uF,vF,wF,xF,yF,zF,aG,bG,cG,dG,eG,fG,gG,hG,iG,jG,kG,lG,mG,nG,oG,pG,qG,rG,sG,tG,uG,vG,wG,xG,yG,zG,aH,bH,cH,dH,eH,fH,gH,hH,iH,jH,kH,lH,mH,nH,oH,pH,qH,rH,sH,tH,uH,vH,wH,xH,yH,zH,aI,bI,cI,dI,eI,fI,gI,hI,iI,jI,kI,lI,mI,nI,oI,pI,qI,rI,sI,tI,uI,vI,wI,xI,yI,zI,aJ,bJ,cJ,dJ,eJ,fJ,gJ,hJ,iJ,jJ,kJ] H = J6_9 k nxrrrrrrrrlrl x0 x1 x2 x9 kA lA mA H := by
  refine Eq.trans (b :=
    (binI .add mA (.int .i64 1)).bind fun y64 =>
    iterK (denK Tryz.prog (run Tryz.prog k) k C6rrrrrrrrlrll) (K6_15 k) nrrrrrrrrlrl #[x0,x1,x2,x3,x4,x5,x6,x7,x8,x9,kA,lA,y64,nA,oA,pA,qA,rA,sA,tA,uA,vA,wA,xA,yA,zA,aB,bB,cB,dB,eB,fB,gB,hB,iB,jB,kB,lB,mB,nB,oB,pB,qB,rB,sB,tB,uB,vB,wB,xB,yB,zB,aC,bC,cC,dC,eC,fC,gC,hC,iC,jC,kC,mA,y64,nC,oC,pC,qC,rC,sC,tC,uC,vC,wC,xC,yC,zC,aD,bD,cD,dD,eD,fD,gD,hD,iD,jD,kD,lD,mD,nD,oD,pD,qD,rD,sD,tD,uD,vD,wD,xD,yD,zD,aE,bE,cE,dE,eE,fE,gE,hE,iE,jE,kE,lE,mE,nE,oE,pE,qE,rE,sE,tE,uE,vE,wE,xE,yE,zE,aF,bF,cF,dF,eF,fF,gF,hF,iF,jF,kF,lF,mF,nF,oF,pF,qF,rF,sF,tF,uF,vF,wF,xF,yF,zF,aG,bG,cG,dG,eG,fG,gG,hG,iG,jG,kG,lG,mG,nG,oG,pG,qG,rG,sG,tG,uG,vG,wG,xG,yG,zG,aH,bH,cH,dH,eH,fH,gH,hH,iH,jH,kH,lH,mH,nH,oH,pH,qH,rH,sH,tH,uH,vH,wH,xH,yH,zH,aI,bI,cI,dI,eI,fI,gI,hI,iI,jI,kI,lI,mI,nI,oI,pI,qI,rI,sI,tI,uI,vI,wI,xI,yI,zI,aJ,bJ,cJ,dJ,eJ,fJ,gJ,hJ,iJ,jJ,kJ] H) (by kernel_rfl) ?_
  simp only [hrrrrrrrrlrl]
  rfl
set_option maxRecDepth 100000 in
theorem TJ6_10 (k : Nat) (nrrrrrrrrlrl : Nat) (nxrrrrrrrrlrl : Value → Value → Value → Value → Value → Value → Value → Heap → Option (Value × Heap)) (hrrrrrrrrlrl : ∀ (x0 x1 x2 x3 x4 x5 x6 x7 x8 x9 kA lA mA nA oA pA qA rA sA tA uA vA wA xA yA zA aB bB cB dB eB fB gB hB iB jB kB lB mB nB oB pB qB rB sB tB uB vB wB xB yB zB aC bC cC dC eC fC gC hC iC jC kC lC mC nC oC pC qC rC sC tC uC vC wC xC yC zC aD bD cD dD eD fD gD hD iD jD kD lD mD nD oD pD qD rD sD tD uD vD wD xD yD zD aE bE cE dE eE fE gE hE iE jE kE lE mE nE oE pE qE rE sE tE uE vE wE xE yE zE aF bF cF dF eF fF gF hF iF jF kF lF mF nF oF pF qF rF sF tF uF vF wF xF yF zF aG bG cG dG eG fG gG hG iG jG kG lG mG nG oG pG qG rG sG tG uG vG wG xG yG zG aH bH cH dH eH fH gH hH iH jH kH lH mH nH oH pH qH rH sH tH uH vH wH xH yH zH aI bI cI dI eI fI gI hI iI jI kI lI mI nI oI pI qI rI sI tI uI vI wI xI yI zI aJ bJ cJ dJ eJ fJ gJ hJ iJ jJ kJ : Value) (H : Heap), iterK (denK Tryz.prog (run Tryz.prog k) k C6rrrrrrrrlrll) (K6_15 k) nrrrrrrrrlrl #[x0,x1,x2,x3,x4,x5,x6,x7,x8,x9,kA,lA,mA,nA,oA,pA,qA,rA,sA,tA,uA,vA,wA,xA,yA,zA,aB,bB,cB,dB,eB,fB,gB,hB,iB,jB,kB,lB,mB,nB,oB,pB,qB,rB,sB,tB,uB,vB,wB,xB,yB,zB,aC,bC,cC,dC,eC,fC,gC,hC,iC,jC,kC,lC,mC,nC,oC,pC,qC,rC,sC,tC,uC,vC,wC,xC,yC,zC,aD,bD,cD,dD,eD,fD,gD,hD,iD,jD,kD,lD,mD,nD,oD,pD,qD,rD,sD,tD,uD,vD,wD,xD,yD,zD,aE,bE,cE,dE,eE,fE,gE,hE,iE,jE,kE,lE,mE,nE,oE,pE,qE,rE,sE,tE,uE,vE,wE,xE,yE,zE,aF,bF,cF,dF,eF,fF,gF,hF,iF,jF,kF,lF,mF,nF,oF,pF,qF,rF,sF,tF,uF,vF,wF,xF,yF,zF,aG,bG,cG,dG,eG,fG,gG,hG,iG,jG,kG,lG,mG,nG,oG,pG,qG,rG,sG,tG,uG,vG,wG,xG,yG,zG,aH,bH,cH,dH,eH,fH,gH,hH,iH,jH,kH,lH,mH,nH,oH,pH,qH,rH,sH,tH,uH,vH,wH,xH,yH,zH,aI,bI,cI,dI,eI,fI,gI,hI,iI,jI,kI,lI,mI,nI,oI,pI,qI,rI,sI,tI,uI,vI,wI,xI,yI,zI,aJ,bJ,cJ,dJ,eJ,fJ,gJ,hJ,iJ,jJ,kJ] H = nxrrrrrrrrlrl x0 x1 x2 x9 kA lA mA H) (x0 x1 x2 x3 x4 x5 x6 x7 x8 x9 kA lA mA nA oA pA qA rA sA tA uA vA wA xA yA zA aB bB cB dB eB fB gB hB iB jB kB lB mB nB oB pB qB rB sB tB uB vB wB xB yB zB aC bC cC dC eC fC gC hC iC jC kC lC mC nC oC pC qC rC sC tC uC vC wC xC yC zC aD bD cD dD eD fD gD hD iD jD kD lD mD nD oD pD qD rD sD tD uD vD wD xD yD zD aE bE cE dE eE fE gE hE iE jE kE lE mE nE oE pE qE rE sE tE uE vE wE xE yE zE aF bF cF dF eF fF gF hF iF jF kF lF mF nF oF pF qF rF sF tF uF vF wF xF yF zF aG bG cG dG eG fG gG hG iG jG kG lG mG nG oG pG qG rG sG tG uG vG wG xG yG zG aH bH cH dH eH fH gH hH iH jH kH lH mH nH oH pH qH rH sH tH uH vH wH xH yH zH aI bI cI dI eI fI gI hI iI jI kI lI mI nI oI pI qI rI sI tI uI vI wI xI yI zI aJ bJ cJ dJ eJ fJ gJ hJ iJ jJ kJ : Value) (H : Heap) (X : List (Nat × Nat × Nat)) : grpKD Tryz.prog (run Tryz.prog k) (ropsC C6rrrrrrrrlrllrllrrrrrrl) (befores (ropsC C6rrrrrrrrlrllrllrrrrrrl).toList []) (idxs (ropsC C6rrrrrrrrlrllrllrrrrrrl).toList) ((grpsD (idxs (ropsC C6rrrrrrrrlrllrllrrrrrrl).toList)).drop 2) #[x0,x1,x2,x3,x4,x5,x6,x7,x8,x9,kA,lA,mA,nA,oA,pA,qA,rA,sA,tA,uA,vA,wA,xA,yA,zA,aB,bB,cB,dB,eB,fB,gB,hB,iB,jB,kB,lB,mB,nB,oB,pB,qB,rB,sB,tB,uB,vB,wB,xB,yB,zB,aC,bC,cC,dC,eC,fC,gC,hC,iC,jC,kC,lC,mC,nC,oC,pC,qC,rC,sC,tC,uC,vC,wC,xC,yC,zC,aD,bD,cD,dD,eD,fD,gD,hD,iD,jD,kD,lD,mD,nD,oD,pD,qD,rD,sD,tD,uD,vD,wD,xD,yD,zD,aE,bE,cE,dE,eE,fE,gE,hE,iE,jE,kE,lE,mE,nE,oE,pE,qE,rE,sE,tE,uE,vE,wE,xE,yE,zE,aF,bF,cF,dF,eF,fF,gF,hF,iF,jF,kF,lF,mF,nF,oF,pF,qF,rF,sF,tF,uF,vF,wF,xF,yF,zF,aG,bG,cG,dG,eG,fG,gG,hG,iG,jG,kG,lG,mG,nG,oG,pG,qG,rG,sG,tG,uG,vG,wG,xG,yG,zG,aH,bH,cH,dH,eH,fH,gH,hH,iH,jH,kH,lH,mH,nH,oH,pH,qH,rH,sH,tH,uH,vH,wH,xH,yH,zH,aI,bI,cI,dI,eI,fI,gI,hI,iI,jI,kI,lI,mI,nI,oI,pI,qI,rI,sI,tI,uI,vI,wI,xI,yI,zI,aJ,bJ,cJ,dJ,eJ,fJ,gJ,hJ,iJ,jJ,kJ] H X ((K6_19 k nrrrrrrrrlrl) .normal) = J6_10 k nxrrrrrrrrlrl x0 x1 x2 x9 kA lA mA vD jE H X := by
  refine Eq.trans (b :=
    (pPick vD jE (.bool false)).bind fun y114 =>
    condV y114
    (
      some ((.bool false), H))
    (
      denK Tryz.prog (run Tryz.prog k) k C6rrrrrrrrlrllrr (K6_16 k nrrrrrrrrlrl) #[x0,x1,x2,x3,x4,x5,x6,x7,x8,x9,kA,lA,mA,nA,oA,pA,qA,rA,sA,tA,uA,vA,wA,xA,yA,zA,aB,bB,cB,dB,eB,fB,gB,hB,iB,jB,kB,lB,mB,nB,oB,pB,qB,rB,sB,tB,uB,vB,wB,xB,yB,zB,aC,bC,cC,dC,eC,fC,gC,hC,iC,jC,kC,lC,mC,nC,oC,pC,qC,rC,sC,tC,uC,vC,wC,xC,yC,zC,aD,bD,cD,dD,eD,fD,gD,hD,iD,jD,kD,lD,mD,nD,oD,pD,qD,rD,sD,tD,uD,vD,wD,xD,yD,zD,aE,bE,cE,dE,eE,fE,gE,hE,iE,jE,y114,lE,mE,nE,oE,pE,qE,rE,sE,tE,uE,vE,wE,xE,yE,zE,aF,bF,cF,dF,eF,fF,gF,hF,iF,jF,kF,lF,mF,nF,oF,pF,qF,rF,sF,tF,uF,vF,wF,xF,yF,zF,aG,bG,cG,dG,eG,fG,gG,hG,iG,jG,kG,lG,mG,nG,oG,pG,qG,rG,sG,tG,uG,vG,wG,xG,yG,zG,aH,bH,cH,dH,eH,fH,gH,hH,iH,jH,kH,lH,mH,nH,oH,pH,qH,rH,sH,tH,uH,vH,wH,xH,yH,zH,aI,bI,cI,dI,eI,fI,gI,hI,iI,jI,kI,lI,mI,nI,oI,pI,qI,rI,sI,tI,uI,vI,wI,xI,yI,zI,aJ,bJ,cJ,dJ,eJ,fJ,gJ,hJ,iJ,jJ,kJ] H)) (by kernel_rfl) ?_
  simp only [TJ6_9 k nrrrrrrrrlrl nxrrrrrrrrlrl hrrrrrrrrlrl]
  rfl
set_option maxRecDepth 100000 in
theorem TL6_11 (k : Nat) : ∀ (n : Nat) (x0 x1 x2 x3 x4 x5 x6 x7 x8 x9 kA lA mA nA oA pA qA rA sA tA uA vA wA xA yA zA aB bB cB dB eB fB gB hB iB jB kB lB mB nB oB pB qB rB sB tB uB vB wB xB yB zB aC bC cC dC eC fC gC hC iC jC kC lC mC nC oC pC qC rC sC tC uC vC wC xC yC zC aD bD cD dD eD fD gD hD iD jD kD lD mD nD oD pD qD rD sD tD uD vD wD xD yD zD aE bE cE dE eE fE gE hE iE jE kE lE mE nE oE pE qE rE sE tE uE vE wE xE yE zE aF bF cF dF eF fF gF hF iF jF kF lF mF nF oF pF qF rF sF tF uF vF wF xF yF zF aG bG cG dG eG fG gG hG iG jG kG lG mG nG oG pG qG rG sG tG uG vG wG xG yG zG aH bH cH dH eH fH gH hH iH jH kH lH mH nH oH pH qH rH sH tH uH vH wH xH yH zH aI bI cI dI eI fI gI hI iI jI kI lI mI nI oI pI qI rI sI tI uI vI wI xI yI zI aJ bJ cJ dJ eJ fJ gJ hJ iJ jJ kJ : Value) (H : Heap), iterK (denK Tryz.prog (run Tryz.prog k) k C6rrrrrrrrlrll) (K6_15 k) n #[x0,x1,x2,x3,x4,x5,x6,x7,x8,x9,kA,lA,mA,nA,oA,pA,qA,rA,sA,tA,uA,vA,wA,xA,yA,zA,aB,bB,cB,dB,eB,fB,gB,hB,iB,jB,kB,lB,mB,nB,oB,pB,qB,rB,sB,tB,uB,vB,wB,xB,yB,zB,aC,bC,cC,dC,eC,fC,gC,hC,iC,jC,kC,lC,mC,nC,oC,pC,qC,rC,sC,tC,uC,vC,wC,xC,yC,zC,aD,bD,cD,dD,eD,fD,gD,hD,iD,jD,kD,lD,mD,nD,oD,pD,qD,rD,sD,tD,uD,vD,wD,xD,yD,zD,aE,bE,cE,dE,eE,fE,gE,hE,iE,jE,kE,lE,mE,nE,oE,pE,qE,rE,sE,tE,uE,vE,wE,xE,yE,zE,aF,bF,cF,dF,eF,fF,gF,hF,iF,jF,kF,lF,mF,nF,oF,pF,qF,rF,sF,tF,uF,vF,wF,xF,yF,zF,aG,bG,cG,dG,eG,fG,gG,hG,iG,jG,kG,lG,mG,nG,oG,pG,qG,rG,sG,tG,uG,vG,wG,xG,yG,zG,aH,bH,cH,dH,eH,fH,gH,hH,iH,jH,kH,lH,mH,nH,oH,pH,qH,rH,sH,tH,uH,vH,wH,xH,yH,zH,aI,bI,cI,dI,eI,fI,gI,hI,iI,jI,kI,lI,mI,nI,oI,pI,qI,rI,sI,tI,uI,vI,wI,xI,yI,zI,aJ,bJ,cJ,dJ,eJ,fJ,gJ,hJ,iJ,jJ,kJ] H = L6_11 k n x0 x1 x2 x9 kA lA mA H := by
  intro n
  induction n with
  | zero => intros; rfl
  | succ n ih =>
    intro x0 x1 x2 x3 x4 x5 x6 x7 x8 x9 kA lA mA nA oA pA qA rA sA tA uA vA wA xA yA zA aB bB cB dB eB fB gB hB iB jB kB lB mB nB oB pB qB rB sB tB uB vB wB xB yB zB aC bC cC dC eC fC gC hC iC jC kC lC mC nC oC pC qC rC sC tC uC vC wC xC yC zC aD bD cD dD eD fD gD hD iD jD kD lD mD nD oD pD qD rD sD tD uD vD wD xD yD zD aE bE cE dE eE fE gE hE iE jE kE lE mE nE oE pE qE rE sE tE uE vE wE xE yE zE aF bF cF dF eF fF gF hF iF jF kF lF mF nF oF pF qF rF sF tF uF vF wF xF yF zF aG bG cG dG eG fG gG hG iG jG kG lG mG nG oG pG qG rG sG tG uG vG wG xG yG zG aH bH cH dH eH fH gH hH iH jH kH lH mH nH oH pH qH rH sH tH uH vH wH xH yH zH aI bI cI dI eI fI gI hI iI jI kI lI mI nI oI pI qI rI sI tI uI vI wI xI yI zI aJ bJ cJ dJ eJ fJ gJ hJ iJ jJ kJ H
    refine Eq.trans (b :=
    bindM (lenSl x1) H fun y61 H_1 =>
    (binI .lss mA y61).bind fun y62 =>
    condV y62
    (
      (idxSl 1 x1 mA).bind fun y67 =>
      (ldV false 1 y67 H_1).bind fun y68 =>
      (binI .and y68 (.int .i64 3)).bind fun y69 =>
      (binI .add (.int .i64 1) y69).bind fun y70 =>
      (binI .add (.int .i64 48) mA).bind fun y73 =>
      bindM (convI .u8 y73) H_1 fun y74 H_2 =>
      bindP (pBuildSlice Tryz.prog 57 1 [(0, y74)] H_2) fun y75 H_3 =>
      bindM (convBS y75 H_3) H_3 fun y76 H_4 =>
      (binS .add (.string ⟨#[118]⟩) y76).bind fun y77 =>
      bindP (run Tryz.prog k 27 #[x9,y77,y70] H_4) fun y79 H_5 =>
      (binI .eql y79 (.int .i64 0)).bind fun y81 =>
      (binI .leq y70 kA).bind fun y84 =>
      (binE Tryz.prog .neq 4 false y81 y84).bind fun y85 =>
      condV y85
      (
        some ((.bool false), H_5))
      (
        (binI .neq y79 (.int .i64 0)).bind fun y87 =>
        condV y87
        (
          denK Tryz.prog (run Tryz.prog k) k C6rrrrrrrrlrllrr (K6_16 k n) #[x0,x1,x2,x3,x4,x5,x6,x7,x8,x9,kA,lA,mA,y70,y79,pA,qA,rA,sA,tA,uA,vA,wA,xA,yA,zA,aB,bB,cB,dB,eB,fB,gB,hB,iB,jB,kB,lB,mB,nB,oB,pB,qB,rB,sB,tB,uB,vB,wB,xB,yB,zB,aC,bC,cC,dC,eC,fC,gC,mA,x1,y61,y62,lC,mC,x1,mA,y67,y68,y69,y70,x9,mA,y73,y74,y75,y76,y77,y70,y79,y79,y81,y70,kA,y84,y85,y79,y87,kD,lD,mD,nD,oD,pD,qD,rD,sD,tD,uD,vD,wD,xD,yD,zD,aE,bE,cE,dE,eE,fE,gE,hE,iE,jE,kE,lE,mE,nE,oE,pE,qE,rE,sE,tE,uE,vE,wE,xE,yE,zE,aF,bF,cF,dF,eF,fF,gF,hF,iF,jF,kF,lF,mF,nF,oF,pF,qF,rF,sF,tF,uF,vF,wF,xF,yF,zF,aG,bG,cG,dG,eG,fG,gG,hG,iG,jG,kG,lG,mG,nG,oG,pG,qG,rG,sG,tG,uG,vG,wG,xG,yG,zG,aH,bH,cH,dH,eH,fH,gH,hH,iH,jH,kH,lH,mH,nH,oH,pH,qH,rH,sH,tH,uH,vH,wH,xH,yH,zH,aI,bI,cI,dI,eI,fI,gI,hI,iI,jI,kI,lI,mI,nI,oI,pI,qI,rI,sI,tI,uI,vI,wI,xI,yI,zI,aJ,bJ,cJ,dJ,eJ,fJ,gJ,hJ,iJ,jJ,kJ] H_5)
        (
          (binI .sub kA y70).bind fun y90 =>
          bindP (pBuildSlice Tryz.prog 54 1 [(0, mA)] H_5) fun y93 H_6 =>
          bindP (appendSl 3 1 8 lA y93 H_6) fun y94 H_7 =>
          bindM (lenSl x2) H_7 fun y97 _ =>
          (binI .lss mA y97).bind fun y98 =>
          condG y98 true
          (
            (binI .add (.int .i64 48) mA).bind fun y102 =>
            bindM (convI .u8 y102) H_7 fun y103 _ =>
            bindP (pBuildSlice Tryz.prog 57 1 [(0, y103)] H_7) fun y104 H_8 =>
            bindM (convBS y104 H_8) H_8 fun y105 _ =>
            (binS .add (.string ⟨#[118]⟩) y105).bind fun y106 =>
            (idxSl 1 x2 mA).bind fun y110 =>
            (ldV false 1 y110 (hides H_8 [(H_7.next, H_8.next)])).bind fun y111 =>
            bindP (run Tryz.prog k 26 #[x9,y106,(.int .i64 0),y70,y111] H_8) fun y112 H_9 =>
            (binI .neq y112 (.int .i64 0)).bind fun y113 =>
            grpKD Tryz.prog (run Tryz.prog k) (ropsC C6rrrrrrrrlrllrllrrrrrrl) (befores (ropsC C6rrrrrrrrlrllrllrrrrrrl).toList []) (idxs (ropsC C6rrrrrrrrlrllrllrrrrrrl).toList) ((grpsD (idxs (ropsC C6rrrrrrrrlrllrllrrrrrrl).toList)).drop 2) #[x0,x1,x2,x3,x4,x5,x6,x7,x8,x9,y90,y94,mA,y70,y79,pA,qA,rA,sA,tA,uA,vA,wA,xA,yA,zA,aB,bB,cB,dB,eB,fB,gB,hB,iB,jB,kB,lB,mB,nB,oB,pB,qB,rB,sB,tB,uB,vB,wB,xB,yB,zB,aC,bC,cC,dC,eC,fC,gC,mA,x1,y61,y62,lC,mC,x1,mA,y67,y68,y69,y70,x9,mA,y73,y74,y75,y76,y77,y70,y79,y79,y81,y70,kA,y84,y85,y79,y87,kA,y70,y90,lA,mA,y93,y94,mA,x2,y97,y98,y98,x9,mA,y102,y103,y104,y105,y106,y70,x2,mA,y110,y111,y112,y113,kE,lE,mE,nE,oE,pE,qE,rE,sE,tE,uE,vE,wE,xE,yE,zE,aF,bF,cF,dF,eF,fF,gF,hF,iF,jF,kF,lF,mF,nF,oF,pF,qF,rF,sF,tF,uF,vF,wF,xF,yF,zF,aG,bG,cG,dG,eG,fG,gG,hG,iG,jG,kG,lG,mG,nG,oG,pG,qG,rG,sG,tG,uG,vG,wG,xG,yG,zG,aH,bH,cH,dH,eH,fH,gH,hH,iH,jH,kH,lH,mH,nH,oH,pH,qH,rH,sH,tH,uH,vH,wH,xH,yH,zH,aI,bI,cI,dI,eI,fI,gI,hI,iI,jI,kI,lI,mI,nI,oI,pI,qI,rI,sI,tI,uI,vI,wI,xI,yI,zI,aJ,bJ,cJ,dJ,eJ,fJ,gJ,hJ,iJ,jJ,kJ] H_9 [] ((K6_19 k n) .normal))
          (
            grpKD Tryz.prog (run Tryz.prog k) (ropsC C6rrrrrrrrlrllrllrrrrrrl) (befores (ropsC C6rrrrrrrrlrllrllrrrrrrl).toList []) (idxs (ropsC C6rrrrrrrrlrllrllrrrrrrl).toList) ((grpsD (idxs (ropsC C6rrrrrrrrlrllrllrrrrrrl).toList)).drop 2) #[x0,x1,x2,x3,x4,x5,x6,x7,x8,x9,y90,y94,mA,y70,y79,pA,qA,rA,sA,tA,uA,vA,wA,xA,yA,zA,aB,bB,cB,dB,eB,fB,gB,hB,iB,jB,kB,lB,mB,nB,oB,pB,qB,rB,sB,tB,uB,vB,wB,xB,yB,zB,aC,bC,cC,dC,eC,fC,gC,mA,x1,y61,y62,lC,mC,x1,mA,y67,y68,y69,y70,x9,mA,y73,y74,y75,y76,y77,y70,y79,y79,y81,y70,kA,y84,y85,y79,y87,kA,y70,y90,lA,mA,y93,y94,mA,x2,y97,y98,y98,undef,undef,undef,undef,undef,undef,undef,undef,undef,undef,undef,undef,undef,undef,kE,lE,mE,nE,oE,pE,qE,rE,sE,tE,uE,vE,wE,xE,yE,zE,aF,bF,cF,dF,eF,fF,gF,hF,iF,jF,kF,lF,mF,nF,oF,pF,qF,rF,sF,tF,uF,vF,wF,xF,yF,zF,aG,bG,cG,dG,eG,fG,gG,hG,iG,jG,kG,lG,mG,nG,oG,pG,qG,rG,sG,tG,uG,vG,wG,xG,yG,zG,aH,bH,cH,dH,eH,fH,gH,hH,iH,jH,kH,lH,mH,nH,oH,pH,qH,rH,sH,tH,uH,vH,wH,xH,yH,zH,aI,bI,cI,dI,eI,fI,gI,hI,iI,jI,kI,lI,mI,nI,oI,pI,qI,rI,sI,tI,uI,vI,wI,xI,yI,zI,aJ,bJ,cJ,dJ,eJ,fJ,gJ,hJ,iJ,jJ,kJ] H_7 [] ((K6_19 k n) .normal)))))
    (
      bindP (run Tryz.prog k 24 #[x9] H_1) fun y116 H_10 =>
      (binI .neq y116 kA).bind fun y118 =>
      condV y118
      (
        some ((.bool false), H_10))
      (
        iterK (denK Tryz.prog (run Tryz.prog k) k C6rrrrrrrrrrlrll) (K6_4 k) k #[x0,x1,x2,x3,x4,x5,x6,x7,x8,x9,kA,lA,mA,nA,oA,(.int .i64 0),qA,rA,sA,tA,uA,vA,wA,xA,yA,zA,aB,bB,cB,dB,eB,fB,gB,hB,iB,jB,kB,lB,mB,nB,oB,pB,qB,rB,sB,tB,uB,vB,wB,xB,yB,zB,aC,bC,cC,dC,eC,fC,gC,mA,x1,y61,y62,lC,mC,nC,oC,pC,qC,rC,sC,tC,uC,vC,wC,xC,yC,zC,aD,bD,cD,dD,eD,fD,gD,hD,iD,jD,kD,lD,mD,nD,oD,pD,qD,rD,sD,tD,uD,vD,wD,xD,yD,zD,aE,bE,cE,dE,eE,fE,gE,hE,iE,jE,kE,x9,y116,kA,y118,pE,qE,rE,sE,tE,uE,vE,wE,xE,yE,zE,aF,bF,cF,dF,eF,fF,gF,hF,iF,jF,kF,lF,mF,nF,oF,pF,qF,rF,sF,tF,uF,vF,wF,xF,yF,zF,aG,bG,cG,dG,eG,fG,gG,hG,iG,jG,kG,lG,mG,nG,oG,pG,qG,rG,sG,tG,uG,vG,wG,xG,yG,zG,aH,bH,cH,dH,eH,fH,gH,hH,iH,jH,kH,lH,mH,nH,oH,pH,qH,rH,sH,tH,uH,vH,wH,xH,yH,zH,aI,bI,cI,dI,eI,fI,gI,hI,iI,jI,kI,lI,mI,nI,oI,pI,qI,rI,sI,tI,uI,vI,wI,xI,yI,zI,aJ,bJ,cJ,dJ,eJ,fJ,gJ,hJ,iJ,jJ,kJ] H_10))) (by kernel_rfl) ?_
    simp only [TL6_8 k, TJ6_10 k n (L6_11 k n) ih, TJ6_9 k n (L6_11 k n) ih]
    rfl
set_option maxRecDepth 100000 in
theorem TJ6_12 (k : Nat) (x0 x1 x2 x3 x4 x5 x6 x7 x8 x9 kA lA mA nA oA pA qA rA sA tA uA vA wA xA yA zA aB bB cB dB eB fB gB hB iB jB kB lB mB nB oB pB qB rB sB tB uB vB wB xB yB zB aC bC cC dC eC fC gC hC iC jC kC lC mC nC oC pC qC rC sC tC uC vC wC xC yC zC aD bD cD dD eD fD gD hD iD jD kD lD mD nD oD pD qD rD sD tD uD vD wD xD yD zD aE bE cE dE eE fE gE hE iE jE kE lE mE nE oE pE qE rE sE tE uE vE wE xE yE zE aF bF cF dF eF fF gF hF iF jF kF lF mF nF oF pF qF rF sF tF uF vF wF xF yF zF aG bG cG dG eG fG gG hG iG jG kG lG mG nG oG pG qG rG sG tG uG vG wG xG yG zG aH bH cH dH eH fH gH hH iH jH kH lH mH nH oH pH qH rH sH tH uH vH wH xH yH zH aI bI cI dI eI fI gI hI iI jI kI lI mI nI oI pI qI rI sI tI uI vI wI xI yI zI aJ bJ cJ dJ eJ fJ gJ hJ iJ jJ kJ : Value) (H : Heap) : grpK Tryz.prog (run Tryz.prog k) (ropsC C6rrrll) ((grps (ropsC C6rrrll).toList).drop 6) #[x0,x1,x2,x3,x4,x5,x6,x7,x8,x9,kA,lA,mA,nA,oA,pA,qA,rA,sA,tA,uA,vA,wA,xA,yA,zA,aB,bB,cB,dB,eB,fB,gB,hB,iB,jB,kB,lB,mB,nB,oB,pB,qB,rB,sB,tB,uB,vB,wB,xB,yB,zB,aC,bC,cC,dC,eC,fC,gC,hC,iC,jC,kC,lC,mC,nC,oC,pC,qC,rC,sC,tC,uC,vC,wC,xC,yC,zC,aD,bD,cD,dD,eD,fD,gD,hD,iD,jD,kD,lD,mD,nD,oD,pD,qD,rD,sD,tD,uD,vD,wD,xD,yD,zD,aE,bE,cE,dE,eE,fE,gE,hE,iE,jE,kE,lE,mE,nE,oE,pE,qE,rE,sE,tE,uE,vE,wE,xE,yE,zE,aF,bF,cF,dF,eF,fF,gF,hF,iF,jF,kF,lF,mF,nF,oF,pF,qF,rF,sF,tF,uF,vF,wF,xF,yF,zF,aG,bG,cG,dG,eG,fG,gG,hG,iG,jG,kG,lG,mG,nG,oG,pG,qG,rG,sG,tG,uG,vG,wG,xG,yG,zG,aH,bH,cH,dH,eH,fH,gH,hH,iH,jH,kH,lH,mH,nH,oH,pH,qH,rH,sH,tH,uH,vH,wH,xH,yH,zH,aI,bI,cI,dI,eI,fI,gI,hI,iI,jI,kI,lI,mI,nI,oI,pI,qI,rI,sI,tI,uI,vI,wI,xI,yI,zI,aJ,bJ,cJ,dJ,eJ,fJ,gJ,hJ,iJ,jJ,kJ] H ((K6_21 k) .normal) = J6_12 k x0 x1 x2 x7 sB vB H := by
  refine Eq.trans (b :=
    (pPick sB (.bool true) vB).bind fun y48 =>
    condV y48
    (
      some ((.bool true), H))
    (
      bindP (run Tryz.prog k 17 #[(.iface 25 x7)] H) fun y52 H_1 =>
      (pExtract y52 0).bind fun y53 =>
      (pExtract y52 1).bind fun y54 =>
      (binI .neq y54 (.int .i64 0)).bind fun y56 =>
      condV y56
      (
        some ((.bool false), H_1))
      (
        (binI .sub x0 (.int .i64 8)).bind fun y58 =>
        iterK (denK Tryz.prog (run Tryz.prog k) k C6rrrrrrrrlrll) (K6_15 k) k #[x0,x1,x2,x3,x4,x5,x6,x7,y54,y53,y58,(.slice none 0 0),(.int .i64 0),nA,oA,pA,qA,rA,sA,tA,uA,vA,wA,xA,yA,zA,aB,bB,cB,dB,eB,fB,gB,hB,iB,jB,kB,lB,mB,nB,oB,pB,qB,rB,sB,tB,uB,vB,y48,y52,x7,(.iface 25 x7),y52,y53,y54,y54,y56,x0,y58,hC,iC,jC,kC,lC,mC,nC,oC,pC,qC,rC,sC,tC,uC,vC,wC,xC,yC,zC,aD,bD,cD,dD,eD,fD,gD,hD,iD,jD,kD,lD,mD,nD,oD,pD,qD,rD,sD,tD,uD,vD,wD,xD,yD,zD,aE,bE,cE,dE,eE,fE,gE,hE,iE,jE,kE,lE,mE,nE,oE,pE,qE,rE,sE,tE,uE,vE,wE,xE,yE,zE,aF,bF,cF,dF,eF,fF,gF,hF,iF,jF,kF,lF,mF,nF,oF,pF,qF,rF,sF,tF,uF,vF,wF,xF,yF,zF,aG,bG,cG,dG,eG,fG,gG,hG,iG,jG,kG,lG,mG,nG,oG,pG,qG,rG,sG,tG,uG,vG,wG,xG,yG,zG,aH,bH,cH,dH,eH,fH,gH,hH,iH,jH,kH,lH,mH,nH,oH,pH,qH,rH,sH,tH,uH,vH,wH,xH,yH,zH,aI,bI,cI,dI,eI,fI,gI,hI,iI,jI,kI,lI,mI,nI,oI,pI,qI,rI,sI,tI,uI,vI,wI,xI,yI,zI,aJ,bJ,cJ,dJ,eJ,fJ,gJ,hJ,iJ,jJ,kJ] H_1))) (by kernel_rfl) ?_
  simp only [TL6_11 k]
  rfl
set_option maxRecDepth 100000 in
theorem TJ6_13 (k : Nat) (x0 x1 x2 x3 x4 x5 x6 x7 x8 x9 kA lA mA nA oA pA qA rA sA tA uA vA wA xA yA zA aB bB cB dB eB fB gB hB iB jB kB lB mB nB oB pB qB rB sB tB uB vB wB xB yB zB aC bC cC dC eC fC gC hC iC jC kC lC mC nC oC pC qC rC sC tC uC vC wC xC yC zC aD bD cD dD eD fD gD hD iD jD kD lD mD nD oD pD qD rD sD tD uD vD wD xD yD zD aE bE cE dE eE fE gE hE iE jE kE lE mE nE oE pE qE rE sE tE uE vE wE xE yE zE aF bF cF dF eF fF gF hF iF jF kF lF mF nF oF pF qF rF sF tF uF vF wF xF yF zF aG bG cG dG eG fG gG hG iG jG kG lG mG nG oG pG qG rG sG tG uG vG wG xG yG zG aH bH cH dH eH fH gH hH iH jH kH lH mH nH oH pH qH rH sH tH uH vH wH xH yH zH aI bI cI dI eI fI gI hI iI jI kI lI mI nI oI pI qI rI sI tI uI vI wI xI yI zI aJ bJ cJ dJ eJ fJ gJ hJ iJ jJ kJ : Value) (H : Heap) : grpK Tryz.prog (run Tryz.prog k) (ropsC C6rrrll) ((grps (ropsC C6rrrll).toList).drop 4) #[x0,x1,x2,x3,x4,x5,x6,x7,x8,x9,kA,lA,mA,nA,oA,pA,qA,rA,sA,tA,uA,vA,wA,xA,yA,zA,aB,bB,cB,dB,eB,fB,gB,hB,iB,jB,kB,lB,mB,nB,oB,pB,qB,rB,sB,tB,uB,vB,wB,xB,yB,zB,aC,bC,cC,dC,eC,fC,gC,hC,iC,jC,kC,lC,mC,nC,oC,pC,qC,rC,sC,tC,uC,vC,wC,xC,yC,zC,aD,bD,cD,dD,eD,fD,gD,hD,iD,jD,kD,lD,mD,nD,oD,pD,qD,rD,sD,tD,uD,vD,wD,xD,yD,zD,aE,bE,cE,dE,eE,fE,gE,hE,iE,jE,kE,lE,mE,nE,oE,pE,qE,rE,sE,tE,uE,vE,wE,xE,yE,zE,aF,bF,cF,dF,eF,fF,gF,hF,iF,jF,kF,lF,mF,nF,oF,pF,qF,rF,sF,tF,uF,vF,wF,xF,yF,zF,aG,bG,cG,dG,eG,fG,gG,hG,iG,jG,kG,lG,mG,nG,oG,pG,qG,rG,sG,tG,uG,vG,wG,xG,yG,zG,aH,bH,cH,dH,eH,fH,gH,hH,iH,jH,kH,lH,mH,nH,oH,pH,qH,rH,sH,tH,uH,vH,wH,xH,yH,zH,aI,bI,cI,dI,eI,fI,gI,hI,iI,jI,kI,lI,mI,nI,oI,pI,qI,rI,sI,tI,uI,vI,wI,xI,yI,zI,aJ,bJ,cJ,dJ,eJ,fJ,gJ,hJ,iJ,jJ,kJ] H ((K6_21 k) .normal) = J6_13 k x0 x1 x2 x7 oB qB H := by
  refine Eq.trans (b :=
    (pPick oB (.bool true) qB).bind fun y43 =>
    condG y43 false
    (
      bindM (lenSl x1) H fun y46 H_1 =>
      (binI .gtr y46 (.int .i64 6)).bind fun y47 =>
      grpK Tryz.prog (run Tryz.prog k) (ropsC C6rrrll) ((grps (ropsC C6rrrll).toList).drop 6) #[x0,x1,x2,x3,x4,x5,x6,x7,x8,x9,kA,lA,mA,nA,oA,pA,qA,rA,sA,tA,uA,vA,wA,xA,yA,zA,aB,bB,cB,dB,eB,fB,gB,hB,iB,jB,kB,lB,mB,nB,oB,pB,qB,y43,y43,x1,y46,y47,wB,xB,yB,zB,aC,bC,cC,dC,eC,fC,gC,hC,iC,jC,kC,lC,mC,nC,oC,pC,qC,rC,sC,tC,uC,vC,wC,xC,yC,zC,aD,bD,cD,dD,eD,fD,gD,hD,iD,jD,kD,lD,mD,nD,oD,pD,qD,rD,sD,tD,uD,vD,wD,xD,yD,zD,aE,bE,cE,dE,eE,fE,gE,hE,iE,jE,kE,lE,mE,nE,oE,pE,qE,rE,sE,tE,uE,vE,wE,xE,yE,zE,aF,bF,cF,dF,eF,fF,gF,hF,iF,jF,kF,lF,mF,nF,oF,pF,qF,rF,sF,tF,uF,vF,wF,xF,yF,zF,aG,bG,cG,dG,eG,fG,gG,hG,iG,jG,kG,lG,mG,nG,oG,pG,qG,rG,sG,tG,uG,vG,wG,xG,yG,zG,aH,bH,cH,dH,eH,fH,gH,hH,iH,jH,kH,lH,mH,nH,oH,pH,qH,rH,sH,tH,uH,vH,wH,xH,yH,zH,aI,bI,cI,dI,eI,fI,gI,hI,iI,jI,kI,lI,mI,nI,oI,pI,qI,rI,sI,tI,uI,vI,wI,xI,yI,zI,aJ,bJ,cJ,dJ,eJ,fJ,gJ,hJ,iJ,jJ,kJ] H_1 ((K6_21 k) .normal))
    (
      grpK Tryz.prog (run Tryz.prog k) (ropsC C6rrrll) ((grps (ropsC C6rrrll).toList).drop 6) #[x0,x1,x2,x3,x4,x5,x6,x7,x8,x9,kA,lA,mA,nA,oA,pA,qA,rA,sA,tA,uA,vA,wA,xA,yA,zA,aB,bB,cB,dB,eB,fB,gB,hB,iB,jB,kB,lB,mB,nB,oB,pB,qB,y43,y43,undef,undef,undef,wB,xB,yB,zB,aC,bC,cC,dC,eC,fC,gC,hC,iC,jC,kC,lC,mC,nC,oC,pC,qC,rC,sC,tC,uC,vC,wC,xC,yC,zC,aD,bD,cD,dD,eD,fD,gD,hD,iD,jD,kD,lD,mD,nD,oD,pD,qD,rD,sD,tD,uD,vD,wD,xD,yD,zD,aE,bE,cE,dE,eE,fE,gE,hE,iE,jE,kE,lE,mE,nE,oE,pE,qE,rE,sE,tE,uE,vE,wE,xE,yE,zE,aF,bF,cF,dF,eF,fF,gF,hF,iF,jF,kF,lF,mF,nF,oF,pF,qF,rF,sF,tF,uF,vF,wF,xF,yF,zF,aG,bG,cG,dG,eG,fG,gG,hG,iG,jG,kG,lG,mG,nG,oG,pG,qG,rG,sG,tG,uG,vG,wG,xG,yG,zG,aH,bH,cH,dH,eH,fH,gH,hH,iH,jH,kH,lH,mH,nH,oH,pH,qH,rH,sH,tH,uH,vH,wH,xH,yH,zH,aI,bI,cI,dI,eI,fI,gI,hI,iI,jI,kI,lI,mI,nI,oI,pI,qI,rI,sI,tI,uI,vI,wI,xI,yI,zI,aJ,bJ,cJ,dJ,eJ,fJ,gJ,hJ,iJ,jJ,kJ] H ((K6_21 k) .normal))) (by kernel_rfl) ?_
  simp only [TJ6_12 k]
  rfl
set_option maxRecDepth 100000 in
theorem TJ6_14 (k : Nat) (x0 x1 x2 x3 x4 x5 x6 x7 x8 x9 kA lA mA nA oA pA qA rA sA tA uA vA wA xA yA zA aB bB cB dB eB fB gB hB iB jB kB lB mB nB oB pB qB rB sB tB uB vB wB xB yB zB aC bC cC dC eC fC gC hC iC jC kC lC mC nC oC pC qC rC sC tC uC vC wC xC yC zC aD bD cD dD eD fD gD hD iD jD kD lD mD nD oD pD qD rD sD tD uD vD wD xD yD zD aE bE cE dE eE fE gE hE iE jE kE lE mE nE oE pE qE rE sE tE uE vE wE xE yE zE aF bF cF dF eF fF gF hF iF jF kF lF mF nF oF pF qF rF sF tF uF vF wF xF yF zF aG bG cG dG eG fG gG hG iG jG kG lG mG nG oG pG qG rG sG tG uG vG wG xG yG zG aH bH cH dH eH fH gH hH iH jH kH lH mH nH oH pH qH rH sH tH uH vH wH xH yH zH aI bI cI dI eI fI gI hI iI jI kI lI mI nI oI pI qI rI sI tI uI vI wI xI yI zI aJ bJ cJ dJ eJ fJ gJ hJ iJ jJ kJ : Value) (H : Heap) : grpK Tryz.prog (run Tryz.prog k) (ropsC C6rrrll) ((grps (ropsC C6rrrll).toList).drop 2) #[x0,x1,x2,x3,x4,x5,x6,x7,x8,x9,kA,lA,mA,nA,oA,pA,qA,rA,sA,tA,uA,vA,wA,xA,yA,zA,aB,bB,cB,dB,eB,fB,gB,hB,iB,jB,kB,lB,mB,nB,oB,pB,qB,rB,sB,tB,uB,vB,wB,xB,yB,zB,aC,bC,cC,dC,eC,fC,gC,hC,iC,jC,kC,lC,mC,nC,oC,pC,qC,rC,sC,tC,uC,vC,wC,xC,yC,zC,aD,bD,cD,dD,eD,fD,gD,hD,iD,jD,kD,lD,mD,nD,oD,pD,qD,rD,sD,tD,uD,vD,wD,xD,yD,zD,aE,bE,cE,dE,eE,fE,gE,hE,iE,jE,kE,lE,mE,nE,oE,pE,qE,rE,sE,tE,uE,vE,wE,xE,yE,zE,aF,bF,cF,dF,eF,fF,gF,hF,iF,jF,kF,lF,mF,nF,oF,pF,qF,rF,sF,tF,uF,vF,wF,xF,yF,zF,aG,bG,cG,dG,eG,fG,gG,hG,iG,jG,kG,lG,mG,nG,oG,pG,qG,rG,sG,tG,uG,vG,wG,xG,yG,zG,aH,bH,cH,dH,eH,fH,gH,hH,iH,jH,kH,lH,mH,nH,oH,pH,qH,rH,sH,tH,uH,vH,wH,xH,yH,zH,aI,bI,cI,dI,eI,fI,gI,hI,iI,jI,kI,lI,mI,nI,oI,pI,qI,rI,sI,tI,uI,vI,wI,xI,yI,zI,aJ,bJ,cJ,dJ,eJ,fJ,gJ,hJ,iJ,jJ,kJ] H ((K6_21 k) .normal) = J6_14 k x0 x1 x2 x7 kB mB H := by
  refine Eq.trans (b :=
    (pPick kB (.bool true) mB).bind fun y39 =>
    condG y39 false
    (
      (binI .gtr x0 (.int .i64 64)).bind fun y42 =>
      grpK Tryz.prog (run Tryz.prog k) (ropsC C6rrrll) ((grps (ropsC C6rrrll).toList).drop 4) #[x0,x1,x2,x3,x4,x5,x6,x7,x8,x9,kA,lA,mA,nA,oA,pA,qA,rA,sA,tA,uA,vA,wA,xA,yA,zA,aB,bB,cB,dB,eB,fB,gB,hB,iB,jB,kB,lB,mB,y39,y39,x0,y42,rB,sB,tB,uB,vB,wB,xB,yB,zB,aC,bC,cC,dC,eC,fC,gC,hC,iC,jC,kC,lC,mC,nC,oC,pC,qC,rC,sC,tC,uC,vC,wC,xC,yC,zC,aD,bD,cD,dD,eD,fD,gD,hD,iD,jD,kD,lD,mD,nD,oD,pD,qD,rD,sD,tD,uD,vD,wD,xD,yD,zD,aE,bE,cE,dE,eE,fE,gE,hE,iE,jE,kE,lE,mE,nE,oE,pE,qE,rE,sE,tE,uE,vE,wE,xE,yE,zE,aF,bF,cF,dF,eF,fF,gF,hF,iF,jF,kF,lF,mF,nF,oF,pF,qF,rF,sF,tF,uF,vF,wF,xF,yF,zF,aG,bG,cG,dG,eG,fG,gG,hG,iG,jG,kG,lG,mG,nG,oG,pG,qG,rG,sG,tG,uG,vG,wG,xG,yG,zG,aH,bH,cH,dH,eH,fH,gH,hH,iH,jH,kH,lH,mH,nH,oH,pH,qH,rH,sH,tH,uH,vH,wH,xH,yH,zH,aI,bI,cI,dI,eI,fI,gI,hI,iI,jI,kI,lI,mI,nI,oI,pI,qI,rI,sI,tI,uI,vI,wI,xI,yI,zI,aJ,bJ,cJ,dJ,eJ,fJ,gJ,hJ,iJ,jJ,kJ] H ((K6_21 k) .normal))
    (
      grpK Tryz.prog (run Tryz.prog k) (ropsC C6rrrll) ((grps (ropsC C6rrrll).toList).drop 4) #[x0,x1,x2,x3,x4,x5,x6,x7,x8,x9,kA,lA,mA,nA,oA,pA,qA,rA,sA,tA,uA,vA,wA,xA,yA,zA,aB,bB,cB,dB,eB,fB,gB,hB,iB,jB,kB,lB,mB,y39,y39,undef,undef,rB,sB,tB,uB,vB,wB,xB,yB,zB,aC,bC,cC,dC,eC,fC,gC,hC,iC,jC,kC,lC,mC,nC,oC,pC,qC,rC,sC,tC,uC,vC,wC,xC,yC,zC,aD,bD,cD,dD,eD,fD,gD,hD,iD,jD,kD,lD,mD,nD,oD,pD,qD,rD,sD,tD,uD,vD,wD,xD,yD,zD,aE,bE,cE,dE,eE,fE,gE,hE,iE,jE,kE,lE,mE,nE,oE,pE,qE,rE,sE,tE,uE,vE,wE,xE,yE,zE,aF,bF,cF,dF,eF,fF,gF,hF,iF,jF,kF,lF,mF,nF,oF,pF,qF,rF,sF,tF,uF,vF,wF,xF,yF,zF,aG,bG,cG,dG,eG,fG,gG,hG,iG,jG,kG,lG,mG,nG,oG,pG,qG,rG,sG,tG,uG,vG,wG,xG,yG,zG,aH,bH,cH,dH,eH,fH,gH,hH,iH,jH,kH,lH,mH,nH,oH,pH,qH,rH,sH,tH,uH,vH,wH,xH,yH,zH,aI,bI,cI,dI,eI,fI,gI,hI,iI,jI,kI,lI,mI,nI,oI,pI,qI,rI,sI,tI,uI,vI,wI,xI,yI,zI,aJ,bJ,cJ,dJ,eJ,fJ,gJ,hJ,iJ,jJ,kJ] H ((K6_21 k) .normal))) (by kernel_rfl) ?_
  simp only [TJ6_13 k]
  rfl
set_option maxRecDepth 100000 in
theorem TF6 (k : Nat) (x0 x1 x2 x3 x4 x5 x6 x7 x8 x9 kA lA mA nA oA pA qA rA sA tA uA vA wA xA yA zA aB bB cB dB eB fB gB hB iB jB kB lB mB nB oB pB qB rB sB tB uB vB wB xB yB zB aC bC cC dC eC fC gC hC iC jC kC lC mC nC oC pC qC rC sC tC uC vC wC xC yC zC aD bD cD dD eD fD gD hD iD jD kD lD mD nD oD pD qD rD sD tD uD vD wD xD yD zD aE bE cE dE eE fE gE hE iE jE kE lE mE nE oE pE qE rE sE tE uE vE wE xE yE zE aF bF cF dF eF fF gF hF iF jF kF lF mF nF oF pF qF rF sF tF uF vF wF xF yF zF aG bG cG dG eG fG gG hG iG jG kG lG mG nG oG pG qG rG sG tG uG vG wG xG yG zG aH bH cH dH eH fH gH hH iH jH kH lH mH nH oH pH qH rH sH tH uH vH wH xH yH zH aI bI cI dI eI fI gI hI iI jI kI lI mI nI oI pI qI rI sI tI uI vI wI xI yI zI aJ bJ cJ dJ eJ fJ gJ hJ iJ jJ kJ : Value) (H : Heap) : denK Tryz.prog (run Tryz.prog k) k C6l (K6_22 k) #[x0,x1,x2,x3,x4,x5,x6,x7,x8,x9,kA,lA,mA,nA,oA,pA,qA,rA,sA,tA,uA,vA,wA,xA,yA,zA,aB,bB,cB,dB,eB,fB,gB,hB,iB,jB,kB,lB,mB,nB,oB,pB,qB,rB,sB,tB,uB,vB,wB,xB,yB,zB,aC,bC,cC,dC,eC,fC,gC,hC,iC,jC,kC,lC,mC,nC,oC,pC,qC,rC,sC,tC,uC,vC,wC,xC,yC,zC,aD,bD,cD,dD,eD,fD,gD,hD,iD,jD,kD,lD,mD,nD,oD,pD,qD,rD,sD,tD,uD,vD,wD,xD,yD,zD,aE,bE,cE,dE,eE,fE,gE,hE,iE,jE,kE,lE,mE,nE,oE,pE,qE,rE,sE,tE,uE,vE,wE,xE,yE,zE,aF,bF,cF,dF,eF,fF,gF,hF,iF,jF,kF,lF,mF,nF,oF,pF,qF,rF,sF,tF,uF,vF,wF,xF,yF,zF,aG,bG,cG,dG,eG,fG,gG,hG,iG,jG,kG,lG,mG,nG,oG,pG,qG,rG,sG,tG,uG,vG,wG,xG,yG,zG,aH,bH,cH,dH,eH,fH,gH,hH,iH,jH,kH,lH,mH,nH,oH,pH,qH,rH,sH,tH,uH,vH,wH,xH,yH,zH,aI,bI,cI,dI,eI,fI,gI,hI,iI,jI,kI,lI,mI,nI,oI,pI,qI,rI,sI,tI,uI,vI,wI,xI,yI,zI,aJ,bJ,cJ,dJ,eJ,fJ,gJ,hJ,iJ,jJ,kJ] H = F6 k x0 x1 x2 H := by
  refine Eq.trans (b :=
    bindP (run Tryz.prog k 10 #[] H) fun y27 H_1 =>
    (pUn .not y27).bind fun y28 =>
    condV y28
    (
      some ((.bool false), H_1))
    (
      bindP (run Tryz.prog k 13 #[x0] H_1) fun y31 H_2 =>
      (pExtract y31 0).bind fun y32 =>
      (pExtract y31 1).bind fun y33 =>
      (binI .neq y33 (.int .i64 0)).bind fun y35 =>
      condG y35 false
      (
        (binI .lss x0 (.int .i64 9)).bind fun y38 =>
        grpK Tryz.prog (run Tryz.prog k) (ropsC C6rrrll) ((grps (ropsC C6rrrll).toList).drop 2) #[x0,x1,x2,x3,x4,x5,(.bool false),y32,y33,x9,kA,lA,mA,nA,oA,pA,qA,rA,sA,tA,uA,vA,wA,xA,yA,zA,aB,y27,y28,y31,x0,y31,y32,y33,y33,y35,y35,x0,y38,nB,oB,pB,qB,rB,sB,tB,uB,vB,wB,xB,yB,zB,aC,bC,cC,dC,eC,fC,gC,hC,iC,jC,kC,lC,mC,nC,oC,pC,qC,rC,sC,tC,uC,vC,wC,xC,yC,zC,aD,bD,cD,dD,eD,fD,gD,hD,iD,jD,kD,lD,mD,nD,oD,pD,qD,rD,sD,tD,uD,vD,wD,xD,yD,zD,aE,bE,cE,dE,eE,fE,gE,hE,iE,jE,kE,lE,mE,nE,oE,pE,qE,rE,sE,tE,uE,vE,wE,xE,yE,zE,aF,bF,cF,dF,eF,fF,gF,hF,iF,jF,kF,lF,mF,nF,oF,pF,qF,rF,sF,tF,uF,vF,wF,xF,yF,zF,aG,bG,cG,dG,eG,fG,gG,hG,iG,jG,kG,lG,mG,nG,oG,pG,qG,rG,sG,tG,uG,vG,wG,xG,yG,zG,aH,bH,cH,dH,eH,fH,gH,hH,iH,jH,kH,lH,mH,nH,oH,pH,qH,rH,sH,tH,uH,vH,wH,xH,yH,zH,aI,bI,cI,dI,eI,fI,gI,hI,iI,jI,kI,lI,mI,nI,oI,pI,qI,rI,sI,tI,uI,vI,wI,xI,yI,zI,aJ,bJ,cJ,dJ,eJ,fJ,gJ,hJ,iJ,jJ,kJ] H_2 ((K6_21 k) .normal))
      (
        grpK Tryz.prog (run Tryz.prog k) (ropsC C6rrrll) ((grps (ropsC C6rrrll).toList).drop 2) #[x0,x1,x2,x3,x4,x5,(.bool false),y32,y33,x9,kA,lA,mA,nA,oA,pA,qA,rA,sA,tA,uA,vA,wA,xA,yA,zA,aB,y27,y28,y31,x0,y31,y32,y33,y33,y35,y35,undef,undef,nB,oB,pB,qB,rB,sB,tB,uB,vB,wB,xB,yB,zB,aC,bC,cC,dC,eC,fC,gC,hC,iC,jC,kC,lC,mC,nC,oC,pC,qC,rC,sC,tC,uC,vC,wC,xC,yC,zC,aD,bD,cD,dD,eD,fD,gD,hD,iD,jD,kD,lD,mD,nD,oD,pD,qD,rD,sD,tD,uD,vD,wD,xD,yD,zD,aE,bE,cE,dE,eE,fE,gE,hE,iE,jE,kE,lE,mE,nE,oE,pE,qE,rE,sE,tE,uE,vE,wE,xE,yE,zE,aF,bF,cF,dF,eF,fF,gF,hF,iF,jF,kF,lF,mF,nF,oF,pF,qF,rF,sF,tF,uF,vF,wF,xF,yF,zF,aG,bG,cG,dG,eG,fG,gG,hG,iG,jG,kG,lG,mG,nG,oG,pG,qG,rG,sG,tG,uG,vG,wG,xG,yG,zG,aH,bH,cH,dH,eH,fH,gH,hH,iH,jH,kH,lH,mH,nH,oH,pH,qH,rH,sH,tH,uH,vH,wH,xH,yH,zH,aI,bI,cI,dI,eI,fI,gI,hI,iI,jI,kI,lI,mI,nI,oI,pI,qI,rI,sI,tI,uI,vI,wI,xI,yI,zI,aJ,bJ,cJ,dJ,eJ,fJ,gJ,hJ,iJ,jJ,kJ] H_2 ((K6_21 k) .normal)))) (by kernel_rfl) ?_
  simp only [TJ6_14 k]
  rfl
set_option maxRecDepth 100000 in
theorem run6 (k : Nat) (x0 x1 x2 : Value) (H : Heap) : run Tryz.prog (k + 1) 6 #[x0,x1,x2] H = F6 k x0 x1 x2 H := by
  refine Eq.trans (b := denK Tryz.prog (run Tryz.prog k) k C6l (K6_22 k) #[x0,x1,x2,undef,undef,undef,undef,undef,undef,undef,undef,undef,undef,undef,undef,undef,undef,undef,undef,undef,undef,undef,undef,undef,undef,undef,undef,undef,undef,undef,undef,undef,undef,undef,undef,undef,undef,undef,undef,undef,undef,undef,undef,undef,undef,undef,undef,undef,undef,undef,undef,undef,undef,undef,undef,undef,undef,undef,undef,undef,undef,undef,undef,undef,undef,undef,undef,undef,undef,undef,undef,undef,undef,undef,undef,undef,undef,undef,undef,undef,undef,undef,undef,undef,undef,undef,undef,undef,undef,undef,undef,undef,undef,undef,undef,undef,undef,undef,undef,undef,undef,undef,undef,undef,undef,undef,undef,undef,undef,undef,undef,undef,undef,undef,undef,undef,undef,undef,undef,undef,undef,undef,undef,undef,undef,undef,undef,undef,undef,undef,undef,undef,undef,undef,undef,undef,undef,undef,undef,undef,undef,undef,undef,undef,undef,undef,undef,undef,undef,undef,undef,undef,undef,undef,undef,undef,undef,undef,undef,undef,undef,undef,undef,undef,undef,undef,undef,undef,undef,undef,undef,undef,undef,undef,undef,undef,undef,undef,undef,undef,undef,undef,undef,undef,undef,undef,undef,undef,undef,undef,undef,undef,undef,undef,undef,undef,undef,undef,undef,undef,undef,undef,undef,undef,undef,undef,undef,undef,undef,undef,undef,undef,undef,undef,undef,undef,undef,undef,undef,undef,undef,undef,undef,undef,undef,undef,undef,undef,undef,undef,undef,undef,undef,undef,undef,undef,undef,undef,undef,undef,undef,undef,undef,undef,undef] H) (by kernel_rfl) ?_
  exact TF6 k x0 x1 x2 undef undef undef undef undef undef undef undef undef undef undef undef undef undef undef undef undef undef undef undef undef undef undef undef undef undef undef undef undef undef undef undef undef undef undef undef undef undef undef undef undef undef undef undef undef undef undef undef undef undef undef undef undef undef undef undef undef undef undef undef undef undef undef undef undef undef undef undef undef undef undef undef undef undef undef undef undef undef undef undef undef undef undef undef undef undef undef undef undef undef undef undef undef undef undef undef undef undef undef undef undef undef undef undef undef undef undef undef undef undef undef undef undef undef undef undef undef undef undef undef undef undef undef undef undef undef undef undef undef undef undef undef undef undef undef undef undef undef undef undef undef undef undef undef undef undef undef undef undef undef undef undef undef undef undef undef undef undef undef undef undef undef undef undef undef undef undef undef undef undef undef undef undef undef undef undef undef undef undef undef undef undef undef undef undef undef undef undef undef undef undef undef undef undef undef undef undef undef undef undef undef undef undef undef undef undef undef undef undef undef undef undef undef undef undef undef undef undef undef undef undef undef undef undef undef undef undef undef undef undef undef undef undef undef undef undef undef undef undef undef undef undef H

end Go.PG

namespace Go.PG
open Go.Proofs

noncomputable def C20l : Code := sub [.l] (bodyOf Tryz.f20)
noncomputable def C20r : Code := sub [.r] (bodyOf Tryz.f20)
noncomputable def K20_0 (k : Nat) : Ex → Fr → Heap → Option (Value × Heap) := finK Tryz.prog Tryz.f20
noncomputable def K20_1 (k : Nat) : Ex → Fr → Heap → Option (Value × Heap) := seqC (denK Tryz.prog (run Tryz.prog k) k C20r (K20_0 k)) (K20_0 k)

noncomputable def F20 (k : Nat) (x0 x1 : Value) (H : Heap) : Option (Value × Heap) :=
  bindP (pBox 38 x1 H) fun y3 H_1 =>
  (fieldA 0 y3).bind fun y6 =>
  (ldV false 1 y6 H_1).bind fun y7 =>
  (binI .eql y7 (.int .i64 0)).bind fun y9 =>
  condV y9
  (
    (fieldA 1 y3).bind fun y11 =>
    (ldV false 1 y11 H_1).bind fun y12 =>
    quietK H_1 [] (run Tryz.prog k 53 #[y12] (H_1.atFloor H_1.next)) fun y13 H_2 m =>
    (fieldA 4 y3).bind fun y14 =>
    (ldV false 1 y14 (hides H_2 [(H_1.next, m)])).bind fun y15 =>
    bindP (run Tryz.prog k 27 #[x0,y13,y15] H_2) fun y16 H_3 =>
    some ((.tuple #[(.string ⟨#[]⟩), y16]), H_3))
  (
    (binI .eql y7 (.int .i64 1)).bind fun y18 =>
    condV y18
    (
      (fieldA 1 y3).bind fun y20 =>
      (ldV false 1 y20 H_1).bind fun y21 =>
      bindP (run Tryz.prog k 53 #[y21] H_1) fun y22 H_4 =>
      bindP (run Tryz.prog k 29 #[x0,y22] H_4) fun y23 H_5 =>
      some ((.tuple #[(.string ⟨#[]⟩), y23]), H_5))
    (
      (binI .eql y7 (.int .i64 2)).bind fun y25 =>
      condV y25
      (
        (fieldA 1 y3).bind fun y27 =>
        (ldV false 1 y27 H_1).bind fun y28 =>
        quietK H_1 [] (run Tryz.prog k 53 #[y28] (H_1.atFloor H_1.next)) fun y29 H_6 m_1 =>
        (fieldA 2 y3).bind fun y30 =>
        (ldV false 1 y30 (hides H_6 [(H_1.next, m_1)])).bind fun y31 =>
        bindP (run Tryz.prog k 53 #[y31] H_6) fun y32 H_7 =>
        bindP (run Tryz.prog k 28 #[x0,y29,y32] H_7) fun y33 H_8 =>
        some ((.tuple #[(.string ⟨#[]⟩), y33]), H_8))
      (
        (binI .eql y7 (.int .i64 3)).bind fun y35 =>
        condV y35
        (
          (fieldA 1 y3).bind fun y37 =>
          (ldV false 1 y37 H_1).bind fun y38 =>
          quietK H_1 [] (run Tryz.prog k 53 #[y38] (H_1.atFloor H_1.next)) fun y39 H_9 m_2 =>
          (fieldA 2 y3).bind fun y40 =>
          (ldV false 1 y40 (hides H_9 [(H_1.next, m_2)])).bind fun y41 =>
          bindP (run Tryz.prog k 53 #[y41] H_9) fun y42 H_10 =>
          bindP (run Tryz.prog k 42 #[x0,y39,y42] H_10) fun y43 H_11 =>
          some ((.tuple #[(.string ⟨#[]⟩), y43]), H_11))
        (
          (binI .eql y7 (.int .i64 4)).bind fun y45 =>
          condV y45
          (
            (fieldA 1 y3).bind fun y47 =>
            (ldV false 1 y47 H_1).bind fun y48 =>
            quietK H_1 [] (run Tryz.prog k 53 #[y48] (H_1.atFloor H_1.next)) fun y49 H_12 m_3 =>
            (fieldA 3 y3).bind fun y50 =>
            (ldV false 1 y50 (hides H_12 [(H_1.next, m_3)])).bind fun y51 =>
            (fieldA 4 y3).bind fun y52 =>
            (ldV false 1 y52 (hides H_12 [(H_1.next, m_3)])).bind fun y53 =>
            (fieldA 5 y3).bind fun y54 =>
            (ldV false 1 y54 (hides H_12 [(H_1.next, m_3)])).bind fun y55 =>
            bindP (run Tryz.prog k 26 #[x0,y49,y51,y53,y55] H_12) fun y56 H_13 =>
            some ((.tuple #[(.string ⟨#[]⟩), y56]), H_13))
          (
            (binI .eql y7 (.int .i64 5)).bind fun y58 =>
            condV y58
            (
              (fieldA 1 y3).bind fun y60 =>
              (ldV false 1 y60 H_1).bind fun y61 =>
              quietK H_1 [] (run Tryz.prog k 53 #[y61] (H_1.atFloor H_1.next)) fun y62 H_14 m_4 =>
              (fieldA 3 y3).bind fun y63 =>
              (ldV false 1 y63 (hides H_14 [(H_1.next, m_4)])).bind fun y64 =>
              (fieldA 4 y3).bind fun y65 =>
              (ldV false 1 y65 (hides H_14 [(H_1.next, m_4)])).bind fun y66 =>
              bindP (run Tryz.prog k 25 #[x0,y62,y64,y66] H_14) fun y67 H_15 =>
              (pExtract y67 0).bind fun y68 =>
              (pExtract y67 1).bind fun y69 =>
              some ((.tuple #[y68,y69]), H_15))
            (
              some ((.tuple #[(.string ⟨#[]⟩), (.int .i64 0)]), H_1)))))))

theorem TF20 (k : Nat) (x0 x1 x2 x3 x4 x5 x6 x7 x8 x9 kA lA mA nA oA pA qA rA sA tA uA vA wA xA yA zA aB bB cB dB eB fB gB hB iB jB kB lB mB nB oB pB qB rB sB tB uB vB wB xB yB zB aC bC cC dC eC fC gC hC iC jC kC lC mC nC oC pC qC rC : Value) (H : Heap) : denK Tryz.prog (run Tryz.prog k) k C20l (K20_1 k) #[x0,x1,x2,x3,x4,x5,x6,x7,x8,x9,kA,lA,mA,nA,oA,pA,qA,rA,sA,tA,uA,vA,wA,xA,yA,zA,aB,bB,cB,dB,eB,fB,gB,hB,iB,jB,kB,lB,mB,nB,oB,pB,qB,rB,sB,tB,uB,vB,wB,xB,yB,zB,aC,bC,cC,dC,eC,fC,gC,hC,iC,jC,kC,lC,mC,nC,oC,pC,qC,rC] H = F20 k x0 x1 H := by
  kernel_rfl
theorem run20 (k : Nat) (x0 x1 : Value) (H : Heap) : run Tryz.prog (k + 1) 20 #[x0,x1] H = F20 k x0 x1 H := by
  refine Eq.trans (b := denK Tryz.prog (run Tryz.prog k) k C20l (K20_1 k) #[x0,x1,undef,undef,undef,undef,undef,undef,undef,undef,undef,undef,undef,undef,undef,undef,undef,undef,undef,undef,undef,undef,undef,undef,undef,undef,undef,undef,undef,undef,undef,undef,undef,undef,undef,undef,undef,undef,undef,undef,undef,undef,undef,undef,undef,undef,undef,undef,undef,undef,undef,undef,undef,undef,undef,undef,undef,undef,undef,undef,undef,undef,undef,undef,undef,undef,undef,undef,undef,undef] H) (by kernel_rfl) ?_
  exact TF20 k x0 x1 undef undef undef undef undef undef undef undef undef undef undef undef undef undef undef undef undef undef undef undef undef undef undef undef undef undef undef undef undef undef undef undef undef undef undef undef undef undef undef undef undef undef undef undef undef undef undef undef undef undef undef undef undef undef undef undef undef undef undef undef undef undef undef undef undef undef undef undef H

end Go.PG

namespace Go.PG
open Go.Proofs

noncomputable def C53l : Code := sub [.l] (bodyOf Tryz.f53)
noncomputable def C53r : Code := sub [.r] (bodyOf Tryz.f53)
noncomputable def K53_0 (k : Nat) : Ex → Fr → Heap → Option (Value × Heap) := finK Tryz.prog Tryz.f53
noncomputable def K53_1 (k : Nat) : Ex → Fr → Heap → Option (Value × Heap) := seqC (denK Tryz.prog (run Tryz.prog k) k C53r (K53_0 k)) (K53_0 k)

noncomputable def F53 (k : Nat) (x0 : Value) (H : Heap) : Option (Value × Heap) :=
  bindP (pBuildSlice Tryz.prog 55 10 [(0, (.string ⟨#[97]⟩)), (1, (.string ⟨#[98]⟩)), (2, (.string ⟨#[195,169]⟩)), (3, (.string ⟨#[108,111,110,103,32,110,97,109,101]⟩)), (4, (.string ⟨#[115,105,120,116,101,101,110,45,98,121,116,101,115,45,120,120]⟩)), (5, (.string ⟨#[115,101,118,101,110,116,101,101,110,45,98,121,116,101,115,45,120]⟩)), (6, (.string ⟨#[]⟩)), (7, (.string ⟨#[99]⟩)), (8, (.string ⟨#[100]⟩)), (9, (.string ⟨#[101]⟩))] H) fun y4 H_1 =>
  (binI .and x0 (.int .i64 7)).bind fun y7 =>
  (idxSl 1 y4 y7).bind fun y8 =>
  (ldV false 1 y8 H_1).bind fun y9 =>
  some (y9, H_1)

theorem TF53 (k : Nat) (x0 x1 x2 x3 x4 x5 x6 x7 x8 x9 : Value) (H : Heap) : denK Tryz.prog (run Tryz.prog k) k C53l (K53_1 k) #[x0,x1,x2,x3,x4,x5,x6,x7,x8,x9] H = F53 k x0 H := by
  kernel_rfl
theorem run53 (k : Nat) (x0 : Value) (H : Heap) : run Tryz.prog (k + 1) 53 #[x0] H = F53 k x0 H := by
  refine Eq.trans (b := denK Tryz.prog (run Tryz.prog k) k C53l (K53_1 k) #[x0,undef,undef,undef,undef,undef,undef,undef,undef,undef] H) (by kernel_rfl) ?_
  exact TF53 k x0 undef undef undef undef undef undef undef undef undef H

end Go.PG

namespace Go.PG
open Go.Proofs

noncomputable def C10l : Code := sub [.l] (bodyOf Tryz.f10)
noncomputable def C10r : Code := sub [.r] (bodyOf Tryz.f10)
noncomputable def C10rrll : Code := sub [.r, .r, .l, .l] (bodyOf Tryz.f10)
noncomputable def C10rrlr : Code := sub [.r, .r, .l, .r] (bodyOf Tryz.f10)
noncomputable def C10rrr : Code := sub [.r, .r, .r] (bodyOf Tryz.f10)
noncomputable def C10rrrrll : Code := sub [.r, .r, .r, .r, .l, .l] (bodyOf Tryz.f10)
noncomputable def C10rrrrlr : Code := sub [.r, .r, .r, .r, .l, .r] (bodyOf Tryz.f10)
noncomputable def C10rrrrr : Code := sub [.r, .r, .r, .r, .r] (bodyOf Tryz.f10)
noncomputable def C10rrrrrrrrrrrrrrl : Code := sub [.r, .r, .r, .r, .r, .r, .r, .r, .r, .r, .r, .r, .r, .r, .l] (bodyOf Tryz.f10)
noncomputable def C10rrrrrrrrrrrrrrr : Code := sub [.r, .r, .r, .r, .r, .r, .r, .r, .r, .r, .r, .r, .r, .r, .r] (bodyOf Tryz.f10)
noncomputable def K10_0 (k : Nat) : Ex → Fr → Heap → Option (Value × Heap) := finK Tryz.prog Tryz.f10
noncomputable def K10_1 (k : Nat) : Ex → Fr → Heap → Option (Value × Heap) := seqC (denK Tryz.prog (run Tryz.prog k) k C10rrrrrrrrrrrrrrr (K10_0 k)) (K10_0 k)
noncomputable def K10_2 (k : Nat) : Ex → Fr → Heap → Option (Value × Heap) := seqC (denK Tryz.prog (run Tryz.prog k) k C10rrrrr (K10_0 k)) (K10_0 k)
noncomputable def K10_3 (k : Nat) : Ex → Fr → Heap → Option (Value × Heap) := seqC (denK Tryz.prog (run Tryz.prog k) k C10rrrrlr (K10_2 k)) (K10_2 k)
noncomputable def K10_4 (k : Nat) : Ex → Fr → Heap → Option (Value × Heap) := seqC (denK Tryz.prog (run Tryz.prog k) k C10rrr (K10_0 k)) (K10_0 k)
noncomputable def K10_5 (k : Nat) : Ex → Fr → Heap → Option (Value × Heap) := seqC (denK Tryz.prog (run Tryz.prog k) k C10rrlr (K10_4 k)) (K10_4 k)
noncomputable def K10_6 (k : Nat) : Ex → Fr → Heap → Option (Value × Heap) := seqC (denK Tryz.prog (run Tryz.prog k) k C10r (K10_0 k)) (K10_0 k)

noncomputable def J10_0 (k : Nat) (gE hE : Value) (H : Heap) : Option (Value × Heap) :=
  (pPick gE hE (.bool false)).bind fun y112 =>
  condG y112 true
  (
    bindP (run Tryz.prog k 11 #[(.string ⟨#[]⟩)] H) fun y114 H_1 =>
    (pUn .not y114).bind fun y115 =>
    (pPick y112 y115 (.bool false)).bind fun y116 =>
    some (y116, H_1))
  (
    (pPick y112 undef (.bool false)).bind fun y116_1 =>
    some (y116_1, H))
noncomputable def J10_1 (k : Nat) (cE eE : Value) (H : Heap) : Option (Value × Heap) :=
  (pPick cE eE (.bool false)).bind fun y109 =>
  condG y109 true
  (
    bindP (run Tryz.prog k 11 #[(.string ⟨#[120]⟩)] H) fun y111 H_1 =>
    J10_0 k y109 y111 H_1)
  (
    J10_0 k y109 undef H)
noncomputable def J10_2 (k : Nat) (oA xD aE : Value) (H : Heap) : Option (Value × Heap) :=
  (pPick xD aE (.bool false)).bind fun y105 =>
  condG y105 true
  (
    (binI .eql oA (.int .i64 0)).bind fun y108 =>
    J10_1 k y105 y108 H)
  (
    J10_1 k y105 undef H)
noncomputable def J10_3 (k : Nat) (mA oA sD vD : Value) (H : Heap) : Option (Value × Heap) :=
  (pPick sD vD (.bool false)).bind fun y100 =>
  condG y100 true
  (
    (sliceStr mA none (some (.int .i64 3))).bind fun y103 =>
    (binS .eql y103 (.string ⟨#[104,105,0]⟩)).bind fun y104 =>
    J10_2 k oA y100 y104 H)
  (
    J10_2 k oA y100 undef H)
noncomputable def J10_4 (k : Nat) (mA oA oD qD : Value) (H : Heap) : Option (Value × Heap) :=
  (pPick oD qD (.bool false)).bind fun y95 =>
  condG y95 true
  (
    bindM (lenSt mA) H fun y98 H_1 =>
    (binI .eql y98 (.int .i64 32)).bind fun y99 =>
    J10_3 k mA oA y95 y99 H_1)
  (
    J10_3 k mA oA y95 undef H)
noncomputable def J10_5 (k : Nat) (mA nA oA kD mD : Value) (H : Heap) : Option (Value × Heap) :=
  (pPick kD mD (.bool false)).bind fun y91 =>
  condG y91 true
  (
    (binI .eql nA (.int .i64 0)).bind fun y94 =>
    J10_4 k mA oA y91 y94 H)
  (
    J10_4 k mA oA y91 undef H)
noncomputable def J10_6 (k : Nat) (lA mA nA oA gD iD : Value) (H : Heap) : Option (Value × Heap) :=
  (pPick gD iD (.bool false)).bind fun y87 =>
  condG y87 true
  (
    (binI .eql lA (.int .i64 0)).bind fun y90 =>
    J10_5 k mA nA oA y87 y90 H)
  (
    J10_5 k mA nA oA y87 undef H)
noncomputable def J10_7 (k : Nat) (kA lA mA nA oA cD eD : Value) (H : Heap) : Option (Value × Heap) :=
  (pPick cD eD (.bool false)).bind fun y83 =>
  condG y83 true
  (
    (binI .eql kA (.int .i64 0)).bind fun y86 =>
    J10_6 k lA mA nA oA y83 y86 H)
  (
    J10_6 k lA mA nA oA y83 undef H)
noncomputable def J10_8 (k : Nat) (x9 kA lA mA nA oA yC aD : Value) (H : Heap) : Option (Value × Heap) :=
  (pPick yC aD (.bool false)).bind fun y79 =>
  condG y79 true
  (
    (binI .eql x9 (.int .i64 0)).bind fun y82 =>
    J10_7 k kA lA mA nA oA y79 y82 H)
  (
    J10_7 k kA lA mA nA oA y79 undef H)
noncomputable def J10_9 (k : Nat) (x8 x9 kA lA mA nA oA rC wC : Value) (H : Heap) : Option (Value × Heap) :=
  (pPick rC wC (.bool false)).bind fun y75 =>
  condG y75 true
  (
    (binI .eql x8 (.int .i64 2)).bind fun y78 =>
    J10_8 k x9 kA lA mA nA oA y75 y78 H)
  (
    J10_8 k x9 kA lA mA nA oA y75 undef H)
noncomputable def J10_10 (k : Nat) (x7 x8 x9 kA lA mA nA oA mC pC : Value) (H : Heap) : Option (Value × Heap) :=
  (pPick mC pC (.bool false)).bind fun y68 =>
  condG y68 true
  (
    (idxSl 3 x7 (.int .i64 1)).bind fun y71 =>
    (ldV true 3 y71 H).bind fun y72 =>
    (pBuild Tryz.prog 49 [(0, (.string ⟨#[98]⟩)), (1, (.int .i64 12)), (2, (.int .i64 6))]).bind fun y73 =>
    (binE Tryz.prog .eql 49 false y72 y73).bind fun y74 =>
    J10_9 k x8 x9 kA lA mA nA oA y68 y74 H)
  (
    J10_9 k x8 x9 kA lA mA nA oA y68 undef H)
noncomputable def J10_11 (k : Nat) (x7 x8 x9 kA lA mA nA oA iC kC : Value) (H : Heap) : Option (Value × Heap) :=
  (pPick iC kC (.bool false)).bind fun y63 =>
  condG y63 true
  (
    bindM (lenSl x7) H fun y66 H_1 =>
    (binI .eql y66 (.int .i64 2)).bind fun y67 =>
    J10_10 k x7 x8 x9 kA lA mA nA oA y63 y67 H_1)
  (
    J10_10 k x7 x8 x9 kA lA mA nA oA y63 undef H)
noncomputable def J10_12 (k : Nat) (x3 hB jB : Value) (H : Heap) : Option (Value × Heap) :=
  (pPick hB (.bool true) jB).bind fun y36 =>
  condV y36
  (
    some ((.bool false), H))
  (
    bindP (run Tryz.prog k 27 #[x3, (.string ⟨#[97]⟩), (.int .i64 4)] H) fun y38 H_1 =>
    bindP (run Tryz.prog k 27 #[x3, (.string ⟨#[98]⟩), (.int .i64 6)] H_1) fun y40 H_2 =>
    bindP (run Tryz.prog k 23 #[x3] H_2) fun y42 H_3 =>
    bindP (run Tryz.prog k 24 #[x3] H_3) fun y44 H_4 =>
    bindP (run Tryz.prog k 26 #[x3, (.string ⟨#[97]⟩), (.int .i64 0), (.int .i64 1), (.string ⟨#[104,105]⟩)] H_4) fun y46 H_5 =>
    bindP (run Tryz.prog k 29 #[x3, (.string ⟨#[98]⟩)] H_5) fun y48 H_6 =>
    bindP (run Tryz.prog k 42 #[x3, (.string ⟨#[97]⟩), (.string ⟨#[195,169]⟩)] H_6) fun y50 H_7 =>
    bindP (run Tryz.prog k 25 #[x3, (.string ⟨#[195,169]⟩), (.int .i64 0), (.int .i64 1)] H_7) fun y53 H_8 =>
    (pExtract y53 0).bind fun y54 =>
    (pExtract y53 1).bind fun y55 =>
    bindP (run Tryz.prog k 28 #[x3, (.string ⟨#[97]⟩), (.string ⟨#[98]⟩)] H_8) fun y57 H_9 =>
    (binI .eql y38 (.int .i64 0)).bind fun y59 =>
    condG y59 true
    (
      (binI .eql y40 (.int .i64 0)).bind fun y62 =>
      J10_11 k y42 y44 y46 y48 y50 y54 y55 y57 y59 y62 H_9)
    (
      J10_11 k y42 y44 y46 y48 y50 y54 y55 y57 y59 undef H_9))
noncomputable def J10_13 (k : Nat) (x1 vA xA : Value) (H : Heap) : Option (Value × Heap) :=
  (pPick vA (.bool true) xA).bind fun y24 =>
  condV y24
  (
    some ((.bool false), H))
  (
    bindP (run Tryz.prog k 17 #[(.iface 25 x1)] H) fun y28 H_1 =>
    (pExtract y28 0).bind fun y29 =>
    (pExtract y28 1).bind fun y30 =>
    (binI .neq y30 (.int .i64 0)).bind fun y32 =>
    condG y32 false
    (
      (binE Tryz.prog .eql 33 true y29 (.pointer none)).bind fun y35 =>
      J10_12 k y29 y32 y35 H_1)
    (
      J10_12 k y29 y32 undef H_1))
noncomputable def F10 (k : Nat) (H : Heap) : Option (Value × Heap) :=
  bindP (run Tryz.prog k 13 #[(.int .i64 20)] H) fun y16 H_1 =>
  (pExtract y16 0).bind fun y17 =>
  (pExtract y16 1).bind fun y18 =>
  (binI .neq y18 (.int .i64 0)).bind fun y20 =>
  condG y20 false
  (
    (binE Tryz.prog .eql 25 true y17 (.pointer none)).bind fun y23 =>
    J10_13 k y17 y20 y23 H_1)
  (
    J10_13 k y17 y20 undef H_1)

set_option maxRecDepth 100000 in
theorem TJ10_0 (k : Nat) (x0 x1 x2 x3 x4 x5 x6 x7 x8 x9 kA lA mA nA oA pA qA rA sA tA uA vA wA xA yA zA aB bB cB dB eB fB gB hB iB jB kB lB mB nB oB pB qB rB sB tB uB vB wB xB yB zB aC bC cC dC eC fC gC hC iC jC kC lC mC nC oC pC qC rC sC tC uC vC wC xC yC zC aD bD cD dD eD fD gD hD iD jD kD lD mD nD oD pD qD rD sD tD uD vD wD xD yD zD aE bE cE dE eE fE gE hE iE jE kE lE mE : Value) (H : Heap) : grpK Tryz.prog (run Tryz.prog k) (ropsC C10rrrrrrrrrrrrrrl) ((grps (ropsC C10rrrrrrrrrrrrrrl).toList).drop 24) #[x0,x1,x2,x3,x4,x5,x6,x7,x8,x9,kA,lA,mA,nA,oA,pA,qA,rA,sA,tA,uA,vA,wA,xA,yA,zA,aB,bB,cB,dB,eB,fB,gB,hB,iB,jB,kB,lB,mB,nB,oB,pB,qB,rB,sB,tB,uB,vB,wB,xB,yB,zB,aC,bC,cC,dC,eC,fC,gC,hC,iC,jC,kC,lC,mC,nC,oC,pC,qC,rC,sC,tC,uC,vC,wC,xC,yC,zC,aD,bD,cD,dD,eD,fD,gD,hD,iD,jD,kD,lD,mD,nD,oD,pD,qD,rD,sD,tD,uD,vD,wD,xD,yD,zD,aE,bE,cE,dE,eE,fE,gE,hE,iE,jE,kE,lE,mE] H ((K10_1 k) .normal) = J10_0 k gE hE H := by
  kernel_rfl
set_option maxRecDepth 100000 in
theorem TJ10_1 (k : Nat) (x0 x1 x2 x3 x4 x5 x6 x7 x8 x9 kA lA mA nA oA pA qA rA sA tA uA vA wA xA yA zA aB bB cB dB eB fB gB hB iB jB kB lB mB nB oB pB qB rB sB tB uB vB wB xB yB zB aC bC cC dC eC fC gC hC iC jC kC lC mC nC oC pC qC rC sC tC uC vC wC xC yC zC aD bD cD dD eD fD gD hD iD jD kD lD mD nD oD pD qD rD sD tD uD vD wD xD yD zD aE bE cE dE eE fE gE hE iE jE kE lE mE : Value) (H : Heap) : grpK Tryz.prog (run Tryz.prog k) (ropsC C10rrrrrrrrrrrrrrl) ((grps (ropsC C10rrrrrrrrrrrrrrl).toList).drop 22) #[x0,x1,x2,x3,x4,x5,x6,x7,x8,x9,kA,lA,mA,nA,oA,pA,qA,rA,sA,tA,uA,vA,wA,xA,yA,zA,aB,bB,cB,dB,eB,fB,gB,hB,iB,jB,kB,lB,mB,nB,oB,pB,qB,rB,sB,tB,uB,vB,wB,xB,yB,zB,aC,bC,cC,dC,eC,fC,gC,hC,iC,jC,kC,lC,mC,nC,oC,pC,qC,rC,sC,tC,uC,vC,wC,xC,yC,zC,aD,bD,cD,dD,eD,fD,gD,hD,iD,jD,kD,lD,mD,nD,oD,pD,qD,rD,sD,tD,uD,vD,wD,xD,yD,zD,aE,bE,cE,dE,eE,fE,gE,hE,iE,jE,kE,lE,mE] H ((K10_1 k) .normal) = J10_1 k cE eE H := by
  refine Eq.trans (b :=
    (pPick cE eE (.bool false)).bind fun y109 =>
    condG y109 true
    (
      bindP (run Tryz.prog k 11 #[(.string ⟨#[120]⟩)] H) fun y111 H_1 =>
      grpK Tryz.prog (run Tryz.prog k) (ropsC C10rrrrrrrrrrrrrrl) ((grps (ropsC C10rrrrrrrrrrrrrrl).toList).drop 24) #[x0,x1,x2,x3,x4,x5,x6,x7,x8,x9,kA,lA,mA,nA,oA,pA,qA,rA,sA,tA,uA,vA,wA,xA,yA,zA,aB,bB,cB,dB,eB,fB,gB,hB,iB,jB,kB,lB,mB,nB,oB,pB,qB,rB,sB,tB,uB,vB,wB,xB,yB,zB,aC,bC,cC,dC,eC,fC,gC,hC,iC,jC,kC,lC,mC,nC,oC,pC,qC,rC,sC,tC,uC,vC,wC,xC,yC,zC,aD,bD,cD,dD,eD,fD,gD,hD,iD,jD,kD,lD,mD,nD,oD,pD,qD,rD,sD,tD,uD,vD,wD,xD,yD,zD,aE,bE,cE,dE,eE,y109,y109,y111,iE,jE,kE,lE,mE] H_1 ((K10_1 k) .normal))
    (
      grpK Tryz.prog (run Tryz.prog k) (ropsC C10rrrrrrrrrrrrrrl) ((grps (ropsC C10rrrrrrrrrrrrrrl).toList).drop 24) #[x0,x1,x2,x3,x4,x5,x6,x7,x8,x9,kA,lA,mA,nA,oA,pA,qA,rA,sA,tA,uA,vA,wA,xA,yA,zA,aB,bB,cB,dB,eB,fB,gB,hB,iB,jB,kB,lB,mB,nB,oB,pB,qB,rB,sB,tB,uB,vB,wB,xB,yB,zB,aC,bC,cC,dC,eC,fC,gC,hC,iC,jC,kC,lC,mC,nC,oC,pC,qC,rC,sC,tC,uC,vC,wC,xC,yC,zC,aD,bD,cD,dD,eD,fD,gD,hD,iD,jD,kD,lD,mD,nD,oD,pD,qD,rD,sD,tD,uD,vD,wD,xD,yD,zD,aE,bE,cE,dE,eE,y109,y109,undef,iE,jE,kE,lE,mE] H ((K10_1 k) .normal))) (by kernel_rfl) ?_
  simp only [TJ10_0 k]
  rfl
set_option maxRecDepth 100000 in
theorem TJ10_2 (k : Nat) (x0 x1 x2 x3 x4 x5 x6 x7 x8 x9 kA lA mA nA oA pA qA rA sA tA uA vA wA xA yA zA aB bB cB dB eB fB gB hB iB jB kB lB mB nB oB pB qB rB sB tB uB vB wB xB yB zB aC bC cC dC eC fC gC hC iC jC kC lC mC nC oC pC qC rC sC tC uC vC wC xC yC zC aD bD cD dD eD fD gD hD iD jD kD lD mD nD oD pD qD rD sD tD uD vD wD xD yD zD aE bE cE dE eE fE gE hE iE jE kE lE mE : Value) (H : Heap) : grpK Tryz.prog (run Tryz.prog k) (ropsC C10rrrrrrrrrrrrrrl) ((grps (ropsC C10rrrrrrrrrrrrrrl).toList).drop 20) #[x0,x1,x2,x3,x4,x5,x6,x7,x8,x9,kA,lA,mA,nA,oA,pA,qA,rA,sA,tA,uA,vA,wA,xA,yA,zA,aB,bB,cB,dB,eB,fB,gB,hB,iB,jB,kB,lB,mB,nB,oB,pB,qB,rB,sB,tB,uB,vB,wB,xB,yB,zB,aC,bC,cC,dC,eC,fC,gC,hC,iC,jC,kC,lC,mC,nC,oC,pC,qC,rC,sC,tC,uC,vC,wC,xC,yC,zC,aD,bD,cD,dD,eD,fD,gD,hD,iD,jD,kD,lD,mD,nD,oD,pD,qD,rD,sD,tD,uD,vD,wD,xD,yD,zD,aE,bE,cE,dE,eE,fE,gE,hE,iE,jE,kE,lE,mE] H ((K10_1 k) .normal) = J10_2 k oA xD aE H := by
  refine Eq.trans (b :=
    (pPick xD aE (.bool false)).bind fun y105 =>
    condG y105 true
    (
      (binI .eql oA (.int .i64 0)).bind fun y108 =>
      grpK Tryz.prog (run Tryz.prog k) (ropsC C10rrrrrrrrrrrrrrl) ((grps (ropsC C10rrrrrrrrrrrrrrl).toList).drop 22) #[x0,x1,x2,x3,x4,x5,x6,x7,x8,x9,kA,lA,mA,nA,oA,pA,qA,rA,sA,tA,uA,vA,wA,xA,yA,zA,aB,bB,cB,dB,eB,fB,gB,hB,iB,jB,kB,lB,mB,nB,oB,pB,qB,rB,sB,tB,uB,vB,wB,xB,yB,zB,aC,bC,cC,dC,eC,fC,gC,hC,iC,jC,kC,lC,mC,nC,oC,pC,qC,rC,sC,tC,uC,vC,wC,xC,yC,zC,aD,bD,cD,dD,eD,fD,gD,hD,iD,jD,kD,lD,mD,nD,oD,pD,qD,rD,sD,tD,uD,vD,wD,xD,yD,zD,aE,y105,y105,oA,y108,fE,gE,hE,iE,jE,kE,lE,mE] H ((K10_1 k) .normal))
    (
      grpK Tryz.prog (run Tryz.prog k) (ropsC C10rrrrrrrrrrrrrrl) ((grps (ropsC C10rrrrrrrrrrrrrrl).toList).drop 22) #[x0,x1,x2,x3,x4,x5,x6,x7,x8,x9,kA,lA,mA,nA,oA,pA,qA,rA,sA,tA,uA,vA,wA,xA,yA,zA,aB,bB,cB,dB,eB,fB,gB,hB,iB,jB,kB,lB,mB,nB,oB,pB,qB,rB,sB,tB,uB,vB,wB,xB,yB,zB,aC,bC,cC,dC,eC,fC,gC,hC,iC,jC,kC,lC,mC,nC,oC,pC,qC,rC,sC,tC,uC,vC,wC,xC,yC,zC,aD,bD,cD,dD,eD,fD,gD,hD,iD,jD,kD,lD,mD,nD,oD,pD,qD,rD,sD,tD,uD,vD,wD,xD,yD,zD,aE,y105,y105,undef,undef,fE,gE,hE,iE,jE,kE,lE,mE] H ((K10_1 k) .normal))) (by kernel_rfl) ?_
  simp only [TJ10_1 k]
  rfl
set_option maxRecDepth 100000 in
theorem TJ10_3 (k : Nat) (x0 x1 x2 x3 x4 x5 x6 x7 x8 x9 kA lA mA nA oA pA qA rA sA tA uA vA wA xA yA zA aB bB cB dB eB fB gB hB iB jB kB lB mB nB oB pB qB rB sB tB uB vB wB xB yB zB aC bC cC dC eC fC gC hC iC jC kC lC mC nC oC pC qC rC sC tC uC vC wC xC yC zC aD bD cD dD eD fD gD hD iD jD kD lD mD nD oD pD qD rD sD tD uD vD wD xD yD zD aE bE cE dE eE fE gE hE iE jE kE lE mE : Value) (H : Heap) : grpK Tryz.prog (run Tryz.prog k) (ropsC C10rrrrrrrrrrrrrrl) ((grps (ropsC C10rrrrrrrrrrrrrrl).toList).drop 18) #[x0,x1,x2,x3,x4,x5,x6,x7,x8,x9,kA,lA,mA,nA,oA,pA,qA,rA,sA,tA,uA,vA,wA,xA,yA,zA,aB,bB,cB,dB,eB,fB,gB,hB,iB,jB,kB,lB,mB,nB,oB,pB,qB,rB,sB,tB,uB,vB,wB,xB,yB,zB,aC,bC,cC,dC,eC,fC,gC,hC,iC,jC,kC,lC,mC,nC,oC,pC,qC,rC,sC,tC,uC,vC,wC,xC,yC,zC,aD,bD,cD,dD,eD,fD,gD,hD,iD,jD,kD,lD,mD,nD,oD,pD,qD,rD,sD,tD,uD,vD,wD,xD,yD,zD,aE,bE,cE,dE,eE,fE,gE,hE,iE,jE,kE,lE,mE] H ((K10_1 k) .normal) = J10_3 k mA oA sD vD H := by
  refine Eq.trans (b :=
    (pPick sD vD (.bool false)).bind fun y100 =>
    condG y100 true
    (
      (sliceStr mA none (some (.int .i64 3))).bind fun y103 =>
      (binS .eql y103 (.string ⟨#[104,105,0]⟩)).bind fun y104 =>
      grpK Tryz.prog (run Tryz.prog k) (ropsC C10rrrrrrrrrrrrrrl) ((grps (ropsC C10rrrrrrrrrrrrrrl).toList).drop 20) #[x0,x1,x2,x3,x4,x5,x6,x7,x8,x9,kA,lA,mA,nA,oA,pA,qA,rA,sA,tA,uA,vA,wA,xA,yA,zA,aB,bB,cB,dB,eB,fB,gB,hB,iB,jB,kB,lB,mB,nB,oB,pB,qB,rB,sB,tB,uB,vB,wB,xB,yB,zB,aC,bC,cC,dC,eC,fC,gC,hC,iC,jC,kC,lC,mC,nC,oC,pC,qC,rC,sC,tC,uC,vC,wC,xC,yC,zC,aD,bD,cD,dD,eD,fD,gD,hD,iD,jD,kD,lD,mD,nD,oD,pD,qD,rD,sD,tD,uD,vD,y100,y100,mA,y103,y104,bE,cE,dE,eE,fE,gE,hE,iE,jE,kE,lE,mE] H ((K10_1 k) .normal))
    (
      grpK Tryz.prog (run Tryz.prog k) (ropsC C10rrrrrrrrrrrrrrl) ((grps (ropsC C10rrrrrrrrrrrrrrl).toList).drop 20) #[x0,x1,x2,x3,x4,x5,x6,x7,x8,x9,kA,lA,mA,nA,oA,pA,qA,rA,sA,tA,uA,vA,wA,xA,yA,zA,aB,bB,cB,dB,eB,fB,gB,hB,iB,jB,kB,lB,mB,nB,oB,pB,qB,rB,sB,tB,uB,vB,wB,xB,yB,zB,aC,bC,cC,dC,eC,fC,gC,hC,iC,jC,kC,lC,mC,nC,oC,pC,qC,rC,sC,tC,uC,vC,wC,xC,yC,zC,aD,bD,cD,dD,eD,fD,gD,hD,iD,jD,kD,lD,mD,nD,oD,pD,qD,rD,sD,tD,uD,vD,y100,y100,undef,undef,undef,bE,cE,dE,eE,fE,gE,hE,iE,jE,kE,lE,mE] H ((K10_1 k) .normal))) (by kernel_rfl) ?_
  simp only [TJ10_2 k]
  rfl
set_option maxRecDepth 100000 in
theorem TJ10_4 (k : Nat) (x0 x1 x2 x3 x4 x5 x6 x7 x8 x9 kA lA mA nA oA pA qA rA sA tA uA vA wA xA yA zA aB bB cB dB eB fB gB hB iB jB kB lB mB nB oB pB qB rB sB tB uB vB wB xB yB zB aC bC cC dC eC fC gC hC iC jC kC lC mC nC oC pC qC rC sC tC uC vC wC xC yC zC aD bD cD dD eD fD gD hD iD jD kD lD mD nD oD pD qD rD sD tD uD vD wD xD yD zD aE bE cE dE eE fE gE hE iE jE kE lE mE : Value) (H : Heap) : grpK Tryz.prog (run Tryz.prog k) (ropsC C10rrrrrrrrrrrrrrl) ((grps (ropsC C10rrrrrrrrrrrrrrl).toList).drop 16) #[x0,x1,x2,x3,x4,x5,x6,x7,x8,x9,kA,lA,mA,nA,oA,pA,qA,rA,sA,tA,uA,vA,wA,xA,yA,zA,aB,bB,cB,dB,eB,fB,gB,hB,iB,jB,kB,lB,mB,nB,oB,pB,qB,rB,sB,tB,uB,vB,wB,xB,yB,zB,aC,bC,cC,dC,eC,fC,gC,hC,iC,jC,kC,lC,mC,nC,oC,pC,qC,rC,sC,tC,uC,vC,wC,xC,yC,zC,aD,bD,cD,dD,eD,fD,gD,hD,iD,jD,kD,lD,mD,nD,oD,pD,qD,rD,sD,tD,uD,vD,wD,xD,yD,zD,aE,bE,cE,dE,eE,fE,gE,hE,iE,jE,kE,lE,mE] H ((K10_1 k) .normal) = J10_4 k mA oA oD qD H := by
  refine Eq.trans (b :=
    (pPick oD qD (.bool false)).bind fun y95 =>
    condG y95 true
    (
      bindM (lenSt mA) H fun y98 H_1 =>
      (binI .eql y98 (.int .i64 32)).bind fun y99 =>
      grpK Tryz.prog (run Tryz.prog k) (ropsC C10rrrrrrrrrrrrrrl) ((grps (ropsC C10rrrrrrrrrrrrrrl).toList).drop 18) #[x0,x1,x2,x3,x4,x5,x6,x7,x8,x9,kA,lA,mA,nA,oA,pA,qA,rA,sA,tA,uA,vA,wA,xA,yA,zA,aB,bB,cB,dB,eB,fB,gB,hB,iB,jB,kB,lB,mB,nB,oB,pB,qB,rB,sB,tB,uB,vB,wB,xB,yB,zB,aC,bC,cC,dC,eC,fC,gC,hC,iC,jC,kC,lC,mC,nC,oC,pC,qC,rC,sC,tC,uC,vC,wC,xC,yC,zC,aD,bD,cD,dD,eD,fD,gD,hD,iD,jD,kD,lD,mD,nD,oD,pD,qD,y95,y95,mA,y98,y99,wD,xD,yD,zD,aE,bE,cE,dE,eE,fE,gE,hE,iE,jE,kE,lE,mE] H_1 ((K10_1 k) .normal))
    (
      grpK Tryz.prog (run Tryz.prog k) (ropsC C10rrrrrrrrrrrrrrl) ((grps (ropsC C10rrrrrrrrrrrrrrl).toList).drop 18) #[x0,x1,x2,x3,x4,x5,x6,x7,x8,x9,kA,lA,mA,nA,oA,pA,qA,rA,sA,tA,uA,vA,wA,xA,yA,zA,aB,bB,cB,dB,eB,fB,gB,hB,iB,jB,kB,lB,mB,nB,oB,pB,qB,rB,sB,tB,uB,vB,wB,xB,yB,zB,aC,bC,cC,dC,eC,fC,gC,hC,iC,jC,kC,lC,mC,nC,oC,pC,qC,rC,sC,tC,uC,vC,wC,xC,yC,zC,aD,bD,cD,dD,eD,fD,gD,hD,iD,jD,kD,lD,mD,nD,oD,pD,qD,y95,y95,undef,undef,undef,wD,xD,yD,zD,aE,bE,cE,dE,eE,fE,gE,hE,iE,jE,kE,lE,mE] H ((K10_1 k) .normal))) (by kernel_rfl) ?_
  simp only [TJ10_3 k]
  rfl
set_option maxRecDepth 100000 in
theorem TJ10_5 (k : Nat) (x0 x1 x2 x3 x4 x5 x6 x7 x8 x9 kA lA mA nA oA pA qA rA sA tA uA vA wA xA yA zA aB bB cB dB eB fB gB hB iB jB kB lB mB nB oB pB qB rB sB tB uB vB wB xB yB zB aC bC cC dC eC fC gC hC iC jC kC lC mC nC oC pC qC rC sC tC uC vC wC xC yC zC aD bD cD dD eD fD gD hD iD jD kD lD mD nD oD pD qD rD sD tD uD vD wD xD yD zD aE bE cE dE eE fE gE hE iE jE kE lE mE : Value) (H : Heap) : grpK Tryz.prog (run Tryz.prog k) (ropsC C10rrrrrrrrrrrrrrl) ((grps (ropsC C10rrrrrrrrrrrrrrl).toList).drop 14) #[x0,x1,x2,x3,x4,x5,x6,x7,x8,x9,kA,lA,mA,nA,oA,pA,qA,rA,sA,tA,uA,vA,wA,xA,yA,zA,aB,bB,cB,dB,eB,fB,gB,hB,iB,jB,kB,lB,mB,nB,oB,pB,qB,rB,sB,tB,uB,vB,wB,xB,yB,zB,aC,bC,cC,dC,eC,fC,gC,hC,iC,jC,kC,lC,mC,nC,oC,pC,qC,rC,sC,tC,uC,vC,wC,xC,yC,zC,aD,bD,cD,dD,eD,fD,gD,hD,iD,jD,kD,lD,mD,nD,oD,pD,qD,rD,sD,tD,uD,vD,wD,xD,yD,zD,aE,bE,cE,dE,eE,fE,gE,hE,iE,jE,kE,lE,mE] H ((K10_1 k) .normal) = J10_5 k mA nA oA kD mD H := by
  refine Eq.trans (b :=
    (pPick kD mD (.bool false)).bind fun y91 =>
    condG y91 true
    (
      (binI .eql nA (.int .i64 0)).bind fun y94 =>
      grpK Tryz.prog (run Tryz.prog k) (ropsC C10rrrrrrrrrrrrrrl) ((grps (ropsC C10rrrrrrrrrrrrrrl).toList).drop 16) #[x0,x1,x2,x3,x4,x5,x6,x7,x8,x9,kA,lA,mA,nA,oA,pA,qA,rA,sA,tA,uA,vA,wA,xA,yA,zA,aB,bB,cB,dB,eB,fB,gB,hB,iB,jB,kB,lB,mB,nB,oB,pB,qB,rB,sB,tB,uB,vB,wB,xB,yB,zB,aC,bC,cC,dC,eC,fC,gC,hC,iC,jC,kC,lC,mC,nC,oC,pC,qC,rC,sC,tC,uC,vC,wC,xC,yC,zC,aD,bD,cD,dD,eD,fD,gD,hD,iD,jD,kD,lD,mD,y91,y91,nA,y94,rD,sD,tD,uD,vD,wD,xD,yD,zD,aE,bE,cE,dE,eE,fE,gE,hE,iE,jE,kE,lE,mE] H ((K10_1 k) .normal))
    (
      grpK Tryz.prog (run Tryz.prog k) (ropsC C10rrrrrrrrrrrrrrl) ((grps (ropsC C10rrrrrrrrrrrrrrl).toList).drop 16) #[x0,x1,x2,x3,x4,x5,x6,x7,x8,x9,kA,lA,mA,nA,oA,pA,qA,rA,sA,tA,uA,vA,wA,xA,yA,zA,aB,bB,cB,dB,eB,fB,gB,hB,iB,jB,kB,lB,mB,nB,oB,pB,qB,rB,sB,tB,uB,vB,wB,xB,yB,zB,aC,bC,cC,dC,eC,fC,gC,hC,iC,jC,kC,lC,mC,nC,oC,pC,qC,rC,sC,tC,uC,vC,wC,xC,yC,zC,aD,bD,cD,dD,eD,fD,gD,hD,iD,jD,kD,lD,mD,y91,y91,undef,undef,rD,sD,tD,uD,vD,wD,xD,yD,zD,aE,bE,cE,dE,eE,fE,gE,hE,iE,jE,kE,lE,mE] H ((K10_1 k) .normal))) (by kernel_rfl) ?_
  simp only [TJ10_4 k]
  rfl
set_option maxRecDepth 100000 in
theorem TJ10_6 (k : Nat) (x0 x1 x2 x3 x4 x5 x6 x7 x8 x9 kA lA mA nA oA pA qA rA sA tA uA vA wA xA yA zA aB bB cB dB eB fB gB hB iB jB kB lB mB nB oB pB qB rB sB tB uB vB wB xB yB zB aC bC cC dC eC fC gC hC iC jC kC lC mC nC oC pC qC rC sC tC uC vC wC xC yC zC aD bD cD dD eD fD gD hD iD jD kD lD mD nD oD pD qD rD sD tD uD vD wD xD yD zD aE bE cE dE eE fE gE hE iE jE kE lE mE : Value) (H : Heap) : grpK Tryz.prog (run Tryz.prog k) (ropsC C10rrrrrrrrrrrrrrl) ((grps (ropsC C10rrrrrrrrrrrrrrl).toList).drop 12) #[x0,x1,x2,x3,x4,x5,x6,x7,x8,x9,kA,lA,mA,nA,oA,pA,qA,rA,sA,tA,uA,vA,wA,xA,yA,zA,aB,bB,cB,dB,eB,fB,gB,hB,iB,jB,kB,lB,mB,nB,oB,pB,qB,rB,sB,tB,uB,vB,wB,xB,yB,zB,aC,bC,cC,dC,eC,fC,gC,hC,iC,jC,kC,lC,mC,nC,oC,pC,qC,rC,sC,tC,uC,vC,wC,xC,yC,zC,aD,bD,cD,dD,eD,fD,gD,hD,iD,jD,kD,lD,mD,nD,oD,pD,qD,rD,sD,tD,uD,vD,wD,xD,yD,zD,aE,bE,cE,dE,eE,fE,gE,hE,iE,jE,kE,lE,mE] H ((K10_1 k) .normal) = J10_6 k lA mA nA oA gD iD H := by
  refine Eq.trans (b :=
    (pPick gD iD (.bool false)).bind fun y87 =>
    condG y87 true
    (
      (binI .eql lA (.int .i64 0)).bind fun y90 =>
      grpK Tryz.prog (run Tryz.prog k) (ropsC C10rrrrrrrrrrrrrrl) ((grps (ropsC C10rrrrrrrrrrrrrrl).toList).drop 14) #[x0,x1,x2,x3,x4,x5,x6,x7,x8,x9,kA,lA,mA,nA,oA,pA,qA,rA,sA,tA,uA,vA,wA,xA,yA,zA,aB,bB,cB,dB,eB,fB,gB,hB,iB,jB,kB,lB,mB,nB,oB,pB,qB,rB,sB,tB,uB,vB,wB,xB,yB,zB,aC,bC,cC,dC,eC,fC,gC,hC,iC,jC,kC,lC,mC,nC,oC,pC,qC,rC,sC,tC,uC,vC,wC,xC,yC,zC,aD,bD,cD,dD,eD,fD,gD,hD,iD,y87,y87,lA,y90,nD,oD,pD,qD,rD,sD,tD,uD,vD,wD,xD,yD,zD,aE,bE,cE,dE,eE,fE,gE,hE,iE,jE,kE,lE,mE] H ((K10_1 k) .normal))
    (
      grpK Tryz.prog (run Tryz.prog k) (ropsC C10rrrrrrrrrrrrrrl) ((grps (ropsC C10rrrrrrrrrrrrrrl).toList).drop 14) #[x0,x1,x2,x3,x4,x5,x6,x7,x8,x9,kA,lA,mA,nA,oA,pA,qA,rA,sA,tA,uA,vA,wA,xA,yA,zA,aB,bB,cB,dB,eB,fB,gB,hB,iB,jB,kB,lB,mB,nB,oB,pB,qB,rB,sB,tB,uB,vB,wB,xB,yB,zB,aC,bC,cC,dC,eC,fC,gC,hC,iC,jC,kC,lC,mC,nC,oC,pC,qC,rC,sC,tC,uC,vC,wC,xC,yC,zC,aD,bD,cD,dD,eD,fD,gD,hD,iD,y87,y87,undef,undef,nD,oD,pD,qD,rD,sD,tD,uD,vD,wD,xD,yD,zD,aE,bE,cE,dE,eE,fE,gE,hE,iE,jE,kE,lE,mE] H ((K10_1 k) .normal))) (by kernel_rfl) ?_
  simp only [TJ10_5 k]
  rfl
set_option maxRecDepth 100000 in
theorem TJ10_7 (k : Nat) (x0 x1 x2 x3 x4 x5 x6 x7 x8 x9 kA lA mA nA oA pA qA rA sA tA uA vA wA xA yA zA aB bB cB dB eB fB gB hB iB jB kB lB mB nB oB pB qB rB sB tB uB vB wB xB yB zB aC bC cC dC eC fC gC hC iC jC kC lC mC nC oC pC qC rC sC tC uC vC wC xC yC zC aD bD cD dD eD fD gD hD iD jD kD lD mD nD oD pD qD rD sD tD uD vD wD xD yD zD aE bE cE dE eE fE gE hE iE jE kE lE mE : Value) (H : Heap) : grpK Tryz.prog (run Tryz.prog k) (ropsC C10rrrrrrrrrrrrrrl) ((grps (ropsC C10rrrrrrrrrrrrrrl).toList).drop 10) #[x0,x1,x2,x3,x4,x5,x6,x7,x8,x9,kA,lA,mA,nA,oA,pA,qA,rA,sA,tA,uA,vA,wA,xA,yA,zA,aB,bB,cB,dB,eB,fB,gB,hB,iB,jB,kB,lB,mB,nB,oB,pB,qB,rB,sB,tB,uB,vB,wB,xB,yB,zB,aC,bC,cC,dC,eC,fC,gC,hC,iC,jC,kC,lC,mC,nC,oC,pC,qC,rC,sC,tC,uC,vC,wC,xC,yC,zC,aD,bD,cD,dD,eD,fD,gD,hD,iD,jD,kD,lD,mD,nD,oD,pD,qD,rD,sD,tD,uD,vD,wD,xD,yD,zD,aE,bE,cE,dE,eE,fE,gE,hE,iE,jE,kE,lE,mE] H ((K10_1 k) .normal) = J10_7 k kA lA mA nA oA cD eD H := by
  refine Eq.trans (b :=
    (pPick cD eD (.bool false)).bind fun y83 =>
    condG y83 true
    (
      (binI .eql kA (.int .i64 0)).bind fun y86 =>
      grpK Tryz.prog (run Tryz.prog k) (ropsC C10rrrrrrrrrrrrrrl) ((grps (ropsC C10rrrrrrrrrrrrrrl).toList).drop 12) #[x0,x1,x2,x3,x4,x5,x6,x7,x8,x9,kA,lA,mA,nA,oA,pA,qA,rA,sA,tA,uA,vA,wA,xA,yA,zA,aB,bB,cB,dB,eB,fB,gB,hB,iB,jB,kB,lB,mB,nB,oB,pB,qB,rB,sB,tB,uB,vB,wB,xB,yB,zB,aC,bC,cC,dC,eC,fC,gC,hC,iC,jC,kC,lC,mC,nC,oC,pC,qC,rC,sC,tC,uC,vC,wC,xC,yC,zC,aD,bD,cD,dD,eD,y83,y83,kA,y86,jD,kD,lD,mD,nD,oD,pD,qD,rD,sD,tD,uD,vD,wD,xD,yD,zD,aE,bE,cE,dE,eE,fE,gE,hE,iE,jE,kE,lE,mE] H ((K10_1 k) .normal))
    (
      grpK Tryz.prog (run Tryz.prog k) (ropsC C10rrrrrrrrrrrrrrl) ((grps (ropsC C10rrrrrrrrrrrrrrl).toList).drop 12) #[x0,x1,x2,x3,x4,x5,x6,x7,x8,x9,kA,lA,mA,nA,oA,pA,qA,rA,sA,tA,uA,vA,wA,xA,yA,zA,aB,bB,cB,dB,eB,fB,gB,hB,iB,jB,kB,lB,mB,nB,oB,pB,qB,rB,sB,tB,uB,vB,wB,xB,yB,zB,aC,bC,cC,dC,eC,fC,gC,hC,iC,jC,kC,lC,mC,nC,oC,pC,qC,rC,sC,tC,uC,vC,wC,xC,yC,zC,aD,bD,cD,dD,eD,y83,y83,undef,undef,jD,kD,lD,mD,nD,oD,pD,qD,rD,sD,tD,uD,vD,wD,xD,yD,zD,aE,bE,cE,dE,eE,fE,gE,hE,iE,jE,kE,lE,mE] H ((K10_1 k) .normal))) (by kernel_rfl) ?_
  simp only [TJ10_6 k]
  rfl
set_option maxRecDepth 100000 in
theorem TJ10_8 (k : Nat) (x0 x1 x2 x3 x4 x5 x6 x7 x8 x9 kA lA mA nA oA pA qA rA sA tA uA vA wA xA yA zA aB bB cB dB eB fB gB hB iB jB kB lB mB nB oB pB qB rB sB tB uB vB wB xB yB zB aC bC cC dC eC fC gC hC iC jC kC lC mC nC oC pC qC rC sC tC uC vC wC xC yC zC aD bD cD dD eD fD gD hD iD jD kD lD mD nD oD pD qD rD sD tD uD vD wD xD yD zD aE bE cE dE eE fE gE hE iE jE kE lE mE : Value) (H : Heap) : grpK Tryz.prog (run Tryz.prog k) (ropsC C10rrrrrrrrrrrrrrl) ((grps (ropsC C10rrrrrrrrrrrrrrl).toList).drop 8) #[x0,x1,x2,x3,x4,x5,x6,x7,x8,x9,kA,lA,mA,nA,oA,pA,qA,rA,sA,tA,uA,vA,wA,xA,yA,zA,aB,bB,cB,dB,eB,fB,gB,hB,iB,jB,kB,lB,mB,nB,oB,pB,qB,rB,sB,tB,uB,vB,wB,xB,yB,zB,aC,bC,cC,dC,eC,fC,gC,hC,iC,jC,kC,lC,mC,nC,oC,pC,qC,rC,sC,tC,uC,vC,wC,xC,yC,zC,aD,bD,cD,dD,eD,fD,gD,hD,iD,jD,kD,lD,mD,nD,oD,pD,qD,rD,sD,tD,uD,vD,wD,xD,yD,zD,aE,bE,cE,dE,eE,fE,gE,hE,iE,jE,kE,lE,mE] H ((K10_1 k) .normal) = J10_8 k x9 kA lA mA nA oA yC aD H := by
  refine Eq.trans (b :=
    (pPick yC aD (.bool false)).bind fun y79 =>
    condG y79 true
    (
      (binI .eql x9 (.int .i64 0)).bind fun y82 =>
      grpK Tryz.prog (run Tryz.prog k) (ropsC C10rrrrrrrrrrrrrrl) ((grps (ropsC C10rrrrrrrrrrrrrrl).toList).drop 10) #[x0,x1,x2,x3,x4,x5,x6,x7,x8,x9,kA,lA,mA,nA,oA,pA,qA,rA,sA,tA,uA,vA,wA,xA,yA,zA,aB,bB,cB,dB,eB,fB,gB,hB,iB,jB,kB,lB,mB,nB,oB,pB,qB,rB,sB,tB,uB,vB,wB,xB,yB,zB,aC,bC,cC,dC,eC,fC,gC,hC,iC,jC,kC,lC,mC,nC,oC,pC,qC,rC,sC,tC,uC,vC,wC,xC,yC,zC,aD,y79,y79,x9,y82,fD,gD,hD,iD,jD,kD,lD,mD,nD,oD,pD,qD,rD,sD,tD,uD,vD,wD,xD,yD,zD,aE,bE,cE,dE,eE,fE,gE,hE,iE,jE,kE,lE,mE] H ((K10_1 k) .normal))
    (
      grpK Tryz.prog (run Tryz.prog k) (ropsC C10rrrrrrrrrrrrrrl) ((grps (ropsC C10rrrrrrrrrrrrrrl).toList).drop 10) #[x0,x1,x2,x3,x4,x5,x6,x7,x8,x9,kA,lA,mA,nA,oA,pA,qA,rA,sA,tA,uA,vA,wA,xA,yA,zA,aB,bB,cB,dB,eB,fB,gB,hB,iB,jB,kB,lB,mB,nB,oB,pB,qB,rB,sB,tB,uB,vB,wB,xB,yB,zB,aC,bC,cC,dC,eC,fC,gC,hC,iC,jC,kC,lC,mC,nC,oC,pC,qC,rC,sC,tC,uC,vC,wC,xC,yC,zC,aD,y79,y79,undef,undef,fD,gD,hD,iD,jD,kD,lD,mD,nD,oD,pD,qD,rD,sD,tD,uD,vD,wD,xD,yD,zD,aE,bE,cE,dE,eE,fE,gE,hE,iE,jE,kE,lE,mE] H ((K10_1 k) .normal))) (by kernel_rfl) ?_
  simp only [TJ10_7 k]
  rfl
set_option maxRecDepth 100000 in
theorem TJ10_9 (k : Nat) (x0 x1 x2 x3 x4 x5 x6 x7 x8 x9 kA lA mA nA oA pA qA rA sA tA uA vA wA xA yA zA aB bB cB dB eB fB gB hB iB jB kB lB mB nB oB pB qB rB sB tB uB vB wB xB yB zB aC bC cC dC eC fC gC hC iC jC kC lC mC nC oC pC qC rC sC tC uC vC wC xC yC zC aD bD cD dD eD fD gD hD iD jD kD lD mD nD oD pD qD rD sD tD uD vD wD xD yD zD aE bE cE dE eE fE gE hE iE jE kE lE mE : Value) (H : Heap) : grpK Tryz.prog (run Tryz.prog k) (ropsC C10rrrrrrrrrrrrrrl) ((grps (ropsC C10rrrrrrrrrrrrrrl).toList).drop 6) #[x0,x1,x2,x3,x4,x5,x6,x7,x8,x9,kA,lA,mA,nA,oA,pA,qA,rA,sA,tA,uA,vA,wA,xA,yA,zA,aB,bB,cB,dB,eB,fB,gB,hB,iB,jB,kB,lB,mB,nB,oB,pB,qB,rB,sB,tB,uB,vB,wB,xB,yB,zB,aC,bC,cC,dC,eC,fC,gC,hC,iC,jC,kC,lC,mC,nC,oC,pC,qC,rC,sC,tC,uC,vC,wC,xC,yC,zC,aD,bD,cD,dD,eD,fD,gD,hD,iD,jD,kD,lD,mD,nD,oD,pD,qD,rD,sD,tD,uD,vD,wD,xD,yD,zD,aE,bE,cE,dE,eE,fE,gE,hE,iE,jE,kE,lE,mE] H ((K10_1 k) .normal) = J10_9 k x8 x9 kA lA mA nA oA rC wC H := by
  refine Eq.trans (b :=
    (pPick rC wC (.bool false)).bind fun y75 =>
    condG y75 true
    (
      (binI .eql x8 (.int .i64 2)).bind fun y78 =>
      grpK Tryz.prog (run Tryz.prog k) (ropsC C10rrrrrrrrrrrrrrl) ((grps (ropsC C10rrrrrrrrrrrrrrl).toList).drop 8) #[x0,x1,x2,x3,x4,x5,x6,x7,x8,x9,kA,lA,mA,nA,oA,pA,qA,rA,sA,tA,uA,vA,wA,xA,yA,zA,aB,bB,cB,dB,eB,fB,gB,hB,iB,jB,kB,lB,mB,nB,oB,pB,qB,rB,sB,tB,uB,vB,wB,xB,yB,zB,aC,bC,cC,dC,eC,fC,gC,hC,iC,jC,kC,lC,mC,nC,oC,pC,qC,rC,sC,tC,uC,vC,wC,y75,y75,x8,y78,bD,cD,dD,eD,fD,gD,hD,iD,jD,kD,lD,mD,nD,oD,pD,qD,rD,sD,tD,uD,vD,wD,xD,yD,zD,aE,bE,cE,dE,eE,fE,gE,hE,iE,jE,kE,lE,mE] H ((K10_1 k) .normal))
    (
      grpK Tryz.prog (run Tryz.prog k) (ropsC C10rrrrrrrrrrrrrrl) ((grps (ropsC C10rrrrrrrrrrrrrrl).toList).drop 8) #[x0,x1,x2,x3,x4,x5,x6,x7,x8,x9,kA,lA,mA,nA,oA,pA,qA,rA,sA,tA,uA,vA,wA,xA,yA,zA,aB,bB,cB,dB,eB,fB,gB,hB,iB,jB,kB,lB,mB,nB,oB,pB,qB,rB,sB,tB,uB,vB,wB,xB,yB,zB,aC,bC,cC,dC,eC,fC,gC,hC,iC,jC,kC,lC,mC,nC,oC,pC,qC,rC,sC,tC,uC,vC,wC,y75,y75,undef,undef,bD,cD,dD,eD,fD,gD,hD,iD,jD,kD,lD,mD,nD,oD,pD,qD,rD,sD,tD,uD,vD,wD,xD,yD,zD,aE,bE,cE,dE,eE,fE,gE,hE,iE,jE,kE,lE,mE] H ((K10_1 k) .normal))) (by kernel_rfl) ?_
  simp only [TJ10_8 k]
  rfl
set_option maxRecDepth 100000 in
theorem TJ10_10 (k : Nat) (x0 x1 x2 x3 x4 x5 x6 x7 x8 x9 kA lA mA nA oA pA qA rA sA tA uA vA wA xA yA zA aB bB cB dB eB fB gB hB iB jB kB lB mB nB oB pB qB rB sB tB uB vB wB xB yB zB aC bC cC dC eC fC gC hC iC jC kC lC mC nC oC pC qC rC sC tC uC vC wC xC yC zC aD bD cD dD eD fD gD hD iD jD kD lD mD nD oD pD qD rD sD tD uD vD wD xD yD zD aE bE cE dE eE fE gE hE iE jE kE lE mE : Value) (H : Heap) : grpK Tryz.prog (run Tryz.prog k) (ropsC C10rrrrrrrrrrrrrrl) ((grps (ropsC C10rrrrrrrrrrrrrrl).toList).drop 4) #[x0,x1,x2,x3,x4,x5,x6,x7,x8,x9,kA,lA,mA,nA,oA,pA,qA,rA,sA,tA,uA,vA,wA,xA,yA,zA,aB,bB,cB,dB,eB,fB,gB,hB,iB,jB,kB,lB,mB,nB,oB,pB,qB,rB,sB,tB,uB,vB,wB,xB,yB,zB,aC,bC,cC,dC,eC,fC,gC,hC,iC,jC,kC,lC,mC,nC,oC,pC,qC,rC,sC,tC,uC,vC,wC,xC,yC,zC,aD,bD,cD,dD,eD,fD,gD,hD,iD,jD,kD,lD,mD,nD,oD,pD,qD,rD,sD,tD,uD,vD,wD,xD,yD,zD,aE,bE,cE,dE,eE,fE,gE,hE,iE,jE,kE,lE,mE] H ((K10_1 k) .normal) = J10_10 k x7 x8 x9 kA lA mA nA oA mC pC H := by
  refine Eq.trans (b :=
    (pPick mC pC (.bool false)).bind fun y68 =>
    condG y68 true
    (
      (idxSl 3 x7 (.int .i64 1)).bind fun y71 =>
      (ldV true 3 y71 H).bind fun y72 =>
      (pBuild Tryz.prog 49 [(0, (.string ⟨#[98]⟩)), (1, (.int .i64 12)), (2, (.int .i64 6))]).bind fun y73 =>
      (binE Tryz.prog .eql 49 false y72 y73).bind fun y74 =>
      grpK Tryz.prog (run Tryz.prog k) (ropsC C10rrrrrrrrrrrrrrl) ((grps (ropsC C10rrrrrrrrrrrrrrl).toList).drop 6) #[x0,x1,x2,x3,x4,x5,x6,x7,x8,x9,kA,lA,mA,nA,oA,pA,qA,rA,sA,tA,uA,vA,wA,xA,yA,zA,aB,bB,cB,dB,eB,fB,gB,hB,iB,jB,kB,lB,mB,nB,oB,pB,qB,rB,sB,tB,uB,vB,wB,xB,yB,zB,aC,bC,cC,dC,eC,fC,gC,hC,iC,jC,kC,lC,mC,nC,oC,pC,y68,y68,x7,y71,y72,y73,y74,xC,yC,zC,aD,bD,cD,dD,eD,fD,gD,hD,iD,jD,kD,lD,mD,nD,oD,pD,qD,rD,sD,tD,uD,vD,wD,xD,yD,zD,aE,bE,cE,dE,eE,fE,gE,hE,iE,jE,kE,lE,mE] H ((K10_1 k) .normal))
    (
      grpK Tryz.prog (run Tryz.prog k) (ropsC C10rrrrrrrrrrrrrrl) ((grps (ropsC C10rrrrrrrrrrrrrrl).toList).drop 6) #[x0,x1,x2,x3,x4,x5,x6,x7,x8,x9,kA,lA,mA,nA,oA,pA,qA,rA,sA,tA,uA,vA,wA,xA,yA,zA,aB,bB,cB,dB,eB,fB,gB,hB,iB,jB,kB,lB,mB,nB,oB,pB,qB,rB,sB,tB,uB,vB,wB,xB,yB,zB,aC,bC,cC,dC,eC,fC,gC,hC,iC,jC,kC,lC,mC,nC,oC,pC,y68,y68,undef,undef,undef,undef,undef,xC,yC,zC,aD,bD,cD,dD,eD,fD,gD,hD,iD,jD,kD,lD,mD,nD,oD,pD,qD,rD,sD,tD,uD,vD,wD,xD,yD,zD,aE,bE,cE,dE,eE,fE,gE,hE,iE,jE,kE,lE,mE] H ((K10_1 k) .normal))) (by kernel_rfl) ?_
  simp only [TJ10_9 k]
  rfl
set_option maxRecDepth 100000 in
theorem TJ10_11 (k : Nat) (x0 x1 x2 x3 x4 x5 x6 x7 x8 x9 kA lA mA nA oA pA qA rA sA tA uA vA wA xA yA zA aB bB cB dB eB fB gB hB iB jB kB lB mB nB oB pB qB rB sB tB uB vB wB xB yB zB aC bC cC dC eC fC gC hC iC jC kC lC mC nC oC pC qC rC sC tC uC vC wC xC yC zC aD bD cD dD eD fD gD hD iD jD kD lD mD nD oD pD qD rD sD tD uD vD wD xD yD zD aE bE cE dE eE fE gE hE iE jE kE lE mE : Value) (H : Heap) : grpK Tryz.prog (run Tryz.prog k) (ropsC C10rrrrrrrrrrrrrrl) ((grps (ropsC C10rrrrrrrrrrrrrrl).toList).drop 2) #[x0,x1,x2,x3,x4,x5,x6,x7,x8,x9,kA,lA,mA,nA,oA,pA,qA,rA,sA,tA,uA,vA,wA,xA,yA,zA,aB,bB,cB,dB,eB,fB,gB,hB,iB,jB,kB,lB,mB,nB,oB,pB,qB,rB,sB,tB,uB,vB,wB,xB,yB,zB,aC,bC,cC,dC,eC,fC,gC,hC,iC,jC,kC,lC,mC,nC,oC,pC,qC,rC,sC,tC,uC,vC,wC,xC,yC,zC,aD,bD,cD,dD,eD,fD,gD,hD,iD,jD,kD,lD,mD,nD,oD,pD,qD,rD,sD,tD,uD,vD,wD,xD,yD,zD,aE,bE,cE,dE,eE,fE,gE,hE,iE,jE,kE,lE,mE] H ((K10_1 k) .normal) = J10_11 k x7 x8 x9 kA lA mA nA oA iC kC H := by
  refine Eq.trans (b :=
    (pPick iC kC (.bool false)).bind fun y63 =>
    condG y63 true
    (
      bindM (lenSl x7) H fun y66 H_1 =>
      (binI .eql y66 (.int .i64 2)).bind fun y67 =>
      grpK Tryz.prog (run Tryz.prog k) (ropsC C10rrrrrrrrrrrrrrl) ((grps (ropsC C10rrrrrrrrrrrrrrl).toList).drop 4) #[x0,x1,x2,x3,x4,x5,x6,x7,x8,x9,kA,lA,mA,nA,oA,pA,qA,rA,sA,tA,uA,vA,wA,xA,yA,zA,aB,bB,cB,dB,eB,fB,gB,hB,iB,jB,kB,lB,mB,nB,oB,pB,qB,rB,sB,tB,uB,vB,wB,xB,yB,zB,aC,bC,cC,dC,eC,fC,gC,hC,iC,jC,kC,y63,y63,x7,y66,y67,qC,rC,sC,tC,uC,vC,wC,xC,yC,zC,aD,bD,cD,dD,eD,fD,gD,hD,iD,jD,kD,lD,mD,nD,oD,pD,qD,rD,sD,tD,uD,vD,wD,xD,yD,zD,aE,bE,cE,dE,eE,fE,gE,hE,iE,jE,kE,lE,mE] H_1 ((K10_1 k) .normal))
    (
      grpK Tryz.prog (run Tryz.prog k) (ropsC C10rrrrrrrrrrrrrrl) ((grps (ropsC C10rrrrrrrrrrrrrrl).toList).drop 4) #[x0,x1,x2,x3,x4,x5,x6,x7,x8,x9,kA,lA,mA,nA,oA,pA,qA,rA,sA,tA,uA,vA,wA,xA,yA,zA,aB,bB,cB,dB,eB,fB,gB,hB,iB,jB,kB,lB,mB,nB,oB,pB,qB,rB,sB,tB,uB,vB,wB,xB,yB,zB,aC,bC,cC,dC,eC,fC,gC,hC,iC,jC,kC,y63,y63,undef,undef,undef,qC,rC,sC,tC,uC,vC,wC,xC,yC,zC,aD,bD,cD,dD,eD,fD,gD,hD,iD,jD,kD,lD,mD,nD,oD,pD,qD,rD,sD,tD,uD,vD,wD,xD,yD,zD,aE,bE,cE,dE,eE,fE,gE,hE,iE,jE,kE,lE,mE] H ((K10_1 k) .normal))) (by kernel_rfl) ?_
  simp only [TJ10_10 k]
  rfl
set_option maxRecDepth 100000 in
theorem TJ10_12 (k : Nat) (x0 x1 x2 x3 x4 x5 x6 x7 x8 x9 kA lA mA nA oA pA qA rA sA tA uA vA wA xA yA zA aB bB cB dB eB fB gB hB iB jB kB lB mB nB oB pB qB rB sB tB uB vB wB xB yB zB aC bC cC dC eC fC gC hC iC jC kC lC mC nC oC pC qC rC sC tC uC vC wC xC yC zC aD bD cD dD eD fD gD hD iD jD kD lD mD nD oD pD qD rD sD tD uD vD wD xD yD zD aE bE cE dE eE fE gE hE iE jE kE lE mE : Value) (H : Heap) : grpK Tryz.prog (run Tryz.prog k) (ropsC C10rrrrll) ((grps (ropsC C10rrrrll).toList).drop 2) #[x0,x1,x2,x3,x4,x5,x6,x7,x8,x9,kA,lA,mA,nA,oA,pA,qA,rA,sA,tA,uA,vA,wA,xA,yA,zA,aB,bB,cB,dB,eB,fB,gB,hB,iB,jB,kB,lB,mB,nB,oB,pB,qB,rB,sB,tB,uB,vB,wB,xB,yB,zB,aC,bC,cC,dC,eC,fC,gC,hC,iC,jC,kC,lC,mC,nC,oC,pC,qC,rC,sC,tC,uC,vC,wC,xC,yC,zC,aD,bD,cD,dD,eD,fD,gD,hD,iD,jD,kD,lD,mD,nD,oD,pD,qD,rD,sD,tD,uD,vD,wD,xD,yD,zD,aE,bE,cE,dE,eE,fE,gE,hE,iE,jE,kE,lE,mE] H ((K10_3 k) .normal) = J10_12 k x3 hB jB H := by
  refine Eq.trans (b :=
    (pPick hB (.bool true) jB).bind fun y36 =>
    condV y36
    (
      some ((.bool false), H))
    (
      bindP (run Tryz.prog k 27 #[x3, (.string ⟨#[97]⟩), (.int .i64 4)] H) fun y38 H_1 =>
      bindP (run Tryz.prog k 27 #[x3, (.string ⟨#[98]⟩), (.int .i64 6)] H_1) fun y40 H_2 =>
      bindP (run Tryz.prog k 23 #[x3] H_2) fun y42 H_3 =>
      bindP (run Tryz.prog k 24 #[x3] H_3) fun y44 H_4 =>
      bindP (run Tryz.prog k 26 #[x3, (.string ⟨#[97]⟩), (.int .i64 0), (.int .i64 1), (.string ⟨#[104,105]⟩)] H_4) fun y46 H_5 =>
      bindP (run Tryz.prog k 29 #[x3, (.string ⟨#[98]⟩)] H_5) fun y48 H_6 =>
      bindP (run Tryz.prog k 42 #[x3, (.string ⟨#[97]⟩), (.string ⟨#[195,169]⟩)] H_6) fun y50 H_7 =>
      bindP (run Tryz.prog k 25 #[x3, (.string ⟨#[195,169]⟩), (.int .i64 0), (.int .i64 1)] H_7) fun y53 H_8 =>
      (pExtract y53 0).bind fun y54 =>
      (pExtract y53 1).bind fun y55 =>
      bindP (run Tryz.prog k 28 #[x3, (.string ⟨#[97]⟩), (.string ⟨#[98]⟩)] H_8) fun y57 H_9 =>
      (binI .eql y38 (.int .i64 0)).bind fun y59 =>
      condG y59 true
      (
        (binI .eql y40 (.int .i64 0)).bind fun y62 =>
        grpK Tryz.prog (run Tryz.prog k) (ropsC C10rrrrrrrrrrrrrrl) ((grps (ropsC C10rrrrrrrrrrrrrrl).toList).drop 2) #[x0,x1,x2,x3,x4,y38,y40,y42,y44,y46,y48,y50,y54,y55,y57,pA,qA,rA,sA,tA,uA,vA,wA,xA,yA,zA,aB,bB,cB,dB,eB,fB,gB,hB,iB,jB,y36,x3,y38,x3,y40,x3,y42,x3,y44,x3,y46,x3,y48,x3,y50,y53,x3,y53,y54,y55,x3,y57,y38,y59,y59,y40,y62,lC,mC,nC,oC,pC,qC,rC,sC,tC,uC,vC,wC,xC,yC,zC,aD,bD,cD,dD,eD,fD,gD,hD,iD,jD,kD,lD,mD,nD,oD,pD,qD,rD,sD,tD,uD,vD,wD,xD,yD,zD,aE,bE,cE,dE,eE,fE,gE,hE,iE,jE,kE,lE,mE] H_9 ((K10_1 k) .normal))
      (
        grpK Tryz.prog (run Tryz.prog k) (ropsC C10rrrrrrrrrrrrrrl) ((grps (ropsC C10rrrrrrrrrrrrrrl).toList).drop 2) #[x0,x1,x2,x3,x4,y38,y40,y42,y44,y46,y48,y50,y54,y55,y57,pA,qA,rA,sA,tA,uA,vA,wA,xA,yA,zA,aB,bB,cB,dB,eB,fB,gB,hB,iB,jB,y36,x3,y38,x3,y40,x3,y42,x3,y44,x3,y46,x3,y48,x3,y50,y53,x3,y53,y54,y55,x3,y57,y38,y59,y59,undef,undef,lC,mC,nC,oC,pC,qC,rC,sC,tC,uC,vC,wC,xC,yC,zC,aD,bD,cD,dD,eD,fD,gD,hD,iD,jD,kD,lD,mD,nD,oD,pD,qD,rD,sD,tD,uD,vD,wD,xD,yD,zD,aE,bE,cE,dE,eE,fE,gE,hE,iE,jE,kE,lE,mE] H_9 ((K10_1 k) .normal)))) (by kernel_rfl) ?_
  simp only [TJ10_11 k]
  rfl
set_option maxRecDepth 100000 in
theorem TJ10_13 (k : Nat) (x0 x1 x2 x3 x4 x5 x6 x7 x8 x9 kA lA mA nA oA pA qA rA sA tA uA vA wA xA yA zA aB bB cB dB eB fB gB hB iB jB kB lB mB nB oB pB qB rB sB tB uB vB wB xB yB zB aC bC cC dC eC fC gC hC iC jC kC lC mC nC oC pC qC rC sC tC uC vC wC xC yC zC aD bD cD dD eD fD gD hD iD jD kD lD mD nD oD pD qD rD sD tD uD vD wD xD yD zD aE bE cE dE eE fE gE hE iE jE kE lE mE : Value) (H : Heap) : grpK Tryz.prog (run Tryz.prog k) (ropsC C10rrll) ((grps (ropsC C10rrll).toList).drop 2) #[x0,x1,x2,x3,x4,x5,x6,x7,x8,x9,kA,lA,mA,nA,oA,pA,qA,rA,sA,tA,uA,vA,wA,xA,yA,zA,aB,bB,cB,dB,eB,fB,gB,hB,iB,jB,kB,lB,mB,nB,oB,pB,qB,rB,sB,tB,uB,vB,wB,xB,yB,zB,aC,bC,cC,dC,eC,fC,gC,hC,iC,jC,kC,lC,mC,nC,oC,pC,qC,rC,sC,tC,uC,vC,wC,xC,yC,zC,aD,bD,cD,dD,eD,fD,gD,hD,iD,jD,kD,lD,mD,nD,oD,pD,qD,rD,sD,tD,uD,vD,wD,xD,yD,zD,aE,bE,cE,dE,eE,fE,gE,hE,iE,jE,kE,lE,mE] H ((K10_5 k) .normal) = J10_13 k x1 vA xA H := by
  refine Eq.trans (b :=
    (pPick vA (.bool true) xA).bind fun y24 =>
    condV y24
    (
      some ((.bool false), H))
    (
      bindP (run Tryz.prog k 17 #[(.iface 25 x1)] H) fun y28 H_1 =>
      (pExtract y28 0).bind fun y29 =>
      (pExtract y28 1).bind fun y30 =>
      (binI .neq y30 (.int .i64 0)).bind fun y32 =>
      condG y32 false
      (
        (binE Tryz.prog .eql 33 true y29 (.pointer none)).bind fun y35 =>
        grpK Tryz.prog (run Tryz.prog k) (ropsC C10rrrrll) ((grps (ropsC C10rrrrll).toList).drop 2) #[x0,x1,x2,y29,y30,x5,x6,x7,x8,x9,kA,lA,mA,nA,oA,pA,qA,rA,sA,tA,uA,vA,wA,xA,y24,y28,x1,(.iface 25 x1),y28,y29,y30,y30,y32,y32,y29,y35,kB,lB,mB,nB,oB,pB,qB,rB,sB,tB,uB,vB,wB,xB,yB,zB,aC,bC,cC,dC,eC,fC,gC,hC,iC,jC,kC,lC,mC,nC,oC,pC,qC,rC,sC,tC,uC,vC,wC,xC,yC,zC,aD,bD,cD,dD,eD,fD,gD,hD,iD,jD,kD,lD,mD,nD,oD,pD,qD,rD,sD,tD,uD,vD,wD,xD,yD,zD,aE,bE,cE,dE,eE,fE,gE,hE,iE,jE,kE,lE,mE] H_1 ((K10_3 k) .normal))
      (
        grpK Tryz.prog (run Tryz.prog k) (ropsC C10rrrrll) ((grps (ropsC C10rrrrll).toList).drop 2) #[x0,x1,x2,y29,y30,x5,x6,x7,x8,x9,kA,lA,mA,nA,oA,pA,qA,rA,sA,tA,uA,vA,wA,xA,y24,y28,x1,(.iface 25 x1),y28,y29,y30,y30,y32,y32,undef,undef,kB,lB,mB,nB,oB,pB,qB,rB,sB,tB,uB,vB,wB,xB,yB,zB,aC,bC,cC,dC,eC,fC,gC,hC,iC,jC,kC,lC,mC,nC,oC,pC,qC,rC,sC,tC,uC,vC,wC,xC,yC,zC,aD,bD,cD,dD,eD,fD,gD,hD,iD,jD,kD,lD,mD,nD,oD,pD,qD,rD,sD,tD,uD,vD,wD,xD,yD,zD,aE,bE,cE,dE,eE,fE,gE,hE,iE,jE,kE,lE,mE] H_1 ((K10_3 k) .normal)))) (by kernel_rfl) ?_
  simp only [TJ10_12 k]
  rfl
set_option maxRecDepth 100000 in
theorem TF10 (k : Nat) (x0 x1 x2 x3 x4 x5 x6 x7 x8 x9 kA lA mA nA oA pA qA rA sA tA uA vA wA xA yA zA aB bB cB dB eB fB gB hB iB jB kB lB mB nB oB pB qB rB sB tB uB vB wB xB yB zB aC bC cC dC eC fC gC hC iC jC kC lC mC nC oC pC qC rC sC tC uC vC wC xC yC zC aD bD cD dD eD fD gD hD iD jD kD lD mD nD oD pD qD rD sD tD uD vD wD xD yD zD aE bE cE dE eE fE gE hE iE jE kE lE mE : Value) (H : Heap) : denK Tryz.prog (run Tryz.prog k) k C10l (K10_6 k) #[x0,x1,x2,x3,x4,x5,x6,x7,x8,x9,kA,lA,mA,nA,oA,pA,qA,rA,sA,tA,uA,vA,wA,xA,yA,zA,aB,bB,cB,dB,eB,fB,gB,hB,iB,jB,kB,lB,mB,nB,oB,pB,qB,rB,sB,tB,uB,vB,wB,xB,yB,zB,aC,bC,cC,dC,eC,fC,gC,hC,iC,jC,kC,lC,mC,nC,oC,pC,qC,rC,sC,tC,uC,vC,wC,xC,yC,zC,aD,bD,cD,dD,eD,fD,gD,hD,iD,jD,kD,lD,mD,nD,oD,pD,qD,rD,sD,tD,uD,vD,wD,xD,yD,zD,aE,bE,cE,dE,eE,fE,gE,hE,iE,jE,kE,lE,mE] H = F10 k H := by
  refine Eq.trans (b :=
    bindP (run Tryz.prog k 13 #[(.int .i64 20)] H) fun y16 H_1 =>
    (pExtract y16 0).bind fun y17 =>
    (pExtract y16 1).bind fun y18 =>
    (binI .neq y18 (.int .i64 0)).bind fun y20 =>
    condG y20 false
    (
      (binE Tryz.prog .eql 25 true y17 (.pointer none)).bind fun y23 =>
      grpK Tryz.prog (run Tryz.prog k) (ropsC C10rrll) ((grps (ropsC C10rrll).toList).drop 2) #[(.bool false),y17,y18,x3,x4,x5,x6,x7,x8,x9,kA,lA,mA,nA,oA,y16,y16,y17,y18,y18,y20,y20,y17,y23,yA,zA,aB,bB,cB,dB,eB,fB,gB,hB,iB,jB,kB,lB,mB,nB,oB,pB,qB,rB,sB,tB,uB,vB,wB,xB,yB,zB,aC,bC,cC,dC,eC,fC,gC,hC,iC,jC,kC,lC,mC,nC,oC,pC,qC,rC,sC,tC,uC,vC,wC,xC,yC,zC,aD,bD,cD,dD,eD,fD,gD,hD,iD,jD,kD,lD,mD,nD,oD,pD,qD,rD,sD,tD,uD,vD,wD,xD,yD,zD,aE,bE,cE,dE,eE,fE,gE,hE,iE,jE,kE,lE,mE] H_1 ((K10_5 k) .normal))
    (
      grpK Tryz.prog (run Tryz.prog k) (ropsC C10rrll) ((grps (ropsC C10rrll).toList).drop 2) #[(.bool false),y17,y18,x3,x4,x5,x6,x7,x8,x9,kA,lA,mA,nA,oA,y16,y16,y17,y18,y18,y20,y20,undef,undef,yA,zA,aB,bB,cB,dB,eB,fB,gB,hB,iB,jB,kB,lB,mB,nB,oB,pB,qB,rB,sB,tB,uB,vB,wB,xB,yB,zB,aC,bC,cC,dC,eC,fC,gC,hC,iC,jC,kC,lC,mC,nC,oC,pC,qC,rC,sC,tC,uC,vC,wC,xC,yC,zC,aD,bD,cD,dD,eD,fD,gD,hD,iD,jD,kD,lD,mD,nD,oD,pD,qD,rD,sD,tD,uD,vD,wD,xD,yD,zD,aE,bE,cE,dE,eE,fE,gE,hE,iE,jE,kE,lE,mE] H_1 ((K10_5 k) .normal))) (by kernel_rfl) ?_
  simp only [TJ10_13 k]
  rfl
set_option maxRecDepth 100000 in
theorem run10 (k : Nat) (H : Heap) : run Tryz.prog (k + 1) 10 #[] H = F10 k H := by
  refine Eq.trans (b := denK Tryz.prog (run Tryz.prog k) k C10l (K10_6 k) #[undef,undef,undef,undef,undef,undef,undef,undef,undef,undef,undef,undef,undef,undef,undef,undef,undef,undef,undef,undef,undef,undef,undef,undef,undef,undef,undef,undef,undef,undef,undef,undef,undef,undef,undef,undef,undef,undef,undef,undef,undef,undef,undef,undef,undef,undef,undef,undef,undef,undef,undef,undef,undef,undef,undef,undef,undef,undef,undef,undef,undef,undef,undef,undef,undef,undef,undef,undef,undef,undef,undef,undef,undef,undef,undef,undef,undef,undef,undef,undef,undef,undef,undef,undef,undef,undef,undef,undef,undef,undef,undef,undef,undef,undef,undef,undef,undef,undef,undef,undef,undef,undef,undef,undef,undef,undef,undef,undef,undef,undef,undef,undef,undef,undef,undef,undef,undef] H) (by kernel_rfl) ?_
  exact TF10 k undef undef undef undef undef undef undef undef undef undef undef undef undef undef undef undef undef undef undef undef undef undef undef undef undef undef undef undef undef undef undef undef undef undef undef undef undef undef undef undef undef undef undef undef undef undef undef undef undef undef undef undef undef undef undef undef undef undef undef undef undef undef undef undef undef undef undef undef undef undef undef undef undef undef undef undef undef undef undef undef undef undef undef undef undef undef undef undef undef undef undef undef undef undef undef undef undef undef undef undef undef undef undef undef undef undef undef undef undef undef undef undef undef undef undef undef undef H

end Go.PG

namespace Go.PG
open Go.Proofs

noncomputable def C17l : Code := sub [.l] (bodyOf Tryz.f17)
noncomputable def C17r : Code := sub [.r] (bodyOf Tryz.f17)
noncomputable def C17rlrrrrrlrll : Code := sub [.r, .l, .r, .r, .r, .r, .r, .l, .r, .l, .l] (bodyOf Tryz.f17)
noncomputable def C17rlrrrrrlrllrrllrrrlrll : Code := sub [.r, .l, .r, .r, .r, .r, .r, .l, .r, .l, .l, .r, .r, .l, .l, .r, .r, .r, .l, .r, .l, .l] (bodyOf Tryz.f17)
noncomputable def C17rlrrrrrlrllrrllrrrr : Code := sub [.r, .l, .r, .r, .r, .r, .r, .l, .r, .l, .l, .r, .r, .l, .l, .r, .r, .r, .r] (bodyOf Tryz.f17)
noncomputable def C17rlrrrrrlrllrrr : Code := sub [.r, .l, .r, .r, .r, .r, .r, .l, .r, .l, .l, .r, .r, .r] (bodyOf Tryz.f17)
noncomputable def C17rlrrrrrr : Code := sub [.r, .l, .r, .r, .r, .r, .r, .r] (bodyOf Tryz.f17)
noncomputable def K17_0 (k : Nat) : Ex → Fr → Heap → Option (Value × Heap) := finK Tryz.prog Tryz.f17
noncomputable def K17_1 (k : Nat) : Ex → Fr → Heap → Option (Value × Heap) := seqC (denK Tryz.prog (run Tryz.prog k) k C17rlrrrrrr (K17_0 k)) (K17_0 k)
noncomputable def K17_2 (k : Nat) : Ex → Fr → Heap → Option (Value × Heap) := blkC 0 (K17_1 k)
noncomputable def K17_3 (k : Nat) (nrlrrrrrlrl : Nat) : Ex → Fr → Heap → Option (Value × Heap) := seqC (iterK (denK Tryz.prog (run Tryz.prog k) k C17rlrrrrrlrll) (K17_2 k) nrlrrrrrlrl) (K17_2 k)
noncomputable def K17_4 (k : Nat) (nrlrrrrrlrl : Nat) : Ex → Fr → Heap → Option (Value × Heap) := seqC (denK Tryz.prog (run Tryz.prog k) k C17rlrrrrrlrllrrr (K17_3 k nrlrrrrrlrl)) (K17_3 k nrlrrrrrlrl)
noncomputable def K17_5 (k : Nat) (nrlrrrrrlrl : Nat) : Ex → Fr → Heap → Option (Value × Heap) := blkC 1 (K17_4 k nrlrrrrrlrl)
noncomputable def K17_6 (k : Nat) (nrlrrrrrlrl : Nat) : Ex → Fr → Heap → Option (Value × Heap) := seqC (denK Tryz.prog (run Tryz.prog k) k C17rlrrrrrlrllrrllrrrr (K17_5 k nrlrrrrrlrl)) (K17_5 k nrlrrrrrlrl)
noncomputable def K17_7 (k : Nat) (nrlrrrrrlrl : Nat) : Ex → Fr → Heap → Option (Value × Heap) := blkC 2 (K17_6 k nrlrrrrrlrl)
noncomputable def K17_8 (k : Nat) : Ex → Fr → Heap → Option (Value × Heap) := seqC (denK Tryz.prog (run Tryz.prog k) k C17r (K17_0 k)) (K17_0 k)

noncomputable def J17_0 (k : Nat) (nxrlrrrrrlrl : Value → Value → Value → Heap → Option (Value × Heap)) (x4 x5 dB : Value) (H : Heap) : Option (Value × Heap) :=
  (binI .add dB (.int .i64 1)).bind fun y64 =>
  nxrlrrrrrlrl x4 x5 y64 H
noncomputable def L17_1 (k : Nat) (nxrlrrrrrlrl : Value → Value → Value → Heap → Option (Value × Heap)) : Nat → Value → Value → Value → Value → Value → Value → Value → Value → Heap → Option (Value × Heap)
  | 0, _, _, _, _, _, _, _, _, _ => none
  | n + 1, x4, x5, x7, x8, dB, wB, xB, yB, H =>
    (binI .lss yB xB).bind fun y51 =>
    condV y51
    (
      (idxSl 3 wB yB).bind fun y52 =>
      (ldV true 3 y52 H).bind fun y53 =>
      newK H (.cells #[(.string ⟨#[]⟩), (.int .i64 0), (.int .i64 0)] 49) fun y10 H_1 =>
      (stV 3 y10 y53 H_1).bind fun H_2 =>
      (ldV true 3 x8 H_2).bind fun y54 =>
      (ldV true 3 y10 H_2).bind fun y55 =>
      bindP (run Tryz.prog k 49 #[y54,y55] H_2) fun y56 H_3 =>
      condV y56
      (
        J17_0 k nxrlrrrrrlrl x4 x5 dB H_3)
      (
        (binI .add yB (.int .i64 1)).bind fun y57 =>
        (L17_1 k nxrlrrrrrlrl n) x4 x5 x7 x8 dB wB xB y57 H_3))
    (
      (ldV true 3 x8 H).bind fun y60 =>
      (pNil x4).bind fun y61 =>
      (fieldA 2 y61).bind fun y62 =>
      (idxArr 8 3 y62 x7).bind fun y63 =>
      (stV 3 y63 y60 H).bind fun H_4 =>
      J17_0 k nxrlrrrrrlrl x4 x5 dB H_4)
noncomputable def L17_2 (k : Nat) : Nat → Value → Value → Value → Heap → Option (Value × Heap)
  | 0, _, _, _, _ => none
  | n + 1, x4, x5, dB, H =>
    (binI .lss dB (.int .i64 8)).bind fun y30 =>
    condV y30
    (
      (binI .mul dB (.int .i64 32)).bind fun y34 =>
      (binI .add dB (.int .i64 1)).bind fun y36 =>
      (binI .mul y36 (.int .i64 32)).bind fun y37 =>
      (sliceStr x5 (some y34) (some y37)).bind fun y38 =>
      (pNil x4).bind fun y40 =>
      (fieldA 1 y40).bind fun y41 =>
      (ldV false 1 y41 H).bind fun y42 =>
      quietK H [] (run Tryz.prog k 48 #[y38,y42] (H.atFloor H.next)) fun y43 H_1 m =>
      newK H_1 (.cells #[(.string ⟨#[]⟩), (.int .i64 0), (.int .i64 0)] 49) fun y8 H_2 =>
      (stV 3 y8 y43 H_2).bind fun H_3 =>
      (fieldA 2 y8).bind fun y44 =>
      (ldV false 1 y44 H_3).bind fun y45 =>
      (binI .eql y45 (.int .i64 0)).bind fun y46 =>
      condV y46
      (
        J17_0 k (L17_2 k n) x4 x5 dB H_3)
      (
        bindP (run Tryz.prog k 23 #[x4] H_3) fun y48 H_4 =>
        bindM (lenSl y48) H_4 fun y49 H_5 =>
        L17_1 k (L17_2 k n) k x4 x5 dB y8 dB y48 y49 (.int .i64 0) H_5))
    (
      some ((.tuple #[x4,(.int .i64 0)]), H))
noncomputable def F17 (k : Nat) (x0 : Value) (H : Heap) : Option (Value × Heap) :=
  bindP (run Tryz.prog k 47 #[x0] H) fun y13 H_1 =>
  (pBuild Tryz.prog 93 [(0, x0), (1, y13)]).bind fun y14 =>
  bindP (pBox 93 y14 H_1) fun y15 H_2 =>
  (pNil y15).bind fun y17 =>
  (fieldA 1 y17).bind fun y18 =>
  (ldV false 1 y18 H_2).bind fun y19 =>
  (binI .leq y19 (.int .i64 8)).bind fun y20 =>
  condV y20
  (
    some ((.tuple #[(.pointer none),(.int .i64 1)]), H_2))
  (
    (pMethod Tryz.prog x0 "Read" [(.int .i64 0), (.int .i64 8)]).bind fun fa => bindP (run Tryz.prog k fa.1 fa.2 H_2) fun y23 H_3 =>
    (pExtract y23 0).bind fun y24 =>
    (pExtract y23 1).bind fun y25 =>
    (binI .neq y25 (.int .i64 0)).bind fun y27 =>
    condV y27
    (
      some ((.tuple #[(.pointer none),y25]), H_3))
    (
      L17_2 k k y15 y24 (.int .i64 0) H_3))

theorem TJ17_0 (k : Nat) (nrlrrrrrlrl : Nat) (nxrlrrrrrlrl : Value → Value → Value → Heap → Option (Value × Heap)) (hrlrrrrrlrl : ∀ (x0 x1 x2 x3 x4 x5 x6 x7 x8 x9 kA lA mA nA oA pA qA rA sA tA uA vA wA xA yA zA aB bB cB dB eB fB gB hB iB jB kB lB mB nB oB pB qB rB sB tB uB vB wB xB yB zB aC bC cC dC eC fC gC hC iC jC kC lC mC nC : Value) (H : Heap), iterK (denK Tryz.prog (run Tryz.prog k) k C17rlrrrrrlrll) (K17_2 k) nrlrrrrrlrl #[x0,x1,x2,x3,x4,x5,x6,x7,x8,x9,kA,lA,mA,nA,oA,pA,qA,rA,sA,tA,uA,vA,wA,xA,yA,zA,aB,bB,cB,dB,eB,fB,gB,hB,iB,jB,kB,lB,mB,nB,oB,pB,qB,rB,sB,tB,uB,vB,wB,xB,yB,zB,aC,bC,cC,dC,eC,fC,gC,hC,iC,jC,kC,lC,mC,nC] H = nxrlrrrrrlrl x4 x5 dB H) (x0 x1 x2 x3 x4 x5 x6 x7 x8 x9 kA lA mA nA oA pA qA rA sA tA uA vA wA xA yA zA aB bB cB dB eB fB gB hB iB jB kB lB mB nB oB pB qB rB sB tB uB vB wB xB yB zB aC bC cC dC eC fC gC hC iC jC kC lC mC nC : Value) (H : Heap) : denK Tryz.prog (run Tryz.prog k) k C17rlrrrrrlrllrrr (K17_3 k nrlrrrrrlrl) #[x0,x1,x2,x3,x4,x5,x6,x7,x8,x9,kA,lA,mA,nA,oA,pA,qA,rA,sA,tA,uA,vA,wA,xA,yA,zA,aB,bB,cB,dB,eB,fB,gB,hB,iB,jB,kB,lB,mB,nB,oB,pB,qB,rB,sB,tB,uB,vB,wB,xB,yB,zB,aC,bC,cC,dC,eC,fC,gC,hC,iC,jC,kC,lC,mC,nC] H = J17_0 k nxrlrrrrrlrl x4 x5 dB H := by
  refine Eq.trans (b :=
    (binI .add dB (.int .i64 1)).bind fun y64 =>
    iterK (denK Tryz.prog (run Tryz.prog k) k C17rlrrrrrlrll) (K17_2 k) nrlrrrrrlrl #[x0,x1,x2,x3,x4,x5,x6,x7,x8,x9,kA,lA,mA,nA,oA,pA,qA,rA,sA,tA,uA,vA,wA,xA,yA,zA,aB,bB,cB,y64,eB,fB,gB,hB,iB,jB,kB,lB,mB,nB,oB,pB,qB,rB,sB,tB,uB,vB,wB,xB,yB,zB,aC,bC,cC,dC,eC,fC,gC,hC,iC,jC,kC,lC,y64,nC] H) (by kernel_rfl) ?_
  simp only [hrlrrrrrlrl]
  rfl
theorem TL17_1 (k : Nat) (nrlrrrrrlrl : Nat) (nxrlrrrrrlrl : Value → Value → Value → Heap → Option (Value × Heap)) (hrlrrrrrlrl : ∀ (x0 x1 x2 x3 x4 x5 x6 x7 x8 x9 kA lA mA nA oA pA qA rA sA tA uA vA wA xA yA zA aB bB cB dB eB fB gB hB iB jB kB lB mB nB oB pB qB rB sB tB uB vB wB xB yB zB aC bC cC dC eC fC gC hC iC jC kC lC mC nC : Value) (H : Heap), iterK (denK Tryz.prog (run Tryz.prog k) k C17rlrrrrrlrll) (K17_2 k) nrlrrrrrlrl #[x0,x1,x2,x3,x4,x5,x6,x7,x8,x9,kA,lA,mA,nA,oA,pA,qA,rA,sA,tA,uA,vA,wA,xA,yA,zA,aB,bB,cB,dB,eB,fB,gB,hB,iB,jB,kB,lB,mB,nB,oB,pB,qB,rB,sB,tB,uB,vB,wB,xB,yB,zB,aC,bC,cC,dC,eC,fC,gC,hC,iC,jC,kC,lC,mC,nC] H = nxrlrrrrrlrl x4 x5 dB H) : ∀ (n : Nat) (x0 x1 x2 x3 x4 x5 x6 x7 x8 x9 kA lA mA nA oA pA qA rA sA tA uA vA wA xA yA zA aB bB cB dB eB fB gB hB iB jB kB lB mB nB oB pB qB rB sB tB uB vB wB xB yB zB aC bC cC dC eC fC gC hC iC jC kC lC mC nC : Value) (H : Heap), iterK (denK Tryz.prog (run Tryz.prog k) k C17rlrrrrrlrllrrllrrrlrll) (K17_7 k nrlrrrrrlrl) n #[x0,x1,x2,x3,x4,x5,x6,x7,x8,x9,kA,lA,mA,nA,oA,pA,qA,rA,sA,tA,uA,vA,wA,xA,yA,zA,aB,bB,cB,dB,eB,fB,gB,hB,iB,jB,kB,lB,mB,nB,oB,pB,qB,rB,sB,tB,uB,vB,wB,xB,yB,zB,aC,bC,cC,dC,eC,fC,gC,hC,iC,jC,kC,lC,mC,nC] H = L17_1 k nxrlrrrrrlrl n x4 x5 x7 x8 dB wB xB yB H := by
  intro n
  induction n with
  | zero => intros; rfl
  | succ n ih =>
    intro x0 x1 x2 x3 x4 x5 x6 x7 x8 x9 kA lA mA nA oA pA qA rA sA tA uA vA wA xA yA zA aB bB cB dB eB fB gB hB iB jB kB lB mB nB oB pB qB rB sB tB uB vB wB xB yB zB aC bC cC dC eC fC gC hC iC jC kC lC mC nC H
    refine Eq.trans (b :=
    (binI .lss yB xB).bind fun y51 =>
    condV y51
    (
      (idxSl 3 wB yB).bind fun y52 =>
      (ldV true 3 y52 H).bind fun y53 =>
      newK H (.cells #[(.string ⟨#[]⟩), (.int .i64 0), (.int .i64 0)] 49) fun y10 H_1 =>
      (stV 3 y10 y53 H_1).bind fun H_2 =>
      (ldV true 3 x8 H_2).bind fun y54 =>
      (ldV true 3 y10 H_2).bind fun y55 =>
      bindP (run Tryz.prog k 49 #[y54,y55] H_2) fun y56 H_3 =>
      condV y56
      (
        denK Tryz.prog (run Tryz.prog k) k C17rlrrrrrlrllrrr (K17_3 k nrlrrrrrlrl) #[x0,x1,x2,x3,x4,x5,x6,x7,x8,x9,y10,lA,mA,nA,oA,pA,qA,rA,sA,tA,uA,vA,wA,xA,yA,zA,aB,bB,cB,dB,eB,fB,gB,hB,iB,jB,kB,lB,mB,nB,oB,pB,qB,rB,sB,tB,uB,vB,wB,xB,yB,y51,y52,y53,y54,y55,y56,fC,gC,hC,iC,jC,kC,lC,mC,nC] H_3)
      (
        (binI .add yB (.int .i64 1)).bind fun y57 =>
        iterK (denK Tryz.prog (run Tryz.prog k) k C17rlrrrrrlrllrrllrrrlrll) (K17_7 k nrlrrrrrlrl) n #[x0,x1,x2,x3,x4,x5,x6,x7,x8,x9,y10,lA,mA,nA,oA,pA,qA,rA,sA,tA,uA,vA,wA,xA,yA,zA,aB,bB,cB,dB,eB,fB,gB,hB,iB,jB,kB,lB,mB,nB,oB,pB,qB,rB,sB,tB,uB,vB,wB,xB,y57,y51,y52,y53,y54,y55,y56,y57,gC,hC,iC,jC,kC,lC,mC,nC] H_3))
    (
      (ldV true 3 x8 H).bind fun y60 =>
      (pNil x4).bind fun y61 =>
      (fieldA 2 y61).bind fun y62 =>
      (idxArr 8 3 y62 x7).bind fun y63 =>
      (stV 3 y63 y60 H).bind fun H_4 =>
      denK Tryz.prog (run Tryz.prog k) k C17rlrrrrrlrllrrr (K17_3 k nrlrrrrrlrl) #[x0,x1,x2,x3,x4,x5,x6,x7,x8,x9,kA,lA,mA,nA,oA,pA,qA,rA,sA,tA,uA,vA,wA,xA,yA,zA,aB,bB,cB,dB,eB,fB,gB,hB,iB,jB,kB,lB,mB,nB,oB,pB,qB,rB,sB,tB,uB,vB,wB,xB,yB,y51,aC,bC,cC,dC,eC,fC,x4,x7,y60,y61,y62,y63,mC,nC] H_4)) (by kernel_rfl) ?_
    simp only [TJ17_0 k nrlrrrrrlrl nxrlrrrrrlrl hrlrrrrrlrl, ih]
    rfl
theorem TL17_2 (k : Nat) : ∀ (n : Nat) (x0 x1 x2 x3 x4 x5 x6 x7 x8 x9 kA lA mA nA oA pA qA rA sA tA uA vA wA xA yA zA aB bB cB dB eB fB gB hB iB jB kB lB mB nB oB pB qB rB sB tB uB vB wB xB yB zB aC bC cC dC eC fC gC hC iC jC kC lC mC nC : Value) (H : Heap), iterK (denK Tryz.prog (run Tryz.prog k) k C17rlrrrrrlrll) (K17_2 k) n #[x0,x1,x2,x3,x4,x5,x6,x7,x8,x9,kA,lA,mA,nA,oA,pA,qA,rA,sA,tA,uA,vA,wA,xA,yA,zA,aB,bB,cB,dB,eB,fB,gB,hB,iB,jB,kB,lB,mB,nB,oB,pB,qB,rB,sB,tB,uB,vB,wB,xB,yB,zB,aC,bC,cC,dC,eC,fC,gC,hC,iC,jC,kC,lC,mC,nC] H = L17_2 k n x4 x5 dB H := by
  intro n
  induction n with
  | zero => intros; rfl
  | succ n ih =>
    intro x0 x1 x2 x3 x4 x5 x6 x7 x8 x9 kA lA mA nA oA pA qA rA sA tA uA vA wA xA yA zA aB bB cB dB eB fB gB hB iB jB kB lB mB nB oB pB qB rB sB tB uB vB wB xB yB zB aC bC cC dC eC fC gC hC iC jC kC lC mC nC H
    refine Eq.trans (b :=
    (binI .lss dB (.int .i64 8)).bind fun y30 =>
    condV y30
    (
      (binI .mul dB (.int .i64 32)).bind fun y34 =>
      (binI .add dB (.int .i64 1)).bind fun y36 =>
      (binI .mul y36 (.int .i64 32)).bind fun y37 =>
      (sliceStr x5 (some y34) (some y37)).bind fun y38 =>
      (pNil x4).bind fun y40 =>
      (fieldA 1 y40).bind fun y41 =>
      (ldV false 1 y41 H).bind fun y42 =>
      quietK H [] (run Tryz.prog k 48 #[y38,y42] (H.atFloor H.next)) fun y43 H_1 m =>
      newK H_1 (.cells #[(.string ⟨#[]⟩), (.int .i64 0), (.int .i64 0)] 49) fun y8 H_2 =>
      (stV 3 y8 y43 H_2).bind fun H_3 =>
      (fieldA 2 y8).bind fun y44 =>
      (ldV false 1 y44 H_3).bind fun y45 =>
      (binI .eql y45 (.int .i64 0)).bind fun y46 =>
      condV y46
      (
        denK Tryz.prog (run Tryz.prog k) k C17rlrrrrrlrllrrr (K17_3 k n) #[x0,x1,x2,x3,x4,x5,x6,dB,y8,x9,kA,lA,mA,nA,oA,pA,qA,rA,sA,tA,uA,vA,wA,xA,yA,zA,aB,bB,cB,dB,y30,dB,x5,dB,y34,dB,y36,y37,y38,x4,y40,y41,y42,y43,y44,y45,y46,vB,wB,xB,yB,zB,aC,bC,cC,dC,eC,fC,gC,hC,iC,jC,kC,lC,mC,nC] H_3)
      (
        bindP (run Tryz.prog k 23 #[x4] H_3) fun y48 H_4 =>
        bindM (lenSl y48) H_4 fun y49 H_5 =>
        iterK (denK Tryz.prog (run Tryz.prog k) k C17rlrrrrrlrllrrllrrrlrll) (K17_7 k n) k #[x0,x1,x2,x3,x4,x5,x6,dB,y8,x9,kA,lA,mA,nA,oA,pA,qA,rA,sA,tA,uA,vA,wA,xA,yA,zA,aB,bB,cB,dB,y30,dB,x5,dB,y34,dB,y36,y37,y38,x4,y40,y41,y42,y43,y44,y45,y46,x4,y48,y49,(.int .i64 0),zB,aC,bC,cC,dC,eC,fC,gC,hC,iC,jC,kC,lC,mC,nC] H_5))
    (
      some ((.tuple #[x4,(.int .i64 0)]), H))) (by kernel_rfl) ?_
    simp only [TL17_1 k n (L17_2 k n) ih, TJ17_0 k n (L17_2 k n) ih]
    rfl
theorem TF17 (k : Nat) (x0 x1 x2 x3 x4 x5 x6 x7 x8 x9 kA lA mA nA oA pA qA rA sA tA uA vA wA xA yA zA aB bB cB dB eB fB gB hB iB jB kB lB mB nB oB pB qB rB sB tB uB vB wB xB yB zB aC bC cC dC eC fC gC hC iC jC kC lC mC nC : Value) (H : Heap) : denK Tryz.prog (run Tryz.prog k) k C17l (K17_8 k) #[x0,x1,x2,x3,x4,x5,x6,x7,x8,x9,kA,lA,mA,nA,oA,pA,qA,rA,sA,tA,uA,vA,wA,xA,yA,zA,aB,bB,cB,dB,eB,fB,gB,hB,iB,jB,kB,lB,mB,nB,oB,pB,qB,rB,sB,tB,uB,vB,wB,xB,yB,zB,aC,bC,cC,dC,eC,fC,gC,hC,iC,jC,kC,lC,mC,nC] H = F17 k x0 H := by
  refine Eq.trans (b :=
    bindP (run Tryz.prog k 47 #[x0] H) fun y13 H_1 =>
    (pBuild Tryz.prog 93 [(0, x0), (1, y13)]).bind fun y14 =>
    bindP (pBox 93 y14 H_1) fun y15 H_2 =>
    (pNil y15).bind fun y17 =>
    (fieldA 1 y17).bind fun y18 =>
    (ldV false 1 y18 H_2).bind fun y19 =>
    (binI .leq y19 (.int .i64 8)).bind fun y20 =>
    condV y20
    (
      some ((.tuple #[(.pointer none),(.int .i64 1)]), H_2))
    (
      (pMethod Tryz.prog x0 "Read" [(.int .i64 0), (.int .i64 8)]).bind fun fa => bindP (run Tryz.prog k fa.1 fa.2 H_2) fun y23 H_3 =>
      (pExtract y23 0).bind fun y24 =>
      (pExtract y23 1).bind fun y25 =>
      (binI .neq y25 (.int .i64 0)).bind fun y27 =>
      condV y27
      (
        some ((.tuple #[(.pointer none),y25]), H_3))
      (
        iterK (denK Tryz.prog (run Tryz.prog k) k C17rlrrrrrlrll) (K17_2 k) k #[x0,x1,(.pointer none),(.int .i64 0),y15,y24,y25,x7,x8,x9,kA,x0,x0,y13,y14,y15,y15,y17,y18,y19,y20,y23,x0,y23,y24,y25,y25,y27,cB,(.int .i64 0),eB,fB,gB,hB,iB,jB,kB,lB,mB,nB,oB,pB,qB,rB,sB,tB,uB,vB,wB,xB,yB,zB,aC,bC,cC,dC,eC,fC,gC,hC,iC,jC,kC,lC,mC,nC] H_3))) (by kernel_rfl) ?_
  simp only [TL17_2 k]
  rfl
theorem run17 (k : Nat) (x0 : Value) (H : Heap) : run Tryz.prog (k + 1) 17 #[x0] H = F17 k x0 H := by
  refine Eq.trans (b := denK Tryz.prog (run Tryz.prog k) k C17l (K17_8 k) #[x0,undef,undef,undef,undef,undef,undef,undef,undef,undef,undef,undef,undef,undef,undef,undef,undef,undef,undef,undef,undef,undef,undef,undef,undef,undef,undef,undef,undef,undef,undef,undef,undef,undef,undef,undef,undef,undef,undef,undef,undef,undef,undef,undef,undef,undef,undef,undef,undef,undef,undef,undef,undef,undef,undef,undef,undef,undef,undef,undef,undef,undef,undef,undef,undef,undef] H) (by kernel_rfl) ?_
  exact TF17 k x0 undef undef undef undef undef undef undef undef undef undef undef undef undef undef undef undef undef undef undef undef undef undef undef undef undef undef undef undef undef undef undef undef undef undef undef undef undef undef undef undef undef undef undef undef undef undef undef undef undef undef undef undef undef undef undef undef undef undef undef undef undef undef undef undef undef H

end Go.PG

namespace Go.PG
open Go.Proofs

noncomputable def C49l : Code := sub [.l] (bodyOf Tryz.f49)
noncomputable def C49r : Code := sub [.r] (bodyOf Tryz.f49)
noncomputable def C49rl : Code := sub [.r, .l] (bodyOf Tryz.f49)
noncomputable def C49rr : Code := sub [.r, .r] (bodyOf Tryz.f49)
noncomputable def K49_0 (k : Nat) : Ex → Fr → Heap → Option (Value × Heap) := finK Tryz.prog Tryz.f49
noncomputable def K49_1 (k : Nat) : Ex → Fr → Heap → Option (Value × Heap) := seqC (denK Tryz.prog (run Tryz.prog k) k C49rr (K49_0 k)) (K49_0 k)
noncomputable def K49_2 (k : Nat) : Ex → Fr → Heap → Option (Value × Heap) := seqC (denK Tryz.prog (run Tryz.prog k) k C49r (K49_0 k)) (K49_0 k)

noncomputable def J49_0 (k : Nat) (kA tA bB : Value) (H : Heap) : Option (Value × Heap) :=
  condG kA false
  (
    (pPick tA bB (.bool false)).bind fun y28 =>
    (pPick kA (.bool true) y28).bind fun y29 =>
    some (y29, H))
  (
    (pPick kA (.bool true) undef).bind fun y29_1 =>
    some (y29_1, H))
noncomputable def J49_1 (k : Nat) (x2 x3 kA tA : Value) (H : Heap) : Option (Value × Heap) :=
  condG tA true
  (
    (fieldA 1 x3).bind fun y20 =>
    (ldV false 1 y20 H).bind fun y21 =>
    (fieldA 1 x2).bind fun y22 =>
    (ldV false 1 y22 H).bind fun y23 =>
    (fieldA 2 x2).bind fun y24 =>
    (ldV false 1 y24 H).bind fun y25 =>
    (binI .add y23 y25).bind fun y26 =>
    (binI .lss y21 y26).bind fun y27 =>
    J49_0 k kA tA y27 H)
  (
    J49_0 k kA tA undef H)
noncomputable def F49 (k : Nat) (x0 x1 : Value) (H : Heap) : Option (Value × Heap) :=
  bindP (pBox 49 x0 H) fun y2 H_1 =>
  bindP (pBox 49 x1 H_1) fun y3 H_2 =>
  (fieldA 0 y2).bind fun y5 =>
  (ldV false 1 y5 H_2).bind fun y6 =>
  (fieldA 0 y3).bind fun y7 =>
  (ldV false 1 y7 H_2).bind fun y8 =>
  (binS .eql y6 y8).bind fun y9 =>
  condG y9 false
  (
    (fieldA 1 y2).bind fun y11 =>
    (ldV false 1 y11 H_2).bind fun y12 =>
    (fieldA 1 y3).bind fun y13 =>
    (ldV false 1 y13 H_2).bind fun y14 =>
    (fieldA 2 y3).bind fun y15 =>
    (ldV false 1 y15 H_2).bind fun y16 =>
    (binI .add y14 y16).bind fun y17 =>
    (binI .lss y12 y17).bind fun y18 =>
    J49_1 k y2 y3 y9 y18 H_2)
  (
    J49_1 k y2 y3 y9 undef H_2)

theorem TJ49_0 (k : Nat) (x0 x1 x2 x3 x4 x5 x6 x7 x8 x9 kA lA mA nA oA pA qA rA sA tA uA vA wA xA yA zA aB bB cB dB : Value) (H : Heap) : grpK Tryz.prog (run Tryz.prog k) (ropsC C49rl) ((grps (ropsC C49rl).toList).drop 3) #[x0,x1,x2,x3,x4,x5,x6,x7,x8,x9,kA,lA,mA,nA,oA,pA,qA,rA,sA,tA,uA,vA,wA,xA,yA,zA,aB,bB,cB,dB] H ((K49_1 k) .normal) = J49_0 k kA tA bB H := by
  kernel_rfl
theorem TJ49_1 (k : Nat) (x0 x1 x2 x3 x4 x5 x6 x7 x8 x9 kA lA mA nA oA pA qA rA sA tA uA vA wA xA yA zA aB bB cB dB : Value) (H : Heap) : grpK Tryz.prog (run Tryz.prog k) (ropsC C49rl) ((grps (ropsC C49rl).toList).drop 2) #[x0,x1,x2,x3,x4,x5,x6,x7,x8,x9,kA,lA,mA,nA,oA,pA,qA,rA,sA,tA,uA,vA,wA,xA,yA,zA,aB,bB,cB,dB] H ((K49_1 k) .normal) = J49_1 k x2 x3 kA tA H := by
  refine Eq.trans (b :=
    condG tA true
    (
      (fieldA 1 x3).bind fun y20 =>
      (ldV false 1 y20 H).bind fun y21 =>
      (fieldA 1 x2).bind fun y22 =>
      (ldV false 1 y22 H).bind fun y23 =>
      (fieldA 2 x2).bind fun y24 =>
      (ldV false 1 y24 H).bind fun y25 =>
      (binI .add y23 y25).bind fun y26 =>
      (binI .lss y21 y26).bind fun y27 =>
      grpK Tryz.prog (run Tryz.prog k) (ropsC C49rl) ((grps (ropsC C49rl).toList).drop 3) #[x0,x1,x2,x3,x4,x5,x6,x7,x8,x9,kA,lA,mA,nA,oA,pA,qA,rA,sA,tA,y20,y21,y22,y23,y24,y25,y26,y27,cB,dB] H ((K49_1 k) .normal))
    (
      grpK Tryz.prog (run Tryz.prog k) (ropsC C49rl) ((grps (ropsC C49rl).toList).drop 3) #[x0,x1,x2,x3,x4,x5,x6,x7,x8,x9,kA,lA,mA,nA,oA,pA,qA,rA,sA,tA,undef,undef,undef,undef,undef,undef,undef,undef,cB,dB] H ((K49_1 k) .normal))) (by kernel_rfl) ?_
  simp only [TJ49_0 k]
  rfl
theorem TF49 (k : Nat) (x0 x1 x2 x3 x4 x5 x6 x7 x8 x9 kA lA mA nA oA pA qA rA sA tA uA vA wA xA yA zA aB bB cB dB : Value) (H : Heap) : denK Tryz.prog (run Tryz.prog k) k C49l (K49_2 k) #[x0,x1,x2,x3,x4,x5,x6,x7,x8,x9,kA,lA,mA,nA,oA,pA,qA,rA,sA,tA,uA,vA,wA,xA,yA,zA,aB,bB,cB,dB] H = F49 k x0 x1 H := by
  refine Eq.trans (b :=
    bindP (pBox 49 x0 H) fun y2 H_1 =>
    bindP (pBox 49 x1 H_1) fun y3 H_2 =>
    (fieldA 0 y2).bind fun y5 =>
    (ldV false 1 y5 H_2).bind fun y6 =>
    (fieldA 0 y3).bind fun y7 =>
    (ldV false 1 y7 H_2).bind fun y8 =>
    (binS .eql y6 y8).bind fun y9 =>
    condG y9 false
    (
      (fieldA 1 y2).bind fun y11 =>
      (ldV false 1 y11 H_2).bind fun y12 =>
      (fieldA 1 y3).bind fun y13 =>
      (ldV false 1 y13 H_2).bind fun y14 =>
      (fieldA 2 y3).bind fun y15 =>
      (ldV false 1 y15 H_2).bind fun y16 =>
      (binI .add y14 y16).bind fun y17 =>
      (binI .lss y12 y17).bind fun y18 =>
      grpK Tryz.prog (run Tryz.prog k) (ropsC C49rl) ((grps (ropsC C49rl).toList).drop 2) #[x0,x1,y2,y3,(.bool false),y5,y6,y7,y8,y9,y9,y11,y12,y13,y14,y15,y16,y17,y18,y18,uA,vA,wA,xA,yA,zA,aB,bB,cB,dB] H_2 ((K49_1 k) .normal))
    (
      grpK Tryz.prog (run Tryz.prog k) (ropsC C49rl) ((grps (ropsC C49rl).toList).drop 2) #[x0,x1,y2,y3,(.bool false),y5,y6,y7,y8,y9,y9,undef,undef,undef,undef,undef,undef,undef,undef,undef,uA,vA,wA,xA,yA,zA,aB,bB,cB,dB] H_2 ((K49_1 k) .normal))) (by kernel_rfl) ?_
  simp only [TJ49_1 k]
  rfl
theorem run49 (k : Nat) (x0 x1 : Value) (H : Heap) : run Tryz.prog (k + 1) 49 #[x0,x1] H = F49 k x0 x1 H := by
  refine Eq.trans (b := denK Tryz.prog (run Tryz.prog k) k C49l (K49_2 k) #[x0,x1,undef,undef,undef,undef,undef,undef,undef,undef,undef,undef,undef,undef,undef,undef,undef,undef,undef,undef,undef,undef,undef,undef,undef,undef,undef,undef,undef,undef] H) (by kernel_rfl) ?_
  exact TF49 k x0 x1 undef undef undef undef undef undef undef undef undef undef undef undef undef undef undef undef undef undef undef undef undef undef undef undef undef undef undef undef H

end Go.PG

namespace Go.PG
open Go.Proofs

noncomputable def C27l : Code := sub [.l] (bodyOf Tryz.f27)
noncomputable def C27r : Code := sub [.r] (bodyOf Tryz.f27)
noncomputable def C27rll : Code := sub [.r, .l, .l] (bodyOf Tryz.f27)
noncomputable def C27rlr : Code := sub [.r, .l, .r] (bodyOf Tryz.f27)
noncomputable def C27rr : Code := sub [.r, .r] (bodyOf Tryz.f27)
noncomputable def K27_0 (k : Nat) : Ex → Fr → Heap → Option (Value × Heap) := finK Tryz.prog Tryz.f27
noncomputable def K27_1 (k : Nat) : Ex → Fr → Heap → Option (Value × Heap) := seqC (denK Tryz.prog (run Tryz.prog k) k C27rr (K27_0 k)) (K27_0 k)
noncomputable def K27_2 (k : Nat) : Ex → Fr → Heap → Option (Value × Heap) := seqC (denK Tryz.prog (run Tryz.prog k) k C27rlr (K27_1 k)) (K27_1 k)
noncomputable def K27_3 (k : Nat) : Ex → Fr → Heap → Option (Value × Heap) := seqC (denK Tryz.prog (run Tryz.prog k) k C27r (K27_0 k)) (K27_0 k)

noncomputable def J27_0 (k : Nat) (x0 x1 x2 uA wA : Value) (H : Heap) : Option (Value × Heap) :=
  (pPick uA (.bool true) wA).bind fun y23 =>
  condV y23
  (
    some ((.int .i64 1), H))
  (
    bindP (run Tryz.prog k 62 #[x0,x1] H) fun y27 H_1 =>
    (pExtract y27 0).bind fun y28 =>
    (pExtract y27 1).bind fun y29 =>
    condV y29
    (
      some ((.int .i64 8), H_1))
    (
      bindP (run Tryz.prog k 63 #[x0,x2] H_1) fun y34 H_2 =>
      (pExtract y34 0).bind fun y35 =>
      (pExtract y34 1).bind fun y36 =>
      (pExtract y34 2).bind fun y37 =>
      (pUn .not y37).bind fun y39 =>
      condV y39
      (
        some ((.int .i64 5), H_2))
      (
        (pNil x0).bind fun y41 =>
        (fieldA 0 y41).bind fun y42 =>
        (ldV false 1 y42 H_2).bind fun y43 =>
        (pMethod Tryz.prog y43 "Trim" [y36, x2]).bind fun fa => bindP (run Tryz.prog k fa.1 fa.2 H_2) fun y46 H_3 =>
        (binI .neq y46 (.int .i64 0)).bind fun y48 =>
        condV y48
        (
          some (y46, H_3))
        (
          (pBuild Tryz.prog 49 [(0, x1), (1, y36), (2, x2)]).bind fun y55 =>
          bindP (run Tryz.prog k 64 #[x0,y35,y55] H_3) fun y56 H_4 =>
          some (y56, H_4)))))
noncomputable def J27_1 (k : Nat) (x0 x1 x2 qA sA : Value) (H : Heap) : Option (Value × Heap) :=
  (pPick qA (.bool true) sA).bind fun y19 =>
  condG y19 false
  (
    (binI .gtr x2 (.int .i64 512)).bind fun y22 =>
    J27_0 k x0 x1 x2 y19 y22 H)
  (
    J27_0 k x0 x1 x2 y19 undef H)
noncomputable def F27 (k : Nat) (x0 x1 x2 : Value) (H : Heap) : Option (Value × Heap) :=
  bindP (run Tryz.prog k 11 #[x1] H) fun y14 H_1 =>
  (pUn .not y14).bind fun y15 =>
  condG y15 false
  (
    (binI .lss x2 (.int .i64 1)).bind fun y18 =>
    J27_1 k x0 x1 x2 y15 y18 H_1)
  (
    J27_1 k x0 x1 x2 y15 undef H_1)

theorem TJ27_0 (k : Nat) (x0 x1 x2 x3 x4 x5 x6 x7 x8 x9 kA lA mA nA oA pA qA rA sA tA uA vA wA xA yA zA aB bB cB dB eB fB gB hB iB jB kB lB mB nB oB pB qB rB sB tB uB vB wB xB yB zB aC bC cC dC eC : Value) (H : Heap) : grpK Tryz.prog (run Tryz.prog k) (ropsC C27rll) ((grps (ropsC C27rll).toList).drop 4) #[x0,x1,x2,x3,x4,x5,x6,x7,x8,x9,kA,lA,mA,nA,oA,pA,qA,rA,sA,tA,uA,vA,wA,xA,yA,zA,aB,bB,cB,dB,eB,fB,gB,hB,iB,jB,kB,lB,mB,nB,oB,pB,qB,rB,sB,tB,uB,vB,wB,xB,yB,zB,aC,bC,cC,dC,eC] H ((K27_2 k) .normal) = J27_0 k x0 x1 x2 uA wA H := by
  kernel_rfl
theorem TJ27_1 (k : Nat) (x0 x1 x2 x3 x4 x5 x6 x7 x8 x9 kA lA mA nA oA pA qA rA sA tA uA vA wA xA yA zA aB bB cB dB eB fB gB hB iB jB kB lB mB nB oB pB qB rB sB tB uB vB wB xB yB zB aC bC cC dC eC : Value) (H : Heap) : grpK Tryz.prog (run Tryz.prog k) (ropsC C27rll) ((grps (ropsC C27rll).toList).drop 2) #[x0,x1,x2,x3,x4,x5,x6,x7,x8,x9,kA,lA,mA,nA,oA,pA,qA,rA,sA,tA,uA,vA,wA,xA,yA,zA,aB,bB,cB,dB,eB,fB,gB,hB,iB,jB,kB,lB,mB,nB,oB,pB,qB,rB,sB,tB,uB,vB,wB,xB,yB,zB,aC,bC,cC,dC,eC] H ((K27_2 k) .normal) = J27_1 k x0 x1 x2 qA sA H := by
  refine Eq.trans (b :=
    (pPick qA (.bool true) sA).bind fun y19 =>
    condG y19 false
    (
      (binI .gtr x2 (.int .i64 512)).bind fun y22 =>
      grpK Tryz.prog (run Tryz.prog k) (ropsC C27rll) ((grps (ropsC C27rll).toList).drop 4) #[x0,x1,x2,x3,x4,x5,x6,x7,x8,x9,kA,lA,mA,nA,oA,pA,qA,rA,sA,y19,y19,x2,y22,xA,yA,zA,aB,bB,cB,dB,eB,fB,gB,hB,iB,jB,kB,lB,mB,nB,oB,pB,qB,rB,sB,tB,uB,vB,wB,xB,yB,zB,aC,bC,cC,dC,eC] H ((K27_2 k) .normal))
    (
      grpK Tryz.prog (run Tryz.prog k) (ropsC C27rll) ((grps (ropsC C27rll).toList).drop 4) #[x0,x1,x2,x3,x4,x5,x6,x7,x8,x9,kA,lA,mA,nA,oA,pA,qA,rA,sA,y19,y19,undef,undef,xA,yA,zA,aB,bB,cB,dB,eB,fB,gB,hB,iB,jB,kB,lB,mB,nB,oB,pB,qB,rB,sB,tB,uB,vB,wB,xB,yB,zB,aC,bC,cC,dC,eC] H ((K27_2 k) .normal))) (by kernel_rfl) ?_
  simp only [TJ27_0 k]
  rfl
theorem TF27 (k : Nat) (x0 x1 x2 x3 x4 x5 x6 x7 x8 x9 kA lA mA nA oA pA qA rA sA tA uA vA wA xA yA zA aB bB cB dB eB fB gB hB iB jB kB lB mB nB oB pB qB rB sB tB uB vB wB xB yB zB aC bC cC dC eC : Value) (H : Heap) : denK Tryz.prog (run Tryz.prog k) k C27l (K27_3 k) #[x0,x1,x2,x3,x4,x5,x6,x7,x8,x9,kA,lA,mA,nA,oA,pA,qA,rA,sA,tA,uA,vA,wA,xA,yA,zA,aB,bB,cB,dB,eB,fB,gB,hB,iB,jB,kB,lB,mB,nB,oB,pB,qB,rB,sB,tB,uB,vB,wB,xB,yB,zB,aC,bC,cC,dC,eC] H = F27 k x0 x1 x2 H := by
  refine Eq.trans (b :=
    bindP (run Tryz.prog k 11 #[x1] H) fun y14 H_1 =>
    (pUn .not y14).bind fun y15 =>
    condG y15 false
    (
      (binI .lss x2 (.int .i64 1)).bind fun y18 =>
      grpK Tryz.prog (run Tryz.prog k) (ropsC C27rll) ((grps (ropsC C27rll).toList).drop 2) #[x0,x1,x2,x3,x4,x5,(.int .i64 0),x7,x8,x9,kA,lA,mA,x1,y14,y15,y15,x2,y18,tA,uA,vA,wA,xA,yA,zA,aB,bB,cB,dB,eB,fB,gB,hB,iB,jB,kB,lB,mB,nB,oB,pB,qB,rB,sB,tB,uB,vB,wB,xB,yB,zB,aC,bC,cC,dC,eC] H_1 ((K27_2 k) .normal))
    (
      grpK Tryz.prog (run Tryz.prog k) (ropsC C27rll) ((grps (ropsC C27rll).toList).drop 2) #[x0,x1,x2,x3,x4,x5,(.int .i64 0),x7,x8,x9,kA,lA,mA,x1,y14,y15,y15,undef,undef,tA,uA,vA,wA,xA,yA,zA,aB,bB,cB,dB,eB,fB,gB,hB,iB,jB,kB,lB,mB,nB,oB,pB,qB,rB,sB,tB,uB,vB,wB,xB,yB,zB,aC,bC,cC,dC,eC] H_1 ((K27_2 k) .normal))) (by kernel_rfl) ?_
  simp only [TJ27_1 k]
  rfl
theorem run27 (k : Nat) (x0 x1 x2 : Value) (H : Heap) : run Tryz.prog (k + 1) 27 #[x0,x1,x2] H = F27 k x0 x1 x2 H := by
  refine Eq.trans (b := denK Tryz.prog (run Tryz.prog k) k C27l (K27_3 k) #[x0,x1,x2,undef,undef,undef,undef,undef,undef,undef,undef,undef,undef,undef,undef,undef,undef,undef,undef,undef,undef,undef,undef,undef,undef,undef,undef,undef,undef,undef,undef,undef,undef,undef,undef,undef,undef,undef,undef,undef,undef,undef,undef,undef,undef,undef,undef,undef,undef,undef,undef,undef,undef,undef,undef,undef,undef] H) (by kernel_rfl) ?_
  exact TF27 k x0 x1 x2 undef undef undef undef undef undef undef undef undef undef undef undef undef undef undef undef undef undef undef undef undef undef undef undef undef undef undef undef undef undef undef undef undef undef undef undef undef undef undef undef undef undef undef undef undef undef undef undef undef undef undef undef undef undef H

end Go.PG

namespace Go.PG
open Go.Proofs

noncomputable def C42l : Code := sub [.l] (bodyOf Tryz.f42)
noncomputable def C42r : Code := sub [.r] (bodyOf Tryz.f42)
noncomputable def K42_0 (k : Nat) : Ex → Fr → Heap → Option (Value × Heap) := finK Tryz.prog Tryz.f42
noncomputable def K42_1 (k : Nat) : Ex → Fr → Heap → Option (Value × Heap) := seqC (denK Tryz.prog (run Tryz.prog k) k C42r (K42_0 k)) (K42_0 k)

noncomputable def F42 (k : Nat) (x0 x1 x2 : Value) (H : Heap) : Option (Value × Heap) :=
  bindP (run Tryz.prog k 65 #[x0,x1,x2] H) fun y18 H_1 =>
  (pExtract y18 0).bind fun y19 =>
  (pExtract y18 1).bind fun y20 =>
  (binI .neq y20 (.int .i64 0)).bind fun y22 =>
  condV y22
  (
    some (y20, H_1))
  (
    (pNil x0).bind fun y26 =>
    (fieldA 2 y26).bind fun y27 =>
    (idxArr 8 3 y27 y19).bind fun y28 =>
    (ldV true 3 y28 H_1).bind fun y29 =>
    newK H_1 (.cells #[(.string ⟨#[]⟩), (.int .i64 0), (.int .i64 0)] 49) fun y9 H_2 =>
    (stV 3 y9 y29 H_2).bind fun H_3 =>
    (fieldA 2 y9).bind fun y32 =>
    (ldV false 1 y32 H_3).bind fun y33 =>
    bindP (run Tryz.prog k 63 #[x0,y33] H_3) fun y34 H_4 =>
    (pExtract y34 0).bind fun y35 =>
    (pExtract y34 1).bind fun y36 =>
    (pExtract y34 2).bind fun y37 =>
    (pUn .not y37).bind fun y39 =>
    condV y39
    (
      some ((.int .i64 5), H_4))
    (
      (pNil x0).bind fun y41 =>
      (fieldA 0 y41).bind fun y42 =>
      (ldV false 1 y42 H_4).bind fun y43 =>
      (pNil x0).bind fun y45 =>
      (fieldA 0 y45).bind fun y46 =>
      (ldV false 1 y46 H_4).bind fun y47 =>
      (fieldA 1 y9).bind fun y48 =>
      (ldV false 1 y48 H_4).bind fun y49 =>
      (fieldA 2 y9).bind fun y50 =>
      (ldV false 1 y50 H_4).bind fun y51 =>
      bindP (run Tryz.prog k 81 #[y43,y47,y49,y51,y36] H_4) fun y53 H_5 =>
      (binI .neq y53 (.int .i64 0)).bind fun y55 =>
      condV y55
      (
        some (y53, H_5))
      (
        (fieldA 2 y9).bind fun y61 =>
        (ldV false 1 y61 H_5).bind fun y62 =>
        (pBuild Tryz.prog 49 [(0, x2), (1, y36), (2, y62)]).bind fun y63 =>
        bindP (run Tryz.prog k 64 #[x0,y35,y63] H_5) fun y64 H_6 =>
        some (y64, H_6))))

theorem TF42 (k : Nat) (x0 x1 x2 x3 x4 x5 x6 x7 x8 x9 kA lA mA nA oA pA qA rA sA tA uA vA wA xA yA zA aB bB cB dB eB fB gB hB iB jB kB lB mB nB oB pB qB rB sB tB uB vB wB xB yB zB aC bC cC dC eC fC gC hC iC jC kC lC mC : Value) (H : Heap) : denK Tryz.prog (run Tryz.prog k) k C42l (K42_1 k) #[x0,x1,x2,x3,x4,x5,x6,x7,x8,x9,kA,lA,mA,nA,oA,pA,qA,rA,sA,tA,uA,vA,wA,xA,yA,zA,aB,bB,cB,dB,eB,fB,gB,hB,iB,jB,kB,lB,mB,nB,oB,pB,qB,rB,sB,tB,uB,vB,wB,xB,yB,zB,aC,bC,cC,dC,eC,fC,gC,hC,iC,jC,kC,lC,mC] H = F42 k x0 x1 x2 H := by
  kernel_rfl
theorem run42 (k : Nat) (x0 x1 x2 : Value) (H : Heap) : run Tryz.prog (k + 1) 42 #[x0,x1,x2] H = F42 k x0 x1 x2 H := by
  refine Eq.trans (b := denK Tryz.prog (run Tryz.prog k) k C42l (K42_1 k) #[x0,x1,x2,undef,undef,undef,undef,undef,undef,undef,undef,undef,undef,undef,undef,undef,undef,undef,undef,undef,undef,undef,undef,undef,undef,undef,undef,undef,undef,undef,undef,undef,undef,undef,undef,undef,undef,undef,undef,undef,undef,undef,undef,undef,undef,undef,undef,undef,undef,undef,undef,undef,undef,undef,undef,undef,undef,undef,undef,undef,undef,undef,undef,undef,undef] H) (by kernel_rfl) ?_
  exact TF42 k x0 x1 x2 undef undef undef undef undef undef undef undef undef undef undef undef undef undef undef undef undef undef undef undef undef undef undef undef undef undef undef undef undef undef undef undef undef undef undef undef undef undef undef undef undef undef undef undef undef undef undef undef undef undef undef undef undef undef undef undef undef undef undef undef undef undef H

end Go.PG

namespace Go.PG
open Go.Proofs

noncomputable def C81l : Code := sub [.l] (bodyOf Tryz.f81)
noncomputable def C81r : Code := sub [.r] (bodyOf Tryz.f81)
noncomputable def K81_0 (k : Nat) : Ex → Fr → Heap → Option (Value × Heap) := finK Tryz.prog Tryz.f81
noncomputable def K81_1 (k : Nat) : Ex → Fr → Heap → Option (Value × Heap) := seqC (denK Tryz.prog (run Tryz.prog k) k C81r (K81_0 k)) (K81_0 k)

noncomputable def F81 (k : Nat) (x0 x1 x2 x3 x4 : Value) (H : Heap) : Option (Value × Heap) :=
  (pMethod Tryz.prog x0 "Read" [x2, x3]).bind fun fa => bindP (run Tryz.prog k fa.1 fa.2 H) fun y17 H_1 =>
  (pExtract y17 0).bind fun y18 =>
  (pExtract y17 1).bind fun y19 =>
  (binI .neq y19 (.int .i64 0)).bind fun y21 =>
  condV y21
  (
    some (y19, H_1))
  (
    (pMethod Tryz.prog x1 "Write" [x4, x3, y18]).bind fun fa_1 => bindP (run Tryz.prog k fa_1.1 fa_1.2 H_1) fun y27 H_2 =>
    some (y27, H_2))

theorem TF81 (k : Nat) (x0 x1 x2 x3 x4 x5 x6 x7 x8 x9 kA lA mA nA oA pA qA rA sA tA uA vA wA xA yA zA aB bB : Value) (H : Heap) : denK Tryz.prog (run Tryz.prog k) k C81l (K81_1 k) #[x0,x1,x2,x3,x4,x5,x6,x7,x8,x9,kA,lA,mA,nA,oA,pA,qA,rA,sA,tA,uA,vA,wA,xA,yA,zA,aB,bB] H = F81 k x0 x1 x2 x3 x4 H := by
  kernel_rfl
theorem run81 (k : Nat) (x0 x1 x2 x3 x4 : Value) (H : Heap) : run Tryz.prog (k + 1) 81 #[x0,x1,x2,x3,x4] H = F81 k x0 x1 x2 x3 x4 H := by
  refine Eq.trans (b := denK Tryz.prog (run Tryz.prog k) k C81l (K81_1 k) #[x0,x1,x2,x3,x4,undef,undef,undef,undef,undef,undef,undef,undef,undef,undef,undef,undef,undef,undef,undef,undef,undef,undef,undef,undef,undef,undef,undef] H) (by kernel_rfl) ?_
  exact TF81 k x0 x1 x2 x3 x4 undef undef undef undef undef undef undef undef undef undef undef undef undef undef undef undef undef undef undef undef undef undef undef H

end Go.PG
