/- A small interpreter of the programs' code over a heap of its own, whose places are plain numbers: the order of a region is the text's, capacities are the lengths, what a call leaves behind unseen is dropped. Definitions alone. -/
import Derived.Calls
namespace Go.L1
set_option linter.unusedVariables false
/-- What lies at a place: a row of cells; a map in the order in which its keys came. -/
abbrev Env := Nat → Value
/-- 'loop': a range over a function: the slots, what is set, what is done, where it stands, the jump that a round has left. -/
inductive Ob where
  | cells (elem : TypeId) (vs : List Value)
  | map (es : List (Value × Value))
  | loop (σ : Env) (ps : List Tmp) (a b : Code) (st : LoopState) (pe : Option Code)
structure Hp where
  get : Nat → Option Ob
  next : Nat
  mark : Nat
def Hp.put (H : Hp) (i : Nat) (o : Option Ob) : Hp := ⟨fun j => if j = i then o else H.get j, H.next, H.mark⟩
def Hp.new (H : Hp) (o : Ob) : Hp := ⟨fun j => if j = H.next then some o else H.get j, H.next + 1, H.mark⟩
abbrev ptr (i off : Nat) : Value := .pointer (some ⟨i, off, none⟩)
abbrev slc (i off n : Nat) : Value := .slice (some ⟨i, off, none⟩) n n
/-- A row of so many that stays as it is, by its cells; a place in one. (Marked: only as long as a call lasts.) -/
abbrev fz (s : Array Value) (n : Nat) (vs : List Value) : Value := .func (.via n #[] 0 false) s vs.toArray
abbrev fpl (s : Array Value) (off : Nat) (vs : List Value) : Value := .func (.via off #[] 0 true) s vs.toArray
/-- What marks rows that stay as long as a call lasts. -/
abbrev tg : Array Value := #[.bool true]
def put (d : Option Tmp) (v : Value) (σ : Env) : Env := match d with | some d => fun i => if i = d then v else σ i | none => σ
def ev (σ : Env) : Operand → Value | .tmp t => σ t | .const v => v | .func f => .func (.func f) #[] #[] | .global _ => undef
/-- A value that names no place. -/
def flat1 : Value → Bool
  | .int .. | .bool _ | .string _ | .pointer none | .slice none 0 0 | .map none | .nilFunc | .nilIface => true
  | _ => false
def flat2 : Value → Bool
  | .agg cs => cs.toList.all flat1
  | .tuple vs => vs.toList.all flat1
  | v => flat1 v
def flat : Value → Bool
  | .tuple vs => vs.toList.all flat2
  | .iface _ v => flat2 v
  | v => flat2 v
def one : Value → Bool | .agg _ | .tuple _ => false | _ => true
-- what a type is
def szOf (P : Program) (t : TypeId) : Option Nat := (P.info? t).map (·.size)
def bytesOf (P : Program) (t : TypeId) : Option Nat := (P.info? t).map (·.bytes)
def zeroOf (P : Program) (t : TypeId) : Option Value := ((P.info? t).bind (·.zero)).bind fun z => if flat2 z && z.cells.toList.all one then some z else none
/-- Where the parts of a struct or an array lie, and how long they are. -/
def placesOf (P : Program) (t : TypeId) : Option (List (Nat × Nat)) := match P.underlying t with
  | some (.struct fs) => fs.toList.mapM fun f => (szOf P f.type).map fun s => (f.offset, s)
  | some (.array n e) => (szOf P e).map fun s => (List.range n).map fun i => (i * s, s)
  | _ => none
def aggOf (P : Program) (t : TypeId) : Option Bool := (P.underlying t).map fun | .struct _ | .array .. => true | _ => false
def fldOf (P : Program) (s f : Nat) : Option (Nat × TypeId) := match P.underlying s with | some (.struct fs) => (fs[f]?).map fun x => (x.offset, x.type) | _ => none
def elemOf (P : Program) (t : TypeId) : Option TypeId := match P.underlying t with | some (.slice e) => some e | _ => none
/-- What a new row has; a struct that no row has: it lies alone. -/
def rowOf (P : Program) (t : TypeId) : Option TypeId := if t < P.types.size then elemOf P t else none
def lone (P : Program) (e : TypeId) : Bool := (match P.underlying e with | some (.struct _) => true | _ => false) && (List.range P.types.size).all fun t => elemOf P t != some e
def arrOf (P : Program) (t : TypeId) : Option (Nat × TypeId) := match P.underlying t with | some (.array n e) => some (n, e) | _ => none
def mapOf (P : Program) (t : TypeId) : Option (TypeId × TypeId) := match P.underlying t with | some (.map k e) => some (k, e) | _ => none
def kindOf (P : Program) (t : TypeId) : Option IntKind := match P.underlying t with | some (.int k) => some k | _ => none
-- cells
def rdCells (vs : List Value) (off n : Nat) : Option (List Value) := if off + n ≤ vs.length then some ((vs.drop off).take n) else none
def wrList (vs : List Value) (off : Nat) : List Value → List Value
  | [] => vs
  | x :: l => wrList (vs.set off x) (off + 1) l
def wrCells (vs : List Value) (off : Nat) (l : List Value) : Option (List Value) := if off + l.length ≤ vs.length then some (wrList vs off l) else none
def part (P : Program) (t : TypeId) (cs : List Value) (off : Nat) : Option Value :=
  (aggOf P t).bind fun g => if g then (szOf P t).bind fun n => (rdCells cs off n).map fun l => .agg l.toArray else cs[off]?
def loadAt (P : Program) (t : TypeId) (v : Value) (H : Hp) : Option Value := match v with
  | .pointer (some ⟨i, off, none⟩) => match H.get i with | some (.cells _ vs) => part P t vs off | _ => none
  | .func (.via off _ _ true) _ vs => part P t vs.toList off
  | _ => none
def storeAt (P : Program) (t : TypeId) (a v : Value) (H : Hp) : Option Hp := match a with
  | .pointer (some ⟨i, off, none⟩) => if H.mark ≤ i then (match H.get i with
      | some (.cells e vs) => if some v.cells.toList.length = szOf P t && v.cells.toList.all one then (wrCells vs off v.cells.toList).map fun vs' => H.put i (some (.cells e vs')) else none
      | _ => none) else none
  | _ => none
/-- parts laid into cells -/
def fillL (place : Nat → Option (Nat × Nat)) (cells : List Value) : List (Nat × Value) → Option (List Value)
  | [] => some cells
  | (i, v) :: rest => match place i with
    | none => none
    | some (off, size) => if v.cells.toList.length = size && off + size ≤ cells.length then fillL place (wrList cells off v.cells.toList) rest else none
-- numbers, texts, bools
def binInt (op : BinOp) (k : IntKind) (a b : Int) : Option Value := match op with
  | .add => some (.int k (k.wrap (a + b))) | .sub => some (.int k (k.wrap (a - b))) | .mul => some (.int k (k.wrap (a * b)))
  | .quo => if b = 0 then none else some (.int k (k.wrap (a.tdiv b)))
  | .rem => if b = 0 then none else some (.int k (a.tmod b))
  | .and => some (.int k (k.wrap (BitVec.ofInt k.bits a &&& BitVec.ofInt k.bits b).toNat))
  | .or => some (.int k (k.wrap (BitVec.ofInt k.bits a ||| BitVec.ofInt k.bits b).toNat))
  | .xor => some (.int k (k.wrap (BitVec.ofInt k.bits a ^^^ BitVec.ofInt k.bits b).toNat))
  | .andNot => some (.int k (k.wrap (BitVec.ofInt k.bits a &&& ~~~BitVec.ofInt k.bits b).toNat))
  | .eql => some (.bool (a == b)) | .neq => some (.bool (a != b)) | .lss => some (.bool (decide (a < b))) | .leq => some (.bool (decide (a ≤ b)))
  | .gtr => some (.bool (decide (a > b))) | .geq => some (.bool (decide (a ≥ b)))
  | _ => none
def binShift (op : BinOp) (k : IntKind) (a b : Int) : Option Value := if b < 0 then none else match op with
  | .shl => some (.int k (k.wrap (a * 2 ^ min b.toNat k.bits))) | .shr => some (.int k (a.fdiv (2 ^ min b.toNat k.bits))) | _ => none
def binStr (op : BinOp) (a b : ByteArray) : Option Value := match op with
  | .add => if a.size + b.size ≤ 9223372036854775807 then some (.string (a ++ b)) else none
  | .eql => some (.bool (a.toList == b.toList)) | .neq => some (.bool (!(a.toList == b.toList))) | _ => none
def pureRun {α : Type} (P : Program) : Sem α → Option α
  | .pure a => some a
  | .program k => pureRun P (k P)
  | .mark _ k => pureRun P k
  | _ => none
/-- 'nil' of a kind; whether a value of that kind is it. -/
def nilConst (P : Program) (t : TypeId) : Operand → Bool
  | .const (.slice none 0 0) => (match P.underlying t with | some (.slice _) => true | _ => false)
  | .const (.pointer none) => (match P.underlying t with | some (.pointer _) => true | _ => false)
  | .const (.map none) => (match P.underlying t with | some (.map ..) => true | _ => false)
  | .const .nilFunc => (match P.underlying t with | some (.func ..) => true | _ => false)
  | _ => false
def isNil (P : Program) (t : TypeId) (v : Value) : Option Bool := match P.underlying t, v with
  | some (.slice _), .slice a _ _ => some a.isNone
  | some (.pointer _), .pointer a => some a.isNone
  | some (.map ..), .map a => some a.isNone
  | some (.func ..), .nilFunc => some true
  | some (.func ..), .func (.func _) _ _ => some false
  | _, _ => none
def un (op : UnOp) (x : Value) : Option Value := match op, x with | .not, .bool b => some (.bool !b) | .neg, .int k n => some (.int k (k.wrap (0 - n))) | _, _ => none
def bin (P : Program) (op : BinOp) (t : TypeId) (ox oy : Operand) (x y : Value) : Option Value := match x, y with
  | .int k a, .int k' b => if op = .shl ∨ op = .shr then binShift op k a b else if k = k' then binInt op k a b else none
  | .string a, .string b => binStr op a b
  | .bool a, .bool b => match op with | .eql => (match P.underlying t with | some .bool => some (.bool (a == b)) | _ => none) | .neq => (match P.underlying t with | some .bool => some (.bool (!(a == b))) | _ => none) | _ => none
  | .pointer (some a), .pointer (some b) => if a = b then (match P.underlying t with
      | some (.pointer el) => (match szOf P el with
          | some (_ + 1) => (match op with | .eql => some (.bool true) | .neq => some (.bool false) | _ => none)
          | _ => none)
      | _ => none) else none
  | .agg a, .agg b => if a.toList.all flat1 && b.toList.all flat1 then (match pureRun P (do eqGuard op t ox oy x y; binOp op t x y) with | some (.bool r) => some (.bool r) | _ => none) else none
  | x, y => none
def lenList (v : Value) (H : Hp) (sz : Nat) : Option (List Value) := match v with
  | .slice none _ _ => some []
  | .slice (some ⟨i, off, none⟩) n _ => match H.get i with | some (.cells _ vs) => rdCells vs off (n * sz) | _ => none
  | .string s => some (s.data.toList.map fun b => .int .u8 b.toNat)
  | .slice (some ⟨0, 0, some 0⟩) 0 0 => some []
  | .func (.via n _ _ false) _ vs => if vs.size = n * sz then some vs.toList else none
  | _ => none
def lenOf : Value → Option Nat | .slice _ n _ => some n | .string s => some s.size | .func (.via n _ _ false) _ _ => some n | _ => none
/-- A text of its bytes as cells. -/
def strOf : List Value → Option (List UInt8)
  | [] => some []
  | .int .u8 n :: l => (strOf l).map fun r => UInt8.ofNat n.toNat :: r
  | _ => none
/-- Two keys of a kind; whether one may be a key. -/
def keyEq (P : Program) (kt : TypeId) (k k' : Value) : Option Bool := match P.underlying kt, k, k' with
  | some (.int _), .int q a, .int q' b => if q = q' then some (a == b) else none
  | some .string, .string a, .string b => some (a == b)
  | some .bool, .bool a, .bool b => some (a == b)
  | some (.struct _), .agg a, .agg b => if a.toList.all flat1 && b.toList.all flat1 then pureRun P (Op.equal kt (.agg a) (.agg b)) else none
  | _, _, _ => none
def keyOk (P : Program) (kt : TypeId) (k : Value) : Bool := match P.underlying kt, k with
  | some (.int _), .int .. => true
  | some .string, .string _ => true
  | some .bool, .bool _ => true
  | some (.struct _), .agg a => a.toList.all flat1 && (pureRun P (Instr.checkKey true 10000 kt k)).isSome && (pureRun P (Instr.checkKey false 10000 kt k)).isSome
  | _, _ => false
def findKey (P : Program) (kt : TypeId) (k : Value) : List (Value × Value) → Nat → Option (Option (Nat × Value))
  | [], _ => some none
  | e :: es, i => (keyEq P kt k e.1).bind fun b => if b then some (some (i, e.2)) else findKey P kt k es (i + 1)
def mapEs (m : Value) (H : Hp) : Option (List (Value × Value)) := match m with
  | .map none => some []
  | .map (some i) => match H.get i with | some (.map es) => some es | _ => none
  | _ => none
def putEs (es : List (Value × Value)) (r : Option (Nat × Value)) (k x : Value) : List (Value × Value) := match r with | some (j, _) => es.set j (k, x) | none => es ++ [(k, x)]
def sameOk (es : List (Value × Value)) (r : Option (Nat × Value)) (k : Value) : Bool := match r with | some (j, _) => Instr.sameBits 10000 (es.getD j default).1 k | none => true
def dropEs (es : List (Value × Value)) (r : Option (Nat × Value)) : List (Value × Value) := match r with | some (j, _) => es.eraseIdx j | none => es
def foldInts (f : Int → Int → Int) (k : IntKind) : Int → List Value → Option Value
  | a, [] => some (.int k a)
  | a, .int k' b :: l => if k = k' then foldInts f k (f a b) l else none
  | _, _ => none
def strOk (x : Value) (sz : Nat) : Bool := match x with | .string _ => sz == 1 | _ => true
def appendable (P : Program) (xT : Option TypeId) (e : TypeId) (sz : Nat) (x : Value) (news : List Value) : Bool :=
  news.all one && (match xT.bind P.underlying with | some (.slice _) | some .string => true | _ => false) && (match zeroOf P e with | some z => z.cells.toList.length == sz | none => false) && (match x with | .string _ => sz == 1 | _ => true)
def appendTo (P : Program) (sT : TypeId) (xT : Option TypeId) (s x : Value) (H : Hp) : Option (Value × Hp) :=
  (rowOf P sT).bind fun e => (szOf P e).bind fun sz => (bytesOf P e).bind fun by_ => (lenOf x).bind fun m => (lenList x H sz).bind fun news => if appendable P xT e sz x news then (match s with
  | .slice none 0 0 => if m = 0 then some (s, H) else if m * by_ ≤ 140737488355328 ∧ m ≤ 4611686018427387904 then some (slc H.next 0 m, H.new (.cells e news)) else none
  | .slice (some ⟨i, off, none⟩) n _ => if m = 0 then some (s, H) else if (n + m) * by_ ≤ 140737488355328 ∧ n + m ≤ 4611686018427387904 ∧ H.mark ≤ i then
      (match H.get i with
      | some (.cells e' vs) => if e' = e then (rdCells vs off (n * sz)).map fun old => (slc H.next 0 (n + m), (H.put i none).new (.cells e (old ++ news))) else none
      | _ => none) else none
  | _ => none)
  else none
def builtin1 (P : Program) (b : Builtin) (ts : Array TypeId) (args : List Value) (H : Hp) : Option (Value × Hp) := match b, args with
  | .len, [x] => (ts[0]?.bind P.underlying).bind fun d => (match d, x with
      | .string, .string s => some (.int .i64 s.size)
      | .slice _, .slice _ n _ => some (.int .i64 n)
      | .slice _, .func (.via n _ _ false) _ _ => some (.int .i64 n)
      | .map .., .map m => (mapEs (.map m) H).map fun es => .int .i64 es.length
      | .array n _, _ => some (.int .i64 n)
      | _, _ => none : Option Value).map (·, H)
  | .min, .int k a :: l => (foldInts (fun x y => if y < x then y else x) k a l).map (·, H)
  | .max, .int k a :: l => (foldInts (fun x y => if y > x then y else x) k a l).map (·, H)
  | .append, [s, x] => ts[0]?.bind fun t => appendTo P t ts[1]? s x H
  | .copy, [.slice (some ⟨i, off, none⟩) n _, x] => ts[0]?.bind fun t => (elemOf P t).bind fun e => (szOf P e).bind fun sz => (lenOf x).bind fun m => (lenList x H sz).bind fun cs =>
      if H.mark ≤ i then (match H.get i with
        | some (.cells e' vs) => if cs.all one && strOk x sz then (wrCells vs off (cs.take (min m n * sz))).map fun vs' => (.int .i64 (min m n : Nat), H.put i (some (.cells e' vs'))) else none
        | _ => none) else none
  | .unsafeSliceData, [.slice none 0 0] => some (.pointer none, H)
  | .unsafeSliceData, [.slice (some ⟨i, off, none⟩) n _] => if n = 0 then none else some (ptr i off, H)
  | .unsafeString, [.pointer none, .int .i64 q] => if q = 0 ∧ ts.size = 2 then some (.string .empty, H) else none
  | .unsafeString, [.pointer (some ⟨i, off, none⟩), .int .i64 q] => ts[0]?.bind fun pt => if 0 < q ∧ q ≤ 9223372036854775807 ∧ H.mark ≤ i ∧ ts.size = 2 then (match P.underlying pt, H.get i with
        | some (.pointer e), some (.cells e' vs) => if e' = e ∧ P.cellsOf e = 1 then ((rdCells vs off q.toNat).bind strOf).map fun l => (.string ⟨l.toArray⟩, H.put i none) else none
        | _, _ => none) else none
  | .delete, [.map (some i), k] => (ts[0]?.bind (mapOf P)).bind fun ke => if H.mark ≤ i ∧ keyOk P ke.1 k then (match H.get i with
      | some (.map es) => (findKey P ke.1 k es 0).map fun r => (.tuple #[], H.put i (some (.map (dropEs es r))))
      | _ => none) else none
  | _, _ => none
def numOf (d : Nat) : Option Value → Option Nat | none => some d | some (.int _ i) => if 0 ≤ i then some i.toNat else none | _ => none
def sliceOf (P : Program) (t : TypeId) (x : Value) (lo hi mx : Option Value) (H : Hp) : Option Value := match P.underlying t, x with
  | some .string, .string s => (numOf 0 lo).bind fun l => (numOf s.size hi).bind fun h => if mx.isNone ∧ l ≤ h ∧ h ≤ s.size then some (.string (s.extract l h)) else none
  | some (.slice e), .slice none 0 0 => (szOf P e).bind fun _ => (numOf 0 lo).bind fun l => (numOf 0 hi).bind fun h => (numOf h mx).bind fun m => if l = 0 ∧ h = 0 ∧ m = 0 ∧ (mx.isSome → hi.isSome) then some (.slice none 0 0) else none
  | some (.slice e), .slice (some ⟨i, off, none⟩) n _ => (szOf P e).bind fun sz => (numOf 0 lo).bind fun l => (numOf n hi).bind fun h => (numOf h mx).bind fun m =>
      if l ≤ h ∧ h ≤ n ∧ m = h ∧ (mx.isSome → hi.isSome) then (match H.get i with | some (.cells e' _) => if e' = e then some (slc i (off + l * sz) (h - l)) else none | _ => none) else none
  | some (.slice e), .func (.via n p f false) s vs => (szOf P e).bind fun sz => (numOf 0 lo).bind fun l => (numOf n hi).bind fun h => (numOf h mx).bind fun m =>
      if l ≤ h ∧ h ≤ n ∧ m = h ∧ (mx.isSome → hi.isSome) ∧ vs.size = n * sz then some (.func (.via (h - l) p f false) s ((vs.toList.drop (l * sz)).take ((h - l) * sz)).toArray) else none
  | _, _ => none
/-- What an operation leaves that hangs on no memory. -/
def op0 (P : Program) (σ : Env) (op : Op) : Option Value := match op with
  | .move x | .assign x => some (ev σ x)
  | .pick c a b => match ev σ c with | .bool t => some (if t then ev σ a else ev σ b) | _ => none
  | .build t ps => (zeroOf P t).bind fun z => (placesOf P t).bind fun pl => (fillL (fun i => pl[i]?) z.cells.toList (ps.toList.map fun p => (p.1, ev σ p.2))).map fun l => .agg l.toArray
  | .nilCheck x => match ev σ x with | .pointer (some a) => some (.pointer (some a)) | .func (.func f) a b => some (.func (.func f) a b) | .func (.via o p f true) a b => some (.func (.via o p f true) a b) | _ => none
  | .binOp op t x y _ => if nilConst P t x then (isNil P t (ev σ y)).bind fun b => match op with | .eql => some (.bool b) | .neq => some (.bool (!b)) | _ => none
        else if nilConst P t y then (isNil P t (ev σ x)).bind fun b => match op with | .eql => some (.bool b) | .neq => some (.bool (!b)) | _ => none
        else bin P op t x y (ev σ x) (ev σ y)
  | .unOp op _ x => un op (ev σ x)
  | .makeInterface t x => match P.underlying t with | some (.interface _) => none | some _ => some (.iface t (ev σ x)) | none => none
  | .makeFunc (.func fn) first caps => some (.func (.func fn) (first.map (ev σ)) (caps.map (ev σ)))
  | .fieldAddr s x f => match ev σ x with
      | .pointer (some ⟨i, off, none⟩) => (fldOf P s f).bind fun q => (szOf P q.2).bind fun z => if z = 0 then none else some (ptr i (off + q.1))
      | .func (.via off p g true) a vs => (fldOf P s f).bind fun q => (szOf P q.2).bind fun z => if z = 0 then none else some (.func (.via (off + q.1) p g true) a vs)
      | _ => none
  | .field t x f => match ev σ x with | .agg cs => (fldOf P t f).bind fun q => part P q.2 cs.toList q.1 | _ => none
  | .indexAddr t x j => match ev σ x, ev σ j with
      | .pointer (some ⟨i, off, none⟩), .int _ q => (arrOf P t).bind fun ne => (szOf P ne.2).bind fun sz => if 0 ≤ q ∧ q < ne.1 then some (ptr i (off + q.toNat * sz)) else none
      | .slice (some ⟨i, off, none⟩) n _, .int _ q => (elemOf P t).bind fun e => (szOf P e).bind fun sz => if 0 ≤ q ∧ q < n then some (ptr i (off + q.toNat * sz)) else none
      | .func (.via off p g true) a vs, .int _ q => (arrOf P t).bind fun ne => (szOf P ne.2).bind fun sz => if 0 ≤ q ∧ q < ne.1 then some (.func (.via (off + q.toNat * sz) p g true) a vs) else none
      | .func (.via n p g false) a vs, .int _ q => (elemOf P t).bind fun e => (szOf P e).bind fun sz => if 0 ≤ q ∧ q < n ∧ vs.size = n * sz then some (.func (.via (q.toNat * sz) p g true) a vs) else none
      | _, _ => none
  | .index t x j => match P.underlying t, ev σ x, ev σ j with
      | some .string, .string s, .int _ q => if 0 ≤ q ∧ q < s.size then some (.int .u8 ((s.data.toList.getD q.toNat 0).toNat : Nat)) else none
      | _, .agg cs, .int _ q => (arrOf P t).bind fun ne => (szOf P ne.2).bind fun sz => if 0 ≤ q ∧ q < ne.1 then part P ne.2 cs.toList (q.toNat * sz) else none
      | _, _, _ => none
  | .extract t j => match ev σ t with | .tuple vs => vs.toList[j]? | _ => none
  | _ => none
/-- What an operation that is no call leaves. -/
def op1 (P : Program) (σ : Env) (op : Op) (H : Hp) : Option (Value × Hp) := match op with
  | .alloc e => (zeroOf P e).map fun z => (ptr H.next 0, H.new (.cells e z.cells.toList))
  | .box e x => if (ev σ x).cells.toList.all one then some (ptr H.next 0, H.new (.cells e (ev σ x).cells.toList)) else none
  | .buildSlice t n ps => (elemOf P t).bind fun e => (szOf P e).bind fun sz => (zeroOf P e).bind fun z => if n * sz ≤ 16777216 ∧ sz = z.cells.toList.length then
        (fillL (fun i => some (i * sz, sz)) ((List.replicate n z.cells.toList).flatten) (ps.toList.map fun p => (p.1, ev σ p.2))).map fun l => (slc H.next 0 n, H.new (.cells e l)) else none
  | .load t a => (loadAt P t (ev σ a) H).map (·, H)
  | .store t a x => (storeAt P t (ev σ a) (ev σ x) H).map (undef, ·)
  | .convert s d x => match P.underlying s, P.underlying d, ev σ x with
      | some _, some (.int k'), .int _ n => some (.int k' (k'.wrap n), H)
      | some _, some .string, .string s => some (.string s, H)
      | some _, some (.slice e), .string s => if kindOf P e = some .u8 ∧ szOf P e = some 1 then some (slc H.next 0 s.size, H.new (.cells e (s.data.toList.map fun b => .int .u8 b.toNat))) else none
      | some (.pointer t), some .unsafePointer, .pointer (some ⟨i, 0, none⟩) => (match szOf P t, H.get i with
          | some (_ + 1), some (.cells _ (_ :: _)) => some (.pointer (some ⟨i, 0, none⟩), H)
          | _, _ => none)
      | some .unsafePointer, some (.pointer u), .pointer (some ⟨i, 0, none⟩) => (match szOf P u, H.get i with
          | some (_ + 1), some (.cells e vs) => if H.mark ≤ i ∧ lone P e ∧ liesAt P P.depth e (vs.length / P.cellsOf e) 0 u 1 then some (.pointer (some ⟨i, 0, none⟩), H) else none
          | _, _ => none)
      | some (.slice e), some .string, .slice none _ _ => if kindOf P e = some .u8 then some (.string .empty, H) else none
      | some (.slice e), some .string, .slice (some ⟨i, off, none⟩) n _ => if kindOf P e = some .u8 then (match H.get i with
          | some (.cells _ vs) => ((rdCells vs off n).bind strOf).map fun l => (.string ⟨l.toArray⟩, H)
          | _ => none) else none
      | some (.slice e), some .string, .func (.via n _ _ false) _ vs => if kindOf P e = some .u8 ∧ vs.size = n then (strOf vs.toList).map fun l => (.string ⟨l.toArray⟩, H) else none
      | _, _, _ => none
  | .makeMap t r => match r with
      | none => some (.map (some H.next), H.new (.map []))
      | some x => match ev σ x with | .int .. => (mapOf P t).map fun _ => (.map (some H.next), H.new (.map [])) | _ => none
  | .makeSlice t l c => match ev σ l, ev σ c with
      | .int .i64 n, .int .i64 m => (elemOf P t).bind fun e => (bytesOf P e).bind fun by_ => (szOf P e).bind fun sz => (zeroOf P e).bind fun z =>
          if n = m ∧ sz = z.cells.toList.length ∧ 0 ≤ n ∧ n * by_ ≤ 140737488355328 ∧ n ≤ 4611686018427387904 then some (slc H.next 0 n.toNat, H.new (.cells e ((List.replicate n.toNat z.cells.toList).flatten))) else none
      | _, _ => none
  | .slice t x lo hi mx => (sliceOf P t (ev σ x) (lo.map (ev σ)) (hi.map (ev σ)) (mx.map (ev σ)) H).map (·, H)
  | .lookup t m k ok => (mapOf P t).bind fun ke => (mapEs (ev σ m) H).bind fun es => if keyOk P ke.1 (ev σ k) then (findKey P ke.1 (ev σ k) es 0).bind fun r => (zeroOf P ke.2).map fun z =>
      (if ok then .tuple #[((r.map (·.2)).getD z), .bool r.isSome] else ((r.map (·.2)).getD z), H) else none
  | .mapUpdate t m k x | .insert t m k x => (mapOf P t).bind fun ke => match ev σ m with
      | .map (some i) => if H.mark ≤ i ∧ keyOk P ke.1 (ev σ k) then (match H.get i with
          | some (.map es) => (findKey P ke.1 (ev σ k) es 0).bind fun r => if sameOk es r (ev σ k) then some (undef, H.put i (some (.map (putEs es r (ev σ k) (ev σ x))))) else none
          | _ => none) else none
      | _ => none
  | op => (op0 P σ op).map (·, H)
/-- Functions; the rounds of loops over functions. -/
structure Fns where
  fn : FuncId → List Value → Hp → Option (Ending × Hp)
  yl : Nat → List Value → Hp → Option (Ending × Hp)
instance : CoeFun Fns fun _ => FuncId → List Value → Hp → Option (Ending × Hp) := ⟨Fns.fn⟩
abbrev Lps := Code → Env → Hp → Option (Exit × Env × Hp)
/-- A value that stays as it is: all its rows by their cells. 'lo': rows from there on are let go; below, they stay what they are. -/
def freeze (P : Program) (g : Nat → Option Ob) (s : Array Value) (lo : Nat) : Nat → Value → Option Value
  | 0, _ => none
  | k + 1, v => match v with
    | .slice none 0 0 => some (.func (.via 0 #[] 0 false) s #[])
    | .slice (some ⟨0, 0, some 0⟩) 0 0 => some (.func (.via 0 #[] 0 false) s #[])
    | .slice (some ⟨i, off, none⟩) n _ => if lo ≤ i then (match g i with
        | some (.cells e vs) => (szOf P e).bind fun sz => if sz = 0 then none else (rdCells vs off (n * sz)).bind fun l => (l.mapM (freeze P g s lo k)).map fun r => .func (.via n #[] 0 false) s r.toArray
        | _ => none) else none
    | .func (.via n p f false) a vs => if a = #[] ∨ s ≠ #[] then (vs.toList.mapM (freeze P g s lo k)).map fun r => .func (.via n p f false) s r.toArray else none
    | .func (.via n p f true) a vs => if s = #[] then none else some (.func (.via n p f true) a vs)
    | .agg cs => (cs.toList.mapM (freeze P g s lo k)).map fun r => .agg r.toArray
    | .tuple cs => (cs.toList.mapM (freeze P g s lo k)).map fun r => .tuple r.toArray
    | .iface t x => (freeze P g s lo k x).map (.iface t)
    | .pointer (some a) => if s = #[] then none else some (.pointer (some a))
    | .map (some i) => if s = #[] then none else some (.map (some i))
    | .func (.func f) a b => if s = #[] then none else some (.func (.func f) a b)
    | v => if flat1 v then some v else none
def callOf (P : Program) (call : Fns) (σ : Env) (c : Call) (H : Hp) : Option (Ending × Hp) := match c.callee with
  | .builtin b => (builtin1 P b c.argTypes (c.args.toList.map (ev σ)) H).map fun r => (.returned r.1, r.2)
  | .value f => match ev σ f with | .func (.func g) first caps => call.fn g (first.toList ++ c.args.toList.map (ev σ) ++ caps.toList) H | .func (.yield i) a b => if a.size = 0 ∧ b.size = 0 then call.yl i (c.args.toList.map (ev σ)) H else none | _ => none
  | .invoke .. => none
def yield1 (ops : Array Oper) (σ : Env) (j : Nat) : Option Bool := match (ops[j]?).bind (·.dst) with | some d => (match σ d with | .bool b => some b | _ => none) | none => none
/-- One operation, in the text's order. -/
def step1 (P : Program) (call : Fns) (o : Oper) (σ : Env) (H : Hp) : Option (Ending × Hp) := match o.op with
  | .call c => callOf P call σ c H
  | .panic x => match ev σ x with | .iface t v => if flat2 v then some (.panicked [{ v := .iface t v, recovered := false }], H) else none | _ => none
  | op => (op1 P σ op H).map fun r => (.returned r.1, r.2)
def execOps (P : Program) (call : Fns) (all : Array Oper) : List Oper → Env → Hp → Option (Exit × Env × Hp)
  | [], σ, H => some (.normal, σ, H)
  | o :: rest, σ, H => if Region.wanted o (yield1 all σ) then (step1 P call o σ H).bind fun r => match r.1 with
      | .returned v => execOps P call all rest (put o.dst v σ) r.2
      | .panicked ch => some (.panic ch, σ, r.2)
      | .outgrown => none
    else execOps P call all rest (put o.dst undef σ) H
end Go.L1
