/- Lemmas that lead to the statement: a deterministic machine over a heap of its own: code with its types resolved, and how it runs. Plain definitions. -/
import GoSem.Step
set_option linter.all false
set_option linter.unusedVariables false
namespace Dm
open Go

inductive X where
  | t (n : Nat)
  | c (v : Value)
  | f (n : Nat)
  deriving Inhabited

inductive EqK where
  | bool
  | slice
  | ints (offs : List Nat)
  | nilI
  deriving Inhabited, DecidableEq

inductive MOp where
  | mv (x : X)
  | pick (c a b : X)
  | new (z : List Value) (e : Nat)
  | box (e : Nat) (x : X)
  | build (z : List Value) (ps : List (Nat × Nat × X))
  | lit (e : Nat) (z : List Value) (ps : List (Nat × Nat × X)) (len : Nat)
  | ld (a : X)
  | lds (n : Nat) (a : X)
  | st (n : Nat) (a x : X)
  | chk (x : X)
  | bin (op : BinOp) (x y : X)
  | eq (neq : Bool) (k : EqK) (x y : X)
  | not (x : X)
  | neg (x : X)
  | cvt (k : IntKind) (x : X)
  | bytes (e : Nat) (x : X)
  | fld (off : Nat) (x : X)
  | flds (off n : Nat) (x : X)
  | fa (off : Nat) (x : X)
  | ia (size : Nat) (x i : X)
  | ix (x i : X)
  | sl (size : Nat) (x : X) (lo hi mx : Option X)
  | sls (x : X) (lo hi : Option X)
  | mk (e size bytes : Nat) (z : List Value) (len cap : X)
  | iface (t : Nat) (x : X)
  | ext (x : X) (i : Nat)
  | fn (f : Nat) (caps : List X)
  | call (f : X) (args : List X)
  | app (e size bytes : Nat) (z : List Value) (s x : X)
  | appz (e size bytes : Nat) (z : List Value) (s x : X)
  | cpy (size : Nat) (d s : X)
  | len (x : X)
  | slen (x : X)
  | cap (x : X)
  | max2 (x y : X)
  | clr (z : List Value) (x : X)
  | bad
  deriving Inhabited

/-- An operation: where its value goes, its guard (a temporary and what it must hold), and addresses whose blocks it must leave alone. -/
structure MO where
  dst : Option Nat
  op : MOp
  guard : Option (Nat × Bool)
  keep : List X
  deriving Inhabited

inductive MCode where
  | skip
  | reg (ops : List MO)
  | dreg (ord : List Nat) (ops : List MO)
  | seq (a b : MCode)
  | ite (c : X) (a b : MCode)
  | blk (id : Nat) (c : MCode)
  | loop (c : MCode)
  | exit (id : Nat)
  | ret
  | rangeF (f : X) (ps : List Nat) (asg body : MCode)
  deriving Inhabited

inductive Ex where
  | normal
  | exit (id : Nat)
  | ret
  deriving DecidableEq, Inhabited

inductive MRes where
  | t (n : Nat)
  | cell (n : Nat) (size : Option Nat)
  deriving Inhabited

structure MFun where
  ntmps : Nat
  results : List MRes
  body : MCode
  deriving Inhabited

/-- What a row of cells is: to be read alone; its very cells; elements of so many cells with spare places that are not known. -/
inductive Kd where
  | ro
  | fix
  | loose (sz : Nat)
  | rob
  deriving DecidableEq, Inhabited
def Kd.spare : Kd → Option Nat
  | .loose sz => some sz
  | .rob => some 0
  | _ => none
/-- May it be written? -/
def Kd.w : Kd → Bool
  | .fix => true
  | .loose _ => true
  | _ => false

/-- How a loop over a function stands: between rounds; in a round; left. -/
inductive LSt where
  | ready
  | busy
  | done (e : Ex)
  deriving Inhabited
/-- A block; 'ver' counts its writes. -/
inductive AObj where
  | cells (cs : List Value) (e : Nat) (kd : Kd) (ver : Nat)
  | dead (ver : Nat)
  | loop (tm : List Value) (ps : List Nat) (asg body : MCode) (st : LSt) (ver : Nat)
  deriving Inhabited
/-- Is it written? Is it in use? -/
def AObj.rw : AObj → Bool
  | .cells _ _ kd _ => kd.w
  | .dead _ => false
  | .loop .. => true
def AObj.live : AObj → Bool
  | .dead _ => false
  | _ => true

abbrev Heap := List AObj
abbrev Tm := List Value

def undefV : Value := .tuple #[]
def ev (tm : Tm) : X → Value
  | .t n => tm.getD n undefV
  | .c v => v
  | .f n => .func (.func n) #[] #[]

def rd (H : Heap) (i o : Nat) : Option Value :=
  match H[i]? with
  | some (.cells cs _ _ _) => cs[o]?
  | _ => none
def rds (H : Heap) (i o n : Nat) : Option (List Value) :=
  match H[i]? with
  | some (.cells cs _ _ _) => if o + n ≤ cs.length then some ((cs.drop o).take n) else none
  | _ => none
def flat : Value → Bool
  | .agg _ => false
  | .tuple _ => false
  | _ => true
def wr (H : Heap) (i o : Nat) (vs : List Value) : Option Heap :=
  match H[i]? with
  | some (.cells cs e kd ver) => if kd.w = true ∧ o + vs.length ≤ cs.length ∧ vs.all flat = true then some (H.set i (.cells (cs.take o ++ vs ++ cs.drop (o + vs.length)) e kd (ver + 1))) else none
  | _ => none
def ver (H : Heap) (i : Nat) : Nat :=
  match H[i]? with
  | some (.cells _ _ _ v) => v
  | some (.dead v) => v
  | some (.loop _ _ _ _ _ v) => v
  | none => 0
def kdAt (H : Heap) (i : Nat) : Kd :=
  match H[i]? with
  | some (.cells _ _ kd _) => kd
  | _ => .loose 0
def kill (H : Heap) (i : Nat) : Heap := H.set i (.dead (ver H i + 1))

/-- Parts laid over cells. -/
def lay (z : List Value) : List (Nat × List Value) → Option (List Value)
  | [] => some z
  | (o, vs) :: r => if o + vs.length ≤ z.length then lay (z.take o ++ vs ++ z.drop (o + vs.length)) r else none

def intV (op : BinOp) (k : IntKind) (a b : Int) : Option Value :=
  match op with
  | .add => some (.int k (k.wrap (a + b)))
  | .sub => some (.int k (k.wrap (a - b)))
  | .mul => some (.int k (k.wrap (a * b)))
  | .quo => if b = 0 then none else some (.int k (k.wrap (a.tdiv b)))
  | .rem => if b = 0 then none else some (.int k (a.tmod b))
  | .eql => some (.bool (a == b))
  | .neq => some (.bool (a != b))
  | .lss => some (.bool (a < b))
  | .leq => some (.bool (a ≤ b))
  | .gtr => some (.bool (a > b))
  | .geq => some (.bool (a ≥ b))
  | .and => some (.int k (k.wrap ((BitVec.ofInt k.bits a &&& BitVec.ofInt k.bits b).toNat)))
  | .or => some (.int k (k.wrap ((BitVec.ofInt k.bits a ||| BitVec.ofInt k.bits b).toNat)))
  | .xor => some (.int k (k.wrap ((BitVec.ofInt k.bits a ^^^ BitVec.ofInt k.bits b).toNat)))
  | .andNot => some (.int k (k.wrap ((BitVec.ofInt k.bits a &&& ~~~BitVec.ofInt k.bits b).toNat)))
  | _ => none
def shV (op : BinOp) (k : IntKind) (a b : Int) : Option Value :=
  if b < 0 then none else
  match op with
  | .shl => some (.int k (k.wrap (a * 2 ^ (min b.toNat k.bits))))
  | .shr => some (.int k (a.fdiv (2 ^ (min b.toNat k.bits))))
  | _ => none
def strV (op : BinOp) (a b : ByteArray) : Option Value :=
  match op with
  | .add => if a.size + b.size ≤ 9223372036854775807 then some (.string (a ++ b)) else none
  | .eql => some (.bool (a.toList == b.toList))
  | .neq => some (.bool !(a.toList == b.toList))
  | .lss => some (.bool (Op.bytesLess a.toList b.toList))
  | _ => none
def binV (op : BinOp) (x y : Value) : Option Value :=
  match x, y with
  | .int k a, .int k' b =>
    match op with
    | .shl => shV .shl k a b
    | .shr => shV .shr k a b
    | op => if k = k' then intV op k a b else none
  | .string a, .string b => strV op a b
  | _, _ => none
/-- Cells of whole numbers, at some places: are they equal? -/
def eqInts (xs ys : Array Value) : List Nat → Option Bool
  | [] => some true
  | o :: r =>
    match xs[o]?, ys[o]? with
    | some (.int k a), some (.int k' b) => if k = k' then (if a = b then eqInts xs ys r else some false) else none
    | _, _ => none
def eqV (k : EqK) (x y : Value) : Option Bool :=
  match k, x, y with
  | .bool, .bool a, .bool b => some (a == b)
  | .slice, .slice none _ _, .slice b _ _ => some b.isNone
  | .slice, .slice (some _) _ _, .slice none _ _ => some false
  | .ints offs, .agg xs, .agg ys => eqInts xs ys offs
  | .nilI, .nilIface, .nilIface => some true
  | .nilI, .iface _ _, .nilIface => some false
  | _, _, _ => none

def bnd (x : Option X) (ρ : X → Value) (d : Nat) (y : Nat) : Option Nat :=
  match x with
  | none => some d
  | some x => match ρ x with
    | .int _ i => if 0 ≤ i ∧ i ≤ y then some i.toNat else none
    | _ => none

/-- The cells of the first n elements of what is appended or copied. -/
def srcCells (H : Heap) (size n : Nat) : Value → Option (List Value)
  | .slice (some ⟨i, o, none⟩) _ _ => if n * size = 0 then some [] else rds H i o (n * size)
  | .slice (some ⟨_, _, some _⟩) _ _ => if n = 0 then some [] else none
  | .slice none _ _ => some []
  | .string s => some ((s.extract 0 n).data.toList.map fun b => .int .u8 b.toNat)
  | _ => none
def lenV : Value → Option Nat
  | .slice _ n _ => some n
  | .string s => some s.size
  | _ => none
def zeros (z : List Value) : Nat → List Value
  | 0 => []
  | n + 1 => z ++ zeros z n

/-- An append of cells (n elements): in place where there is room for sure; else a new row (the old one, where it may have spare places that are not known, is given up). -/
def appV (H : Heap) (e size bytes : Nat) (s : Value) (n : Nat) (new : List Value) : Option (Value × Heap) :=
  match s with
  | .slice none len cap =>
    if len + n ≤ cap then (if new = [] then some (.slice none (len + n) cap, H) else none)
    else if (len + n) * bytes ≤ 140737488355328 ∧ len = 0 then some (.slice (some ⟨H.length, 0, none⟩) n n, H ++ [.cells new e (.loose size) 0]) else none
  | .slice (some ⟨i, o, none⟩) len cap =>
    if len + n ≤ cap then
      (if new = [] then some (.slice (some ⟨i, o, none⟩) (len + n) cap, H) else (wr H i (o + len * size) new).map fun H' => (.slice (some ⟨i, o, none⟩) (len + n) cap, H'))
    else if (len + n) * bytes ≤ 140737488355328 then
      match rds H i o (len * size) with
      | some old => match (kdAt H i).spare with
        | none => some (.slice (some ⟨H.length, 0, none⟩) (len + n) (len + n), H ++ [.cells (old ++ new) e (.loose size) 0])
        | some sz => if sz = size ∧ new.all flat = true then some (.slice (some ⟨H.length, 0, none⟩) (len + n) (len + n), kill H i ++ [.cells (old ++ new) e (.loose size) 0]) else none
      | none => none
    else none
  | _ => none

def len0 : Value → Nat
  | .slice _ l _ => l
  | _ => 0
/-- Cells are copied to a row's begin. -/
def cpyH (H : Heap) (base : Option Addr) (cells : List Value) : Option Heap :=
  match base with
  | none => if cells = [] then some H else none
  | some ⟨i, o, none⟩ => if cells = [] then some H else wr H i o cells
  | _ => none
def ptr (i o : Nat) : Value := .pointer (some ⟨i, o, none⟩)
def newAt (H : Heap) : Value := ptr H.length 0
def partsOf (ρ : X → Value) (ps : List (Nat × Nat × X)) : Option (List (Nat × List Value)) :=
  match ps with
  | [] => some []
  | (o, n, x) :: r => if (ρ x).cells.size = n then (partsOf ρ r).map ((o, (ρ x).cells.toList) :: ·) else none

/-- A part of a slice, from l to h, up to m. -/
def slV (H : Heap) (size : Nat) (nomax : Bool) (a : Option Addr) (h l m : Nat) : Option Value :=
  match a with
  | none => some (.slice none (h - l) (m - l))
  | some ⟨i, o, none⟩ =>
    match (kdAt H i).spare with
    | none => if m = l then some (.slice (some ⟨i, o, none⟩) (h - l) (m - l)) else some (.slice (some ⟨i, o + l * size, none⟩) (h - l) (m - l))
    | some sz =>
      if nomax then (if sz = size ∧ size ≠ 0 ∧ m ≠ l ∧ l ≤ m then some (.slice (some ⟨i, o + l * size, none⟩) (h - l) (m - l)) else none)
      else if m = l then some (.slice (some ⟨i, o, none⟩) (h - l) (m - l)) else some (.slice (some ⟨i, o + l * size, none⟩) (h - l) (m - l))
  | _ => none

/-- An operation that calls nothing. -/
def opV (ρ : X → Value) (H : Heap) : MOp → Option (Value × Heap)
  | .mv x => some (ρ x, H)
  | .pick c a b => match ρ c with
    | .bool t => some (if t then ρ a else ρ b, H)
    | _ => none
  | .new z e => some (newAt H, H ++ [.cells z e .fix 0])
  | .box e x => some (newAt H, H ++ [.cells (ρ x).cells.toList e .fix 0])
  | .build z ps => match partsOf ρ ps with
    | some l => (lay z l).map fun cs => (.agg cs.toArray, H)
    | none => none
  | .lit e z ps len => match partsOf ρ ps with
    | some l => (lay (zeros z len) l).map fun cs => (.slice (some ⟨H.length, 0, none⟩) len len, H ++ [.cells cs e .fix 0])
    | none => none
  | .ld a => match ρ a with
    | .pointer (some ⟨i, o, none⟩) => (rd H i o).map (·, H)
    | _ => none
  | .lds n a => match ρ a with
    | .pointer (some ⟨i, o, none⟩) => (rds H i o n).map fun l => (.agg l.toArray, H)
    | _ => none
  | .st n a x => match ρ a with
    | .pointer (some ⟨i, o, none⟩) => if (ρ x).cells.size = n then (wr H i o (ρ x).cells.toList).map (undefV, ·) else none
    | _ => none
  | .chk x => match ρ x with
    | .pointer (some a) => some (.pointer (some a), H)
    | .func (.func g) f c => some (.func (.func g) f c, H)
    | _ => none
  | .bin op x y => (binV op (ρ x) (ρ y)).map (·, H)
  | .eq neq k x y => (eqV k (ρ x) (ρ y)).map fun b => (.bool (if neq then !b else b), H)
  | .not x => match ρ x with
    | .bool b => some (.bool !b, H)
    | _ => none
  | .neg x => match ρ x with
    | .int k n => some (.int k (k.wrap (0 - n)), H)
    | _ => none
  | .cvt k x => match ρ x with
    | .int _ n => some (.int k (k.wrap n), H)
    | _ => none
  | .bytes e x => match ρ x with
    | .string s => if s.size ≤ 140737488355328 then some (.slice (some ⟨H.length, 0, none⟩) s.size s.size, H ++ [.cells (s.data.toList.map fun b => .int .u8 b.toNat) e .rob 0]) else none
    | _ => none
  | .fld off x => match ρ x with
    | .agg cs => (cs[off]?).map (·, H)
    | _ => none
  | .flds off n x => match ρ x with
    | .agg cs => some (.agg (cs.extract off (off + n)), H)
    | _ => none
  | .fa off x => match ρ x with
    | .pointer (some ⟨i, o, none⟩) => some (ptr i (o + off), H)
    | _ => none
  | .ia size x i => match ρ x, ρ i with
    | .slice (some ⟨b, o, none⟩) len _, .int _ j => if 0 ≤ j ∧ j < len then some (ptr b (o + j.toNat * size), H) else none
    | _, _ => none
  | .ix x i => match ρ x, ρ i with
    | .string s, .int _ j => if 0 ≤ j then (s[j.toNat]?).map fun b => (.int .u8 b.toNat, H) else none
    | _, _ => none
  | .sl size x lo hi mx => match ρ x with
    | .slice a len cap =>
      match bnd mx ρ cap cap with
      | none => none
      | some m => match bnd hi ρ len m with
        | none => none
        | some h => match bnd lo ρ 0 h with
          | none => none
          | some l => (slV H size mx.isNone a h l m).map (·, H)
    | _ => none
  | .sls x lo hi => match ρ x with
    | .string s => match bnd hi ρ s.size s.size with
      | none => none
      | some h => match bnd lo ρ 0 h with
        | none => none
        | some l => some (.string (s.extract l h), H)
    | _ => none
  | .mk e size bytes z len cap => match ρ len, ρ cap with
    | .int .i64 l, .int .i64 c => if 0 ≤ l ∧ l ≤ c ∧ c ≤ 9223372036854775807 ∧ bytes * c ≤ 281474976710656 then some (.slice (some ⟨H.length, 0, none⟩) l.toNat c.toNat, H ++ [.cells (zeros z c.toNat) e .fix 0]) else none
    | _, _ => none
  | .iface t x => some (.iface t (ρ x), H)
  | .ext x i => match ρ x with
    | .tuple vs => (vs[i]?).map (·, H)
    | _ => none
  | .fn f caps => some (.func (.func f) #[] (caps.map ρ).toArray, H)
  | .app e size bytes z s x => match lenV (ρ x) with
    | some n => match srcCells H size n (ρ x) with
      | some new => if new.length = n * size then appV H e size bytes (ρ s) n new else none
      | none => none
    | none => none
  | .appz e size bytes z s x => match ρ x with
    | .int .i64 n => if 0 ≤ n ∧ n ≤ 9223372036854775807 ∧ n * bytes ≤ 281474976710656 ∧ len0 (ρ s) + n.toNat ≤ 9223372036854775807 then appV H e size bytes (ρ s) n.toNat (zeros z n.toNat) else none
    | _ => none
  | .cpy size d s => match ρ d, lenV (ρ s) with
    | .slice base dl _, some sl =>
      match srcCells H size (min sl dl) (ρ s) with
      | some cells => (cpyH H base cells).map (.int .i64 (min sl dl : Nat), ·)
      | none => none
    | _, _ => none
  | .len x => match ρ x with
    | .slice _ n _ => some (.int .i64 n, H)
    | _ => none
  | .slen x => match ρ x with
    | .string s => some (.int .i64 s.size, H)
    | _ => none
  | .cap x => match ρ x with
    | .slice none _ c => some (.int .i64 c, H)
    | .slice (some ⟨i, _, none⟩) _ c => match (kdAt H i).spare with
      | none => some (.int .i64 c, H)
      | some _ => none
    | _ => none
  | .max2 x y => match ρ x, ρ y with
    | .int k a, .int _ b => some (.int k (if b > a then b else a), H)
    | _, _ => none
  | .clr z x => match ρ x with
    | .slice (some ⟨i, o, none⟩) n _ => if n = 0 then some (undefV, H) else (wr H i o (zeros z n)).map (undefV, ·)
    | .slice none n _ => if n = 0 then some (undefV, H) else none
    | _ => none
  | .call _ _ => none
  | .bad => none

/-- What is called: a function; a round of a loop. -/
inductive Tgt where
  | fn (g : Nat)
  | round (l : Nat)
abbrev CallF := Tgt → List Value → Heap → Option (Value × Heap)
def opC (C : CallF) (ρ : X → Value) (H : Heap) (o : MOp) : Option (Value × Heap) :=
  match o with
  | .call f args => match ρ f with
    | .func (.func g) first cap => C (.fn g) (first.toList ++ args.map ρ ++ cap.toList) H
    | .func (.yield l) first cap => if first.size = 0 ∧ cap.size = 0 then C (.round l) (args.map ρ) H else none
    | _ => none
  | o => opV ρ H o

def put (tm : Tm) (d : Option Nat) (v : Value) : Tm :=
  match d with
  | some d => tm.set d v
  | none => tm
def wants (tm : Tm) (g : Option (Nat × Bool)) : Bool :=
  match g with
  | none => true
  | some (t, b) => match tm.getD t undefV with
    | .bool b' => b' == b
    | _ => false
def kept (tm : Tm) (H H' : Heap) (x : X) : Bool :=
  match ev tm x with
  | .pointer (some ⟨i, _, none⟩) => decide (i < H.length) && ver H i == ver H' i
  | .slice (some ⟨i, _, none⟩) _ _ => decide (i < H.length) && ver H i == ver H' i
  | _ => true
def runO (C : CallF) (tm : Tm) (H : Heap) (o : MO) : Option (Tm × Heap) :=
  if wants tm o.guard then
    match opC C (ev tm) H o.op with
    | some (v, H') => if o.keep.all (kept tm H H') then some (put tm o.dst v, H') else none
    | none => none
  else some (put tm o.dst undefV, H)
def runOs (C : CallF) : List MO → Tm → Heap → Option (Tm × Heap)
  | [], tm, H => some (tm, H)
  | o :: r, tm, H => match runO C tm H o with
    | some (tm', H') => runOs C r tm' H'
    | none => none

abbrev Res := Option (Ex × Tm × Heap)
def iter (step : Tm → Heap → Res) : Nat → Tm → Heap → Res
  | 0, _, _ => none
  | n + 1, tm, H => match step tm H with
    | some (.normal, tm', H') => iter step n tm' H'
    | r => r
def exec (C : CallF) (n : Nat) : MCode → Tm → Heap → Res
  | .skip, tm, H => some (.normal, tm, H)
  | .reg ops, tm, H => (runOs C ops tm H).map fun r => (.normal, r.1, r.2)
  | .dreg _ ops, tm, H => (runOs C ops tm H).map fun r => (.normal, r.1, r.2)
  | .seq a b, tm, H => match exec C n a tm H with
    | some (.normal, tm', H') => exec C n b tm' H'
    | r => r
  | .ite c a b, tm, H => match ev tm c with
    | .bool true => exec C n a tm H
    | .bool false => exec C n b tm H
    | _ => none
  | .blk id c, tm, H => match exec C n c tm H with
    | some (.exit j, tm', H') => if j = id then some (.normal, tm', H') else some (.exit j, tm', H')
    | r => r
  | .loop c, tm, H => iter (exec C n c) n tm H
  | .exit id, tm, H => some (.exit id, tm, H)
  | .ret, tm, H => some (.ret, tm, H)
  | .rangeF f ps asg body, tm, H => match ev tm f with
    | .func (.func g) first cap =>
      match C (.fn g) (first.toList ++ [.func (.yield H.length) #[] #[]] ++ cap.toList) (H ++ [.loop tm ps asg body .ready 0]) with
      | some (_, H') => match H'[H.length]? with
        | some (.loop _ _ _ _ .ready _) => some (.normal, tm, kill H' H.length)
        | some (.loop _ _ _ _ (.done e) _) => if e = .normal then none else some (e, tm, kill H' H.length)
        | _ => none
      | none => none
    | _ => none

def resOf (tm : Tm) (H : Heap) : MRes → Option Value
  | .t n => some (tm.getD n undefV)
  | .cell n size => match tm.getD n undefV with
    | .pointer (some ⟨i, o, none⟩) => match size with
      | none => rd H i o
      | some k => (rds H i o k).map fun l => .agg l.toArray
    | _ => none
def resAll (tm : Tm) (H : Heap) : List MRes → Option (List Value)
  | [] => some []
  | r :: rs => match resOf tm H r, resAll tm H rs with
    | some v, some vs => some (v :: vs)
    | _, _ => none
def one (vs : List Value) : Value :=
  match vs with
  | [v] => v
  | vs => .tuple vs.toArray
abbrev Tab := Nat → Option MFun
/-- Functions that are taken as they are told. -/
abbrev Prims := Nat → Option (List Value → Heap → Option (Value × Heap))
def setAll (tm : Tm) : List Nat → List Value → Tm
  | t :: ts, v :: vs => setAll (tm.set t v) ts vs
  | _, _ => tm
/-- A loop's state is set. -/
def setLoop (H : Heap) (l : Nat) (st : LSt) : Heap :=
  match H[l]? with
  | some (.loop tm ps asg body _ v) => H.set l (.loop tm ps asg body st (v + 1))
  | _ => H
/-- A round of a loop: goes it on? -/
def roundM (ex : MCode → Tm → Heap → Res) (l : Nat) (args : List Value) (H : Heap) : Option (Value × Heap) :=
  match H[l]? with
  | some (.loop tm ps asg body .ready _) =>
    if args.length = ps.length then
      match ex asg (setAll tm ps args) H with
      | some (.normal, tm1, H1) => match H1[l]? with
        | some (.loop _ _ _ _ .ready _) => match ex body tm1 (setLoop H1 l .busy) with
          | some (e, _, H2) => match H2[l]? with
            | some (.loop _ _ _ _ .busy _) => if e = .normal then some (.bool true, setLoop H2 l .ready) else some (.bool false, setLoop H2 l (.done e))
            | _ => none
          | none => none
        | _ => none
      | _ => none
    else none
  | _ => none
def callM (T : Tab) (pr : Prims) : Nat → CallF
  | 0 => fun _ _ _ => none
  | k + 1 => fun f args H =>
    match f with
    | .fn f => match pr f with
      | some g => g args H
      | none => match T f with
        | some mf => match exec (callM T pr k) k mf.body (args ++ List.replicate (mf.ntmps - args.length) undefV) H with
          | some (.normal, tm, H') => (resAll tm H' mf.results).map fun vs => (one vs, H')
          | some (.ret, tm, H') => (resAll tm H' mf.results).map fun vs => (one vs, H')
          | _ => none
        | none => none
    | .round l => roundM (exec (callM T pr k) k) l args H

end Dm
